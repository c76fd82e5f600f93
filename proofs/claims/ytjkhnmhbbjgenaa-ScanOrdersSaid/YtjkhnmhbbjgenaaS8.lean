import Derived.Test.YtjkhnmhbbjgenaaEngS9
import Derived.Test.YtjkhnmhbbjgenaaS7
open Go Go.Proofs Eng
set_option maxRecDepth 100000
set_option linter.unusedSimpArgs false
set_option linter.unusedVariables false
def a83 : AC := .seq (.ops false [] [⟨some 2, .box 42 7 1 true, [.t 0], none⟩, ⟨some 4, .p (.mov), [.c (.nilslice)], none⟩, ⟨some 5, .p (.mov), [.c (.int .i64 0)], none⟩]) (.seq (.ops false [] [⟨some 15, .p (.mov), [.t 1], none⟩, ⟨some 16, .call 80, [.t 15], none⟩, ⟨some 14, .p (.mov), [.t 16], none⟩, ⟨some 17, .p (.ext 0), [.t 14], none⟩, ⟨some 18, .p (.ext 1), [.t 14], none⟩, ⟨some 6, .p (.mov), [.t 17], none⟩, ⟨some 7, .p (.mov), [.t 18], none⟩]) (.seq (.seq (.ops false [] [⟨some 19, .load 7 true, [.t 2], none⟩, ⟨some 20, .call 95, [.t 19], none⟩, ⟨some 21, .p (.mov), [.t 7], none⟩, ⟨some 22, .fbs 1, [.t 20, .t 21], none⟩, ⟨some 23, .call 86, [.t 22], none⟩, ⟨some 7, .p (.mov), [.t 23], none⟩]) (.seq (.ops false [] [⟨some 24, .p (.mov), [.t 7], none⟩, ⟨some 25, .p (.binI .neq), [.t 24, .c (.int .i64 0)], none⟩]) (.cond (.t 25) (.seq (.ops false [] [⟨some 26, .p (.mov), [.t 7], none⟩, ⟨some 4, .p (.mov), [.c (.nilslice)], none⟩, ⟨some 5, .p (.mov), [.t 26], none⟩]) (.ret)) (.skip)))) (.seq (.ops false [] [⟨some 8, .p (.mov), [.c (.nilslice)], none⟩]) (.seq (.ops true [(1, 2)] [⟨some 27, .p (.faddr 0), [.t 2], none⟩, ⟨some 28, .load 2 true, [.t 27], none⟩, ⟨some 10, .alloc 37 2 [.agg [.int .i64 0, .int .i64 0]], [], none⟩, ⟨some 9, .p (.mov), [.c (.int .i64 0)], none⟩, ⟨none, .store 2 true, [.t 10, .t 28], none⟩]) (.seq (.seq (.ops false [] [⟨some 29, .p (.mov), [.t 6], none⟩, ⟨some 30, .p (.lenS), [.t 29], none⟩, ⟨some 31, .p (.mov), [.c (.int .i64 0)], none⟩]) (.block 0 (.loop (.seq (.ops false [] [⟨some 32, .p (.binI .lss), [.t 31, .t 30], none⟩]) (.seq (.cond (.t 32) (.skip) (.exit 0)) (.seq (.block 1 (.seq (.ops false [] [⟨some 33, .p (.iaddrS 3), [.t 29, .t 31], none⟩, ⟨some 34, .load 3 true, [.t 33], none⟩, ⟨some 12, .alloc 75 3 [.agg [.int .i64 0, .int .i64 0, .int .i64 0]], [], none⟩, ⟨none, .store 3 true, [.t 12, .t 34], none⟩]) (.seq (.ops false [] [⟨some 35, .p (.mov), [.t 9], none⟩, ⟨some 36, .load 7 true, [.t 2], none⟩, ⟨some 37, .load 2 true, [.t 10], none⟩, ⟨some 38, .p (.faddr 0), [.t 12], none⟩, ⟨some 39, .load 2 true, [.t 38], none⟩, ⟨some 40, .call 98, [.t 36, .t 37, .t 39], none⟩, ⟨some 41, .p (.binI .add), [.t 35, .t 40], none⟩, ⟨some 13, .p (.mov), [.t 41], none⟩]) (.seq (.ops true [] [⟨some 42, .p (.mov), [.t 13], none⟩, ⟨some 43, .p (.faddr 2), [.t 12], none⟩, ⟨some 44, .load 1 false, [.t 43], none⟩, ⟨some 45, .p (.binI .add), [.t 42, .t 44], none⟩, ⟨some 46, .p (.faddr 0), [.t 12], none⟩, ⟨some 47, .load 2 true, [.t 46], none⟩, ⟨some 9, .p (.mov), [.t 45], none⟩, ⟨none, .store 2 true, [.t 10, .t 47], none⟩]) (.ops false [] [⟨some 48, .p (.mov), [.t 8], none⟩, ⟨some 49, .load 2 true, [.t 10], none⟩, ⟨some 50, .p (.mov), [.t 13], none⟩, ⟨some 51, .p (.mov), [.t 9], none⟩, ⟨some 52, .p (.build [.int .i64 0, .int .i64 0] [(0, 1), (1, 1)]), [.t 50, .t 51], none⟩, ⟨some 53, .p (.build [.int .i64 0, .int .i64 0, .int .i64 0, .int .i64 0] [(0, 2), (2, 2)]), [.t 49, .t 52], none⟩, ⟨some 54, .fbs 4, [.t 53], none⟩, ⟨some 55, .app 81 4 32, [.t 48, .t 54], none⟩, ⟨some 8, .p (.mov), [.t 55], none⟩]))))) (.ops false [] [⟨some 56, .p (.binI .add), [.t 31, .c (.int .i64 1)], none⟩, ⟨some 31, .p (.mov), [.t 56], none⟩]))))))) (.seq (.ops false [] [⟨some 57, .p (.mov), [.t 8], none⟩, ⟨some 4, .p (.mov), [.t 57], none⟩, ⟨some 5, .p (.mov), [.c (.int .i64 0)], none⟩]) (.ret)))))))
theorem c83 : FnC Try.prog 83 58 a83 [.tmp 4, .tmp 5] := ⟨Try.call83, _, _, Try.func83, rfl, by kernel_rfl, by kernel_rfl, rfl⟩
namespace Sc
def stR (t : St) : Prop := drR ⟨t.az, t.el⟩ ∧ (0 ≤ t.tk ∧ t.tk ≤ 1000)
instance (t : St) : Decidable (stR t) := by unfold stR; infer_instance
theorem swL_mem {az el tk w d : Int} : ∀ {f : Nat} {o : Int} {t : St}, t ∈ swL az el tk w d f o → azR t.az ∧ t.el = el ∧ t.tk = tk
  | 0, _, _, h => by simp [swL] at h
  | f + 1, o, t, h => by
    rw [swL] at h
    split at h
    · rcases List.mem_cons.1 h with rfl | h
      · exact ⟨upw_bd _ _, rfl, rfl⟩
      · exact swL_mem h
    · simp at h
theorem repL_mem {l : List St} : ∀ {k : Nat} {t : St}, t ∈ repL l k → t ∈ l
  | 0, _, h => by simp [repL] at h
  | k + 1, t, h => by
    rw [repL] at h
    rcases List.mem_append.1 h with h | h
    · exact h
    · exact repL_mem h
theorem oneS_ok {n : Nat} {s : Sp} (h : stE n s = 0) (h2 : ¬ s.k = 2) : ∀ t ∈ oneS s, stR t := by
  obtain ⟨h3, h4, _⟩ := stE_one h h2
  intro t ht
  unfold oneS at ht
  split at ht
  · rw [List.mem_singleton.1 ht]
    exact ⟨⟨h3.1, h3.2⟩, h4⟩
  · obtain ⟨h5, h6, h7⟩ := swL_mem ht
    refine ⟨⟨h5, ?_⟩, ?_⟩
    · show elR t.el; rw [h6]; exact h3.2
    · rw [h7]; exact h4
theorem stopsOf_ok : ∀ (n : Nat) (s : Sp), stE n s = 0 → ∀ t ∈ stopsOf n s, stR t
  | 0, s, h => by
    have h2 : ¬ s.k = 2 := fun e => by obtain ⟨_, m, h3, _⟩ := stE_rep h e; cases h3
    rw [stopsOf]; exact oneS_ok h h2
  | n + 1, s, h => by
    intro t ht
    rw [stopsOf] at ht
    split at ht
    · rename_i h2
      obtain ⟨_, m, h3, h4⟩ := stE_rep h h2
      obtain rfl : n = m := by omega
      obtain ⟨u, hu, ht⟩ := List.mem_flatMap.1 (repL_mem ht)
      exact stopsOf_ok n u ((okP_e h4).2 u hu) t ht
    · rename_i h2; exact oneS_ok h h2 t ht
theorem stops_ok {n : Nat} {l : Sps} (h : okP n l) : ∀ t ∈ stopsAll n l, stR t := by
  intro t ht
  obtain ⟨u, hu, ht⟩ := List.mem_flatMap.1 ht
  exact stopsOf_ok n u ((okP_e h).2 u hu) t ht
structure Vi where
  az : Int
  el : Int
  fr : Int
  to : Int
  deriving DecidableEq
abbrev eVi (x : Vi) : AV := .agg [I x.az, I x.el, I x.fr, I x.to]
theorem free_Vi (φ : Nat → Fate) (l : List Vi) : subs φ (l.map eVi) = l.map eVi := subs_mapE φ _ (fun _ => rfl) l
def stD (t : St) : Dr := ⟨t.az, t.el⟩
def visL (h : Hd) : Int → Dr → List St → List Vi
  | _, _, [] => []
  | t, d, s :: r => ⟨s.az, s.el, t + mvT h d (stD s), t + mvT h d (stD s) + s.tk⟩ :: visL h (t + mvT h d (stD s) + s.tk) (stD s) r
def vsE (h : Hd) (l : Sps) : Int := firstE [hdE h, (ckC l).2]
def vsL (h : Hd) (l : Sps) : List Vi := visL h 0 h.home (stopsAll 2 l)
def vsV (h : Hd) (l : Sps) : AV := if vsE h l = 0 then .tup [.vs ((vsL h l).map eVi), I 0] else .tup [.vs [], I (vsE h l)]
def S83 (h : Hd) (ss : List St) (p : Nat × Int × Dr × List Vi) : AState := match p.2.2.2 with
  | [] => ⟨[.any, .any, .vp [eHd h] 0 0, .any, .any, .any, .any, .any, .nilslice, I p.2.1, .ptr 0 2 0 0, .any, .any, .any, .any, .any, .any, .any, .any, .any, .any, .any, .any, .any, .any, .any, .any, .any, .any, .vs (ss.map eSt), I ss.length, I p.1, .any, .any, .any, .any, .any, .any, .any, .any, .any, .any, .any, .any, .any, .any, .any, .any, .any, .any, .any, .any, .any, .any, .any, .any, .any, .any], [⟨0, 0, .rows 37 2 [eDr p.2.2.1]⟩], 1⟩
  | v :: r => ⟨[.any, .any, .vp [eHd h] 0 0, .any, .any, .any, .any, .any, .slice 1 4 0 (r.length + 1), I p.2.1, .ptr 0 2 0 0, .any, .any, .any, .any, .any, .any, .any, .any, .any, .any, .any, .any, .any, .any, .any, .any, .any, .any, .vs (ss.map eSt), I ss.length, I p.1, .any, .any, .any, .any, .any, .any, .any, .any, .any, .any, .any, .any, .any, .any, .any, .any, .any, .any, .any, .any, .any, .any, .any, .any, .any, .any], [⟨1, 1, .rows 81 4 ((v :: r).map eVi)⟩, ⟨0, 0, .rows 37 2 [eDr p.2.2.1]⟩], 2⟩
theorem mvT_bd {h : Hd} {a b : Dr} (hb : mvB h a b) : 0 ≤ mvT h a b ∧ mvT h a b ≤ 450 := by
  obtain ⟨⟨h1, h2⟩, ⟨h3, h4⟩, ⟨h5, h6⟩⟩ := hb
  have b1 := turnN_bd a.az b.az
  have b2 := tiltN_bd h4 h6
  have t1 := (tkL_spec (r := h.ra) (a := h.aa) (d := turnN a.az b.az) h1 (by omega)).2.2
  have t2 := (tkL_spec (r := h.re) (a := h.ae) (d := tiltN a.el b.el) h2 (by omega)).2.2
  unfold mvT
  omega
theorem k_visits (h : Hd) (l : Sps) (hl : h.res.length ≤ 1099511627776) : FOk P 83 [eHd h, .vs (eSps l)] (vsV h l) := by
  have yh := x_headErr h (by simp only [hl])
  have yc := x_compiled l
  by_cases h0 : (ckC l).2 = 0
  · have hv : cmV l = .tup [.vs ((stopsAll 2 l).map eSt), I 0] := if_pos h0
    rw [hv] at yc
    by_cases h1 : vsE h l = 0
    · have hv : vsV h l = .tup [.vs ((vsL h l).map eVi), I 0] := if_pos h1
      rw [hv]
      obtain ⟨hk, h60⟩ := ckC_ok h0
      have hst := stops_ok hk
      unfold vsE at h1
      have hz := hdE_zero (firstE_zero h1 (hdE h) (by simp))
      rw [h0] at h1
      obtain ⟨⟨⟨hz1, hz2, hz3⟩, _⟩, _⟩ := hz
      rw [vsL]
      generalize stopsAll 2 l = ss at *
      refine c83.fok (by simp only [free_Hs, subs, sub1, free_Se, free_Sps]) (Cor.run (addC_good g_moveTicks (addC_good g_first (addC_good g_headErr (addC_good g_compiled (noC_good _))))) (noHx_good _) hm ?_)
      simp +contextual -implicitDefEqProofs (maxSteps := 2000000) only [bg_eq, a83, yc, yh, x_first, y_first, h1, List.length_map, ruB, rh_no, Int.reduceLT, Int.reduceLE, Int.reduceAdd, Int.reduceSub, Int.reduceMul, Int.reduceNeg, Int.reduceToNat, Int.reduceEq, Int.reduceNe, Int.reduceTDiv, Int.reduceTMod, implies_true, putL, appN, appX, appC, Eng.Fi, reduceCtorEq, exists_eq_left', exists_eq_left, if_true, if_false, List.replicate, Nat.reduceAdd, Nat.reduceSub, Nat.reduceMul, Nat.reduceLeDiff, Nat.reduceLT, Nat.reduceEqDiff]
      refine Cor.lp (addC_good g_moveTicks (addC_good g_first (addC_good g_headErr (addC_good g_compiled (noC_good _))))) (noHx_good _) hm (S83 h ss) (fun p => ((p.1 ≤ ss.length ∧ p.2.2.2.length = p.1) ∧ 0 ≤ p.2.1 ∧ p.2.1 ≤ p.1 * 1450) ∧ drR p.2.2.1 ∧ visL h 0 h.home ss = p.2.2.2 ++ visL h p.2.1 p.2.2.1 (ss.drop p.1)) (fun p => ss.length - p.1) (a := (0, 0, h.home, [])) ⟨⟨⟨Nat.zero_le _, rfl⟩, by simp, by simp⟩, hz1, rfl⟩ (Wkn.to ⟨0, [(1, 0)], [0], 1, [2, 8, 9, 10, 29, 30, 31]⟩ rfl rfl (by simp [Wk.st, keepT, memN, Wk.fate, Wk.fate0, assoc, getE, Wk.hp, ABlk.sub, sub1, subs, free_Se, free_St, S83])) ?_
      rintro f ⟨i, t, d, o⟩ ⟨⟨⟨hi, ho⟩, ht1, ht2⟩, hd, hf⟩ go
      simp only at hi ho ht1 ht2 hd hf
      rcases Nat.lt_or_ge i ss.length with hlt | hlt
      · have e1 : decide ((i : Int) < (ss.length : Int)) = true := lt_t hlt
        have e2 : (ss.map eSt)[i]? = some (eSt ss[i]) := get_e eSt ss hlt
        have e3 : IntKind.wrap .i64 ((i : Int) + 1) = ((i + 1 : Nat) : Int) := suc_w (by omega)
        have hs := hst ss[i] (by simp)
        rw [List.drop_eq_getElem_cons hlt, visL] at hf
        generalize ss[i] = s at *
        have hmb : mvB h d (stD s) := ⟨⟨hz2, hz3⟩, hd, hs.1⟩
        have y := x_moveTicks h d (stD s) (by simp only [hmb])
        have hb := mvT_bd hmb
        generalize mvT h d (stD s) = mt at *
        obtain ⟨_, hs2⟩ := hs
        have w1 : IntKind.wrap .i64 (t + mt) = t + mt := wrap64 (by omega) (by omega)
        have w2 : IntKind.wrap .i64 (t + mt + s.tk) = t + mt + s.tk := wrap64 (by omega) (by omega)
        have y' : cf_moveTicks [eHd h, eDr d, .agg [I s.az, I s.el]] = some (I mt) := y
        have m1 : ∀ n, n ≤ 100 → (n ≤ maxLen) = True := fun n hn => mx (by omega)
        have tp : ((i + 1 : Nat) : Int) * 1450 = (i : Int) * 1450 + 1450 := by omega
        cases o with
        | nil =>
          simp +contextual -implicitDefEqProofs (maxSteps := 2000000) only [S83, e1, e2, e3, y', w1, w2, rs_nil, rs_t, rs_f, ag_nils, ag_sl, ag_vs, ag_str, ag_ptr, ag_nilp, ag_vp, ag_fun, m1 1 (by omega), ruB, rh_no, Int.reduceLT, Int.reduceLE, Int.reduceAdd, Int.reduceSub, Int.reduceMul, Int.reduceNeg, Int.reduceToNat, Int.reduceEq, Int.reduceNe, Int.reduceTDiv, Int.reduceTMod, implies_true, putL, appN, appX, appC, Eng.Fi, reduceCtorEq, exists_eq_left', exists_eq_left, if_true, if_false, List.replicate, Nat.reduceAdd, Nat.reduceSub, Nat.reduceMul, Nat.reduceLeDiff, Nat.reduceLT, Nat.reduceEqDiff]
          refine go _ (i + 1, t + mt + s.tk, stD s, [⟨s.az, s.el, t + mt, t + mt + s.tk⟩]) ⟨⟨⟨hlt, ?_⟩, ?_, ?_⟩, ?_, ?_⟩ (by simp only; omega) ?_
          · simp only [List.length_nil] at ho; simp only [List.length_cons, List.length_nil]; omega
          · simp only; omega
          · simp only; omega
          · exact hmb.2.2
          · simp only [hf, List.nil_append, List.cons_append]
          · exact Wkn.to ⟨0, [(4, 1), (0, 0)], [], 2, [2, 8, 9, 10, 29, 30, 31]⟩ rfl rfl (by simp [Wk.st, keepT, memN, Wk.fate, Wk.fate0, assoc, getE, Wk.hp, ABlk.sub, sub1, subs, free_Se, free_St, free_Vi, S83, stD])
        | cons v r =>
          simp only [List.length_cons] at ho
          have m2 : ((r.length + 1 + 1) * 32 ≤ 140737488355328) = True := by simp only [eq_iff_iff, iff_true]; omega
          have t0 : (r.map eVi).length = r.length := by simp
          have t1 : (r.length ≤ (r.map eVi).length) = True := by simp
          have t2 : (r.map eVi).take r.length = r.map eVi := by rw [List.take_of_length_le]; simp
          simp +contextual -implicitDefEqProofs (maxSteps := 2000000) only [S83, e1, e2, e3, y', w1, w2, rs_nil, rs_t, rs_f, ag_nils, ag_sl, ag_vs, ag_str, ag_ptr, ag_nilp, ag_vp, ag_fun, m1 (r.length + 1 + 1) (by omega), m2, List.map_cons, t0, t1, t2, Nat.le_refl, ruB, rh_no, Int.reduceLT, Int.reduceLE, Int.reduceAdd, Int.reduceSub, Int.reduceMul, Int.reduceNeg, Int.reduceToNat, Int.reduceEq, Int.reduceNe, Int.reduceTDiv, Int.reduceTMod, implies_true, putL, appN, appX, appC, Eng.Fi, reduceCtorEq, exists_eq_left', exists_eq_left, if_true, if_false, List.replicate, Nat.reduceAdd, Nat.reduceSub, Nat.reduceMul, Nat.reduceLeDiff, Nat.reduceLT, Nat.reduceEqDiff]
          have hvs : ∀ φ, subs φ (r.map eVi ++ [eVi ⟨s.az, s.el, t + mt, t + mt + s.tk⟩]) = r.map eVi ++ [eVi ⟨s.az, s.el, t + mt, t + mt + s.tk⟩] := fun φ => by
            have := free_Vi φ (r ++ [⟨s.az, s.el, t + mt, t + mt + s.tk⟩])
            rwa [List.map_append] at this
          refine go _ (i + 1, t + mt + s.tk, stD s, v :: (r ++ [⟨s.az, s.el, t + mt, t + mt + s.tk⟩])) ⟨⟨⟨hlt, ?_⟩, ?_, ?_⟩, ?_, ?_⟩ (by simp only; omega) ?_
          · simp only [List.length_cons, List.length_append, List.length_nil]; omega
          · simp only; omega
          · simp only; omega
          · exact hmb.2.2
          · simp only [hf, List.append_assoc, List.nil_append, List.cons_append]
          · refine Wkn.to ⟨0, [(5, 1), (0, 0)], [], 2, [2, 8, 9, 10, 29, 30, 31]⟩ rfl rfl ?_
            simp [Wk.st, keepT, memN, Wk.fate, Wk.fate0, assoc, getE, Wk.hp, ABlk.sub, sub1, subs, free_Se, free_St, free_Vi, S83, stD, hvs]
      · have e1 : decide ((i : Int) < (ss.length : Int)) = false := lt_f hlt
        rw [List.drop_eq_nil_of_le hlt, visL, List.append_nil] at hf
        rw [hf]
        cases o with
        | nil => simp +contextual -implicitDefEqProofs (maxSteps := 2000000) only [S83, e1, List.map_nil, ruB, rh_no, Int.reduceLT, Int.reduceLE, Int.reduceAdd, Int.reduceSub, Int.reduceMul, Int.reduceNeg, Int.reduceToNat, Int.reduceEq, Int.reduceNe, Int.reduceTDiv, Int.reduceTMod, implies_true, putL, appN, appX, appC, Eng.Fi, reduceCtorEq, exists_eq_left', exists_eq_left, if_true, if_false, List.replicate, Nat.reduceAdd, Nat.reduceSub, Nat.reduceMul, Nat.reduceLeDiff, Nat.reduceLT, Nat.reduceEqDiff]
        | cons v r =>
          have t0 : (r.map eVi).length = r.length := by simp
          have t1 : (r.length ≤ (r.map eVi).length) = True := by simp
          have t2 : (r.map eVi).take r.length = r.map eVi := by rw [List.take_of_length_le]; simp
          simp +contextual -implicitDefEqProofs (maxSteps := 2000000) only [S83, e1, List.map_cons, t0, t1, t2, Nat.le_refl, free_Vi, ruB, rh_no, Int.reduceLT, Int.reduceLE, Int.reduceAdd, Int.reduceSub, Int.reduceMul, Int.reduceNeg, Int.reduceToNat, Int.reduceEq, Int.reduceNe, Int.reduceTDiv, Int.reduceTMod, implies_true, putL, appN, appX, appC, Eng.Fi, reduceCtorEq, exists_eq_left', exists_eq_left, if_true, if_false, List.replicate, Nat.reduceAdd, Nat.reduceSub, Nat.reduceMul, Nat.reduceLeDiff, Nat.reduceLT, Nat.reduceEqDiff]
    · have hv : vsV h l = .tup [.vs [], I (vsE h l)] := if_neg h1
      rw [hv]
      unfold vsE at h1 ⊢
      rw [h0] at h1 ⊢
      refine c83.fok (by simp only [free_Hs, subs, sub1, free_Se, free_Sps]) (Cor.run (addC_good g_moveTicks (addC_good g_first (addC_good g_headErr (addC_good g_compiled (noC_good _))))) (noHx_good _) hm ?_)
      simp +contextual -implicitDefEqProofs (maxSteps := 2000000) only [bg_eq, a83, yc, yh, x_first, y_first, h1, not_false_eq_true, ruB, rh_no, Int.reduceLT, Int.reduceLE, Int.reduceAdd, Int.reduceSub, Int.reduceMul, Int.reduceNeg, Int.reduceToNat, Int.reduceEq, Int.reduceNe, Int.reduceTDiv, Int.reduceTMod, implies_true, putL, appN, appX, appC, Eng.Fi, reduceCtorEq, exists_eq_left', exists_eq_left, if_true, if_false, List.replicate, Nat.reduceAdd, Nat.reduceSub, Nat.reduceMul, Nat.reduceLeDiff, Nat.reduceLT, Nat.reduceEqDiff]
  · have hv : cmV l = .tup [.vs [], I (ckC l).2] := if_neg h0
    rw [hv] at yc
    have h1 : ¬ vsE h l = 0 := fun e => h0 (firstE_zero e _ (by simp))
    have hv : vsV h l = .tup [.vs [], I (vsE h l)] := if_neg h1
    rw [hv]
    unfold vsE at h1 ⊢
    refine c83.fok (by simp only [free_Hs, subs, sub1, free_Se, free_Sps]) (Cor.run (addC_good g_moveTicks (addC_good g_first (addC_good g_headErr (addC_good g_compiled (noC_good _))))) (noHx_good _) hm ?_)
    simp +contextual -implicitDefEqProofs (maxSteps := 2000000) only [bg_eq, a83, yc, yh, x_first, y_first, h1, not_false_eq_true, ruB, rh_no, Int.reduceLT, Int.reduceLE, Int.reduceAdd, Int.reduceSub, Int.reduceMul, Int.reduceNeg, Int.reduceToNat, Int.reduceEq, Int.reduceNe, Int.reduceTDiv, Int.reduceTMod, implies_true, putL, appN, appX, appC, Eng.Fi, reduceCtorEq, exists_eq_left', exists_eq_left, if_true, if_false, List.replicate, Nat.reduceAdd, Nat.reduceSub, Nat.reduceMul, Nat.reduceLeDiff, Nat.reduceLT, Nat.reduceEqDiff]
end Sc
