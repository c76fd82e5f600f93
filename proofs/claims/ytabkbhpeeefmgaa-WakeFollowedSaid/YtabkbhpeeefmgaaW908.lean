import Derived.Test.YtabkbhpeeefmgaaEngS9
import Derived.Test.YtabkbhpeeefmgaaW907
open Go Go.Proofs Eng
set_option maxRecDepth 100000
set_option linter.unusedSimpArgs false
set_option linter.unusedVariables false
def a106 : AC := .seq (.ops false [] [⟨some 1, .box 161 1 1 false, [.t 0], none⟩, ⟨some 2, .p (.mov), [.c (.nilslice)], none⟩, ⟨some 3, .p (.mov), [.c (.int .i64 0)], none⟩]) (.seq (.ops false [] [⟨some 4, .alloc 66 1 [.nilslice], [], none⟩]) (.seq (.ops false [] [⟨some 5, .alloc 3 1 [.int .i64 0], [], none⟩, ⟨none, .store 1 false, [.t 5, .c (.int .i64 0)], none⟩]) (.seq (.ops false [] [⟨some 6, .alloc 197 1 [.nilfn], [], none⟩]) (.seq (.ops false [] [⟨some 7, .p (.mkfn 138 0), [.t 1, .t 4, .t 5, .t 6], none⟩, ⟨none, .store 1 false, [.t 6, .t 7], none⟩]) (.seq (.ops false [] [⟨some 8, .load 1 false, [.t 6], none⟩, ⟨some 9, .callv, [.t 8, .c (.nilslice), .c (.int .i64 0)], none⟩]) (.seq (.ops true [] [⟨some 10, .load 1 false, [.t 4], none⟩, ⟨some 11, .load 1 false, [.t 5], none⟩, ⟨some 2, .p (.mov), [.t 10], none⟩, ⟨some 3, .p (.mov), [.t 11], none⟩]) (.ret)))))))
theorem c106 : FnC Try.prog 106 12 a106 [.tmp 2, .tmp 3] := ⟨Try.call106, _, _, Try.func106, rfl, by kernel_rfl, by kernel_rfl, rfl⟩
namespace Wa
theorem ge_g2 (m : List L) (x : GS) (N : Nat) (h : gok N x) : getE (Jg m x) 2 = some ⟨2, 2, .rows 197 1 [GF m]⟩ := by
  cases x with
  | none => rfl
  | some y =>
    obtain ⟨l, c, id, g⟩ := y
    have h : 3 ≤ N ∧ (3 ≤ id ∧ id < N) ∧ (3 ≤ g ∧ g < N) ∧ 0 < l.length ∧ l.length ≤ 100000 := h
    have : ¬ id = 2 := by omega
    simp [Jg, getE, this]
theorem suG : chkF Try.prog 138 10 9 = true := by kernel_rfl
def S_gl (m : List L) (p row : L) (q : Nat × GS × Nat) : AState := ⟨[.vs (p.map eI), I (cst m p), .vp [.vs (m.map eL)] 0 0, .ptr 0 1 0 0, .ptr 1 1 0 0, .ptr 2 1 0 0, .any, .any, .any, .any, .any, .any, .any, .any, .any, .any, .any, .any, .any, .any, .any, .any, .any, .any, .any, .any, .any, .any, .any, .any, .any, .any, .any, .any, .any, .any, .vs (row.map eI), I row.length, I q.1, .any, .any, .any, .any, .any, .any, .any, .any, .any, .any, .any, .any, .any, .any, .any, .any, .any, .any, .any], Jg m q.2.1, q.2.2⟩
def S_gn (m : List L) (p row : L) (k : Nat) (c : Int) (x : GS) (N : Nat) : AState := ⟨[.vs (p.map eI), I (cst m p), .vp [.vs (m.map eL)] 0 0, .ptr 0 1 0 0, .ptr 1 1 0 0, .ptr 2 1 0 0, .any, .any, .any, .any, .any, .any, .any, .any, .any, .any, .any, .any, .any, .any, .any, .any, .any, .any, .any, .any, .any, .any, .any, .any, .any, .any, .any, .any, .any, .any, .vs (row.map eI), I row.length, I k, .any, .any, .any, .any, .any, .any, .any, .any, GF m, .any, .any, .any, .any, .vs ((p ++ [(k : Int)]).map eI), .any, .any, I c, .any, .any], Jg m x, N⟩
def grR (m : List L) (f : Nat) (p : L) (x : GS) (N : Nat) : Prop := (p.length + f = m.length ∧ ∀ k ∈ p, 0 ≤ k ∧ k < m.length) ∧ gok N x ∧ ∃ j, gle m j x ∧ j + (permG m.length f p).length ≤ 100000
set_option maxHeartbeats 2000000 in
theorem l_grow1 (m : List L) (hma : maR m) (f : Nat) (hr : List AV → List HEnt → Nat → Option (AV × List HEnt × Nat)) (hhr : Hn P 138 hr)
    (hre : ∀ p x N, grR m f p x N → hr ([.vs (p.map eI), I (cst m p)] ++ caps m) (Jg m x) N = some (.tup [], Jg m (gF m (x, N) (permG m.length f p)).1, (gF m (x, N) (permG m.length f p)).2))
    (p : L) (x0 : GS) (N0 : Nat) (h0 : grR m (f + 1) p x0 N0) :
    LOk P 138 ([.vs (p.map eI), I (cst m p)] ++ caps m) (Jg m x0) N0 (.tup []) (Jg m (gF m (x0, N0) (permG m.length (f + 1) p)).1) (gF m (x0, N0) (permG m.length (f + 1) p)).2 := by
  obtain ⟨⟨hpf, hpk⟩, hg0, j0, hj0, hj1⟩ := h0
  have hn6 := hma.n
  have hpl : p.length < m.length := by omega
  have hNi : ((p.length : Int) = (m.length : Int)) = False := eq_false (by omega)
  have hrow := hma.r m[p.length] (List.getElem_mem hpl)
  have e0 : (m.map eL)[p.length]? = some (eL m[p.length]) := get_e eL m hpl
  have hcell : ∀ k : Nat, ∀ h : k < m[p.length].length, cell m p.length (k : Int) = m[p.length][k] := fun k h => cell_get hpl h
  obtain ⟨row, hrw⟩ : ∃ row, m[p.length] = row := ⟨_, rfl⟩
  have hcell : ∀ k : Nat, ∀ h : k < row.length, cell m p.length (k : Int) = row[k] := by subst hrw; exact hcell
  rw [hrw] at hrow e0
  have hc0 := cst_bd hma p
  have hgd := addH_good hhr (noHx_good P)
  refine c138.lokS suG (y := YH P (addH 138 hr noHx)) (CorS.seq (CorS.of (Cor.run (noC_good _) hgd hm ?_))) (fun G => YH_add (by decide) (YH_no _ G))
  simp +contextual -implicitDefEqProofs (maxSteps := 2000000) only [bg_eq, List.length_map, hNi, eThen_normal, ruH, ruB, Int.reduceLT, Int.reduceLE, Int.reduceAdd, Int.reduceSub, Int.reduceMul, Int.reduceNeg, Int.reduceToNat, Int.reduceEq, Int.reduceNe, Int.reduceTDiv, Int.reduceTMod, implies_true, putL, appN, appX, appC, Eng.Fi, reduceCtorEq, exists_eq_left', exists_eq_left, if_true, if_false, List.replicate, Nat.reduceAdd, Nat.reduceSub, Nat.reduceMul, Nat.reduceLeDiff, Nat.reduceLT, Nat.reduceEqDiff]
  refine CorS.seq (CorS.of (Cor.run (noC_good _) hgd hm ?_))
  simp +contextual -implicitDefEqProofs (maxSteps := 2000000) only [List.length_map, e0, eThen_normal, ruH, ruB, Int.reduceLT, Int.reduceLE, Int.reduceAdd, Int.reduceSub, Int.reduceMul, Int.reduceNeg, Int.reduceToNat, Int.reduceEq, Int.reduceNe, Int.reduceTDiv, Int.reduceTMod, implies_true, putL, appN, appX, appC, Eng.Fi, reduceCtorEq, exists_eq_left', exists_eq_left, if_true, if_false, List.replicate, Nat.reduceAdd, Nat.reduceSub, Nat.reduceMul, Nat.reduceLeDiff, Nat.reduceLT, Nat.reduceEqDiff]
  rw [permD_0] at hj1 ⊢
  generalize htot : gF m (x0, N0) (permD m.length f p 0) = tot at *
  refine CorS.block (CorS.loopC (S_gl m p row) (fun q => (q.1 ≤ m.length ∧ N0 ≤ q.2.2) ∧ gok q.2.2 q.2.1 ∧ (∃ j, gle m j q.2.1 ∧ j + (permD m.length f p q.1).length ≤ 100000) ∧ tot = gF m (q.2.1, q.2.2) (permD m.length f p q.1)) (fun q => m.length - q.1) (a := (0, x0, N0)) ?_ ⟨⟨Nat.zero_le _, Nat.le_refl _⟩, hg0, ⟨j0, hj0, hj1⟩, htot.symm⟩ (Wkn.keep [0, 1, 2, 3, 4, 5, 36, 37, 38] rfl))
  rintro ⟨k, x, N⟩ ⟨⟨hk, hNN⟩, hgk, ⟨j, hj, hjl⟩, hf⟩
  simp only at hk hNN hgk hj hjl hf
  rcases Nat.lt_or_ge k m.length with h | h
  · have hkr : k < row.length := by rw [hrow.1]; exact h
    have e1 : decide ((k : Int) < (row.length : Int)) = true := lt_t hkr
    have e2 : (row.map eI)[k]? = some (eI row[k]) := get_e eI row hkr
    have e3 : IntKind.wrap .i64 ((k : Int) + 1) = ((k + 1 : Nat) : Int) := suc_w (by omega)
    have yc := x_ContainsI p (k : Int) (by simp only [eq_iff_iff, iff_true]; omega)
    have ycl := x_ClipI p (by simp only [eq_iff_iff, iff_true]; omega)
    rw [permD_c h] at hf hjl
    have hcl := hcell k hkr
    have hcb := hrow.2 row[k] (List.getElem_mem hkr)
    have hcst := cst_snoc m p (k : Int)
    rw [hcl] at hcst
    refine CorS.seq (CorS.of (Cor.run (noC_good _) hgd hm ?_))
    simp +contextual -implicitDefEqProofs (maxSteps := 2000000) only [S_gl, e1, eThen_normal, ruH, ruB, Int.reduceLT, Int.reduceLE, Int.reduceAdd, Int.reduceSub, Int.reduceMul, Int.reduceNeg, Int.reduceToNat, Int.reduceEq, Int.reduceNe, Int.reduceTDiv, Int.reduceTMod, implies_true, putL, appN, appX, appC, Eng.Fi, reduceCtorEq, exists_eq_left', exists_eq_left, if_true, if_false, List.replicate, Nat.reduceAdd, Nat.reduceSub, Nat.reduceMul, Nat.reduceLeDiff, Nat.reduceLT, Nat.reduceEqDiff]
    refine CorS.seq (CorS.of (Cor.run (noC_good _) hgd hm ?_))
    simp +contextual -implicitDefEqProofs (maxSteps := 2000000) only [eThen_normal, ruH, ruB, Int.reduceLT, Int.reduceLE, Int.reduceAdd, Int.reduceSub, Int.reduceMul, Int.reduceNeg, Int.reduceToNat, Int.reduceEq, Int.reduceNe, Int.reduceTDiv, Int.reduceTMod, implies_true, putL, appN, appX, appC, Eng.Fi, reduceCtorEq, exists_eq_left', exists_eq_left, if_true, if_false, List.replicate, Nat.reduceAdd, Nat.reduceSub, Nat.reduceMul, Nat.reduceLeDiff, Nat.reduceLT, Nat.reduceEqDiff]
    refine CorS.seq (CorS.block (CorS.seq (CorS.of (Cor.run (noC_good _) hgd hm ?_))))
    simp +contextual -implicitDefEqProofs (maxSteps := 2000000) only [e2, eThen_normal, ruH, ruB, Int.reduceLT, Int.reduceLE, Int.reduceAdd, Int.reduceSub, Int.reduceMul, Int.reduceNeg, Int.reduceToNat, Int.reduceEq, Int.reduceNe, Int.reduceTDiv, Int.reduceTMod, implies_true, putL, appN, appX, appC, Eng.Fi, reduceCtorEq, exists_eq_left', exists_eq_left, if_true, if_false, List.replicate, Nat.reduceAdd, Nat.reduceSub, Nat.reduceMul, Nat.reduceLeDiff, Nat.reduceLT, Nat.reduceEqDiff]
    by_cases hin : (k : Int) ∈ p
    · rw [permO, if_pos hin, List.nil_append] at hf hjl
      rw [decide_eq_true hin] at yc
      refine CorS.of (Cor.run (addC_good g_ContainsI (noC_good _)) hgd hm ?_)
      simp +contextual -implicitDefEqProofs (maxSteps := 2000000) only [yc, eBlk_normal, eThen_normal, ruH, ruB, Int.reduceLT, Int.reduceLE, Int.reduceAdd, Int.reduceSub, Int.reduceMul, Int.reduceNeg, Int.reduceToNat, Int.reduceEq, Int.reduceNe, Int.reduceTDiv, Int.reduceTMod, implies_true, putL, appN, appX, appC, Eng.Fi, reduceCtorEq, exists_eq_left', exists_eq_left, if_true, if_false, List.replicate, Nat.reduceAdd, Nat.reduceSub, Nat.reduceMul, Nat.reduceLeDiff, Nat.reduceLT, Nat.reduceEqDiff]
      refine CorS.of (Cor.run (noC_good _) hgd hm ?_)
      simp +contextual -implicitDefEqProofs (maxSteps := 2000000) only [e3, eThen_normal, ruH, ruB, Int.reduceLT, Int.reduceLE, Int.reduceAdd, Int.reduceSub, Int.reduceMul, Int.reduceNeg, Int.reduceToNat, Int.reduceEq, Int.reduceNe, Int.reduceTDiv, Int.reduceTMod, implies_true, putL, appN, appX, appC, Eng.Fi, reduceCtorEq, exists_eq_left', exists_eq_left, if_true, if_false, List.replicate, Nat.reduceAdd, Nat.reduceSub, Nat.reduceMul, Nat.reduceLeDiff, Nat.reduceLT, Nat.reduceEqDiff]
      exact ⟨(k + 1, x, N), ⟨⟨h, hNN⟩, hgk, ⟨j, hj, hjl⟩, hf⟩, by simp only; omega, Wkn.keep [0, 1, 2, 3, 4, 5, 36, 37, 38] rfl⟩
    · rw [permO, if_neg hin] at hf hjl
      rw [decide_eq_false hin] at yc
      rw [List.length_append] at hjl
      have hge := ge_g2 m x N hgk
      have hw : IntKind.wrap .i64 (cst m p + row[k]) = cst m (p ++ [(k : Int)]) := by rw [hcst]; exact wrap64 (by omega) (by omega)
      have m1 : (p.length + 1 ≤ maxLen) = True := mx (by omega)
      have m2 : ((p.length + 1) * 8 ≤ 140737488355328) = True := by simp only [eq_iff_iff, iff_true]; omega
      have al : (p.map eI).all (fun v => decide (v.cells.length = 1)) = true := by simp [List.all_map, AV.cells]
      have lm : (p.map eI).length = p.length := by simp
      refine CorS.seq (CorS.of (Cor.run (addC_good g_ContainsI (noC_good _)) hgd hm ?_))
      simp +contextual -implicitDefEqProofs (maxSteps := 2000000) only [yc, eThen_normal, ruH, ruB, Int.reduceLT, Int.reduceLE, Int.reduceAdd, Int.reduceSub, Int.reduceMul, Int.reduceNeg, Int.reduceToNat, Int.reduceEq, Int.reduceNe, Int.reduceTDiv, Int.reduceTMod, implies_true, putL, appN, appX, appC, Eng.Fi, reduceCtorEq, exists_eq_left', exists_eq_left, if_true, if_false, List.replicate, Nat.reduceAdd, Nat.reduceSub, Nat.reduceMul, Nat.reduceLeDiff, Nat.reduceLT, Nat.reduceEqDiff]
      refine CorS.cond ?_
      simp +contextual -implicitDefEqProofs (maxSteps := 2000000) only [condV_t, ruH, ruB, Int.reduceLT, Int.reduceLE, Int.reduceAdd, Int.reduceSub, Int.reduceMul, Int.reduceNeg, Int.reduceToNat, Int.reduceEq, Int.reduceNe, Int.reduceTDiv, Int.reduceTMod, implies_true, putL, appN, appX, appC, Eng.Fi, reduceCtorEq, exists_eq_left', exists_eq_left, if_true, if_false, List.replicate, Nat.reduceAdd, Nat.reduceSub, Nat.reduceMul, Nat.reduceLeDiff, Nat.reduceLT, Nat.reduceEqDiff]
      refine CorS.opsD ((addC_good g_ClipI (addC_good g_ContainsI (noC_good _))) : Good P _) hgd hm rfl (by decide) ?_
      have hN3 : 3 ≤ N := by cases x with | none => exact hgk | some y => exact hgk.1
      have hN2 : memN [2] N = false := by simp [memN]; omega
      simp +contextual -implicitDefEqProofs (maxSteps := 2000000) only [List.filter_cons, List.filter_nil, ycl, hge, al, lm, m1, m2, hw, hN2, okN, ruH, ruB, Int.reduceLT, Int.reduceLE, Int.reduceAdd, Int.reduceSub, Int.reduceMul, Int.reduceNeg, Int.reduceToNat, Int.reduceEq, Int.reduceNe, Int.reduceTDiv, Int.reduceTMod, implies_true, putL, appN, appX, appC, Eng.Fi, reduceCtorEq, exists_eq_left', exists_eq_left, if_true, if_false, List.replicate, Nat.reduceAdd, Nat.reduceSub, Nat.reduceMul, Nat.reduceLeDiff, Nat.reduceLT, Nat.reduceEqDiff]
      refine ⟨S_gn m p row k (cst m (p ++ [(k : Int)])) x N, Wkn.lowle hNN (A := [⟨N, N, .rows 3 1 (p.map eI ++ [I (k : Int)])⟩]) (H := Jg m x) [N] [0, 1, 2, 3, 4, 5, 36, 37, 38, 47, 52, 55] ?_ (Low_g hgk) ?_, ?_⟩
      · simp
      · have hlo := fun t (ht : t < N) => fate_low ⟨N, [], [N], N, [0, 1, 2, 3, 4, 5, 36, 37, 38, 47, 52, 55]⟩ ([⟨N, N, .rows 3 1 (p.map eI ++ [I (k : Int)])⟩] ++ Jg m x) t ht
        have f0 := hlo 0 (by omega)
        have f1 := hlo 1 (by omega)
        have f2 := hlo 2 (by omega)
        have hpk : ∀ φ, subs φ (p.map eI ++ [I (k : Int)]) = p.map eI ++ [I (k : Int)] := fun φ => by
          have := free_I φ (p ++ [(k : Int)])
          rwa [List.map_append] at this
        have hfz : (⟨N, [], [N], N, [0, 1, 2, 3, 4, 5, 36, 37, 38, 47, 52, 55]⟩ : Wk).fate ([⟨N, N, .rows 3 1 (p.map eI ++ [I (k : Int)])⟩] ++ Jg m x) N = .froz 1 (p.map eI ++ [I (k : Int)]) := by
          simp only [Wk.fate, memN, getE, List.cons_append, List.nil_append, if_true, Nat.lt_irrefl, if_false, hpk]
        have hfm := fun φ => free_L φ m
        have hfr := fun φ => free_I φ row
        have hfp := fun φ => free_I φ p
        simp only [List.cons_append, List.nil_append] at f0 f1 f2 hfz
        simp [keepT, memN, sub1, subs, hfm, hfr, hfp, hfz, f0, f1, f2, S_gn]
        exact List.take_of_length_le (by simp)
      · obtain ⟨b1, b2, b3⟩ := gF_ok (m := m) (permG m.length f (p ++ [(k : Int)])) (x, N) j hgk hj (by omega)
        have yr := hre (p ++ [(k : Int)]) x N ⟨⟨by simp only [List.length_append, List.length_cons, List.length_nil]; omega, fun z hz => by
          rcases List.mem_append.1 hz with hz | hz
          · exact hpk z hz
          · rw [List.mem_singleton.1 hz]; omega⟩, hgk, j, hj, by omega⟩
        rw [gF_app] at hf
        generalize gF m (x, N) (permG m.length f (p ++ [(k : Int)])) = q at *
        obtain ⟨x', N'⟩ := q
        simp only at yr hf b1 b2 b3
        simp only [List.cons_append, List.nil_append] at yr
        simp +contextual -implicitDefEqProofs (maxSteps := 2000000) only [S_gn, hg_cons, hg_nil, hg_n, h_callv, callT_fn, yr, eThen_normal, eBlk_normal, okN, ruH, ruB, Int.reduceLT, Int.reduceLE, Int.reduceAdd, Int.reduceSub, Int.reduceMul, Int.reduceNeg, Int.reduceToNat, Int.reduceEq, Int.reduceNe, Int.reduceTDiv, Int.reduceTMod, implies_true, putL, appN, appX, appC, Eng.Fi, reduceCtorEq, exists_eq_left', exists_eq_left, if_true, if_false, List.replicate, Nat.reduceAdd, Nat.reduceSub, Nat.reduceMul, Nat.reduceLeDiff, Nat.reduceLT, Nat.reduceEqDiff]
        refine CorS.of (Cor.run (noC_good _) hgd hm ?_)
        simp +contextual -implicitDefEqProofs (maxSteps := 2000000) only [e3, eThen_normal, ruH, ruB, Int.reduceLT, Int.reduceLE, Int.reduceAdd, Int.reduceSub, Int.reduceMul, Int.reduceNeg, Int.reduceToNat, Int.reduceEq, Int.reduceNe, Int.reduceTDiv, Int.reduceTMod, implies_true, putL, appN, appX, appC, Eng.Fi, reduceCtorEq, exists_eq_left', exists_eq_left, if_true, if_false, List.replicate, Nat.reduceAdd, Nat.reduceSub, Nat.reduceMul, Nat.reduceLeDiff, Nat.reduceLT, Nat.reduceEqDiff]
        exact ⟨(k + 1, x', N'), ⟨⟨h, Nat.le_trans hNN b3⟩, b1, ⟨j + (permG m.length f (p ++ [(k : Int)])).length, b2, by simp only; omega⟩, hf⟩, by simp only; omega, Wkn.keep [0, 1, 2, 3, 4, 5, 36, 37, 38] rfl⟩
  · have hkr : row.length ≤ k := by rw [hrow.1]; exact h
    have e1 : decide ((k : Int) < (row.length : Int)) = false := lt_f hkr
    rw [permD_n h] at hf
    have hf : tot = (x, N) := hf
    rw [hf]
    refine CorS.seq (CorS.of (Cor.run (noC_good _) hgd hm ?_))
    simp +contextual -implicitDefEqProofs (maxSteps := 2000000) only [S_gl, e1, eThen_normal, ruH, ruB, Int.reduceLT, Int.reduceLE, Int.reduceAdd, Int.reduceSub, Int.reduceMul, Int.reduceNeg, Int.reduceToNat, Int.reduceEq, Int.reduceNe, Int.reduceTDiv, Int.reduceTMod, implies_true, putL, appN, appX, appC, Eng.Fi, reduceCtorEq, exists_eq_left', exists_eq_left, if_true, if_false, List.replicate, Nat.reduceAdd, Nat.reduceSub, Nat.reduceMul, Nat.reduceLeDiff, Nat.reduceLT, Nat.reduceEqDiff]
    refine CorS.seq (CorS.of (Cor.run (noC_good _) hgd hm ?_))
    simp +contextual -implicitDefEqProofs (maxSteps := 2000000) only [eThen_exit, eBlk_exit, FinL, ruH, ruB, Int.reduceLT, Int.reduceLE, Int.reduceAdd, Int.reduceSub, Int.reduceMul, Int.reduceNeg, Int.reduceToNat, Int.reduceEq, Int.reduceNe, Int.reduceTDiv, Int.reduceTMod, implies_true, putL, appN, appX, appC, Eng.Fi, reduceCtorEq, exists_eq_left', exists_eq_left, if_true, if_false, List.replicate, Nat.reduceAdd, Nat.reduceSub, Nat.reduceMul, Nat.reduceLeDiff, Nat.reduceLT, Nat.reduceEqDiff]
end Wa
open Go Go.Proofs Eng
set_option maxRecDepth 100000
set_option linter.unusedSimpArgs false
set_option linter.unusedVariables false
namespace Wa
section
open Classical
noncomputable def growH (m : List L) (f : Nat) : List AV → List HEnt → Nat → Option (AV × List HEnt × Nat) := fun args H nx =>
  if h : ∃ q : L × GS, args = [.vs (q.1.map eI), I (cst m q.1)] ++ caps m ∧ H = Jg m q.2 ∧ grR m f q.1 q.2 nx then
    some (.tup [], Jg m (gF m ((Classical.choose h).2, nx) (permG m.length f (Classical.choose h).1)).1, (gF m ((Classical.choose h).2, nx) (permG m.length f (Classical.choose h).1)).2) else none
theorem growH_e (m : List L) (f : Nat) (p : L) (x : GS) (N : Nat) (hr : grR m f p x N) :
    growH m f ([.vs (p.map eI), I (cst m p)] ++ caps m) (Jg m x) N = some (.tup [], Jg m (gF m (x, N) (permG m.length f p)).1, (gF m (x, N) (permG m.length f p)).2) := by
  have h : ∃ q : L × GS, [AV.vs (p.map eI), I (cst m p)] ++ caps m = [.vs (q.1.map eI), I (cst m q.1)] ++ caps m ∧ Jg m x = Jg m q.2 ∧ grR m f q.1 q.2 N := ⟨(p, x), rfl, rfl, hr⟩
  unfold growH
  rw [dif_pos h]
  have hs := Classical.choose_spec h
  have e1 : (Classical.choose h).2 = x := (Jg_inj _ _ _ hs.2.1).symm
  have e2 : (Classical.choose h).1 = p := (map_inj (e := eI) (fun a b hab => by simpa using hab) _ _ (AV.vs.inj (List.cons.inj hs.1).1)).symm
  rw [e1, e2]
theorem growH_inv (m : List L) (f : Nat) {args : List AV} {H : List HEnt} {nx : Nat} {v : AV} {hp' : List HEnt} {nx' : Nat} (h : growH m f args H nx = some (v, hp', nx')) :
    ∃ (p : L) (x : GS), args = [.vs (p.map eI), I (cst m p)] ++ caps m ∧ H = Jg m x ∧ grR m f p x nx ∧ v = .tup [] ∧ hp' = Jg m (gF m (x, nx) (permG m.length f p)).1 ∧ nx' = (gF m (x, nx) (permG m.length f p)).2 := by
  unfold growH at h
  split at h
  · rename_i hc
    have hs := Classical.choose_spec hc
    have h := Option.some.inj h
    simp only [Prod.mk.injEq] at h
    obtain ⟨rfl, rfl, rfl⟩ := h
    exact ⟨_, _, hs.1, hs.2.1, hs.2.2, rfl, rfl, rfl⟩
  · cases h
end
theorem h_grow (m : List L) (hma : maR m) : ∀ f, Hn P 138 (growH m f)
  | 0 => fun args H nx v hp' nx' h => by
    obtain ⟨p, x, rfl, rfl, hr, rfl, rfl, rfl⟩ := growH_inv m 0 h
    obtain ⟨⟨h1, h2⟩, h3, j, h4, h5⟩ := hr
    have hl : glt x := by
      cases x with
      | none => trivial
      | some y =>
        have h4 : y.1.length ≤ j := h4
        simp only [permG, List.length_cons, List.length_nil] at h5
        show y.1.length < 100000
        omega
    exact l_grow0 m p x nx (by omega) hma.n h3 hl
  | f + 1 => fun args H nx v hp' nx' h => by
    obtain ⟨p, x, rfl, rfl, hr, rfl, rfl, rfl⟩ := growH_inv m (f + 1) h
    exact l_grow1 m hma f (growH m f) (h_grow m hma f) (fun p x N h => growH_e m f p x N h) p x nx hr
theorem LOk.nil0 {P : Program} {f : Nat} {v : AV} {r : List AV} {hp hp' : List HEnt} {nx nx' : Nat} (h : LOk P f (.vs [] :: r) hp nx v hp' nx') : LOk P f (.nilslice :: r) hp nx v hp' nx' := by
  refine ⟨h.1, fun G w cargs hH hr => h.2 G w cargs hH ?_⟩
  simp only [VRels] at hr ⊢
  obtain ⟨c, cs, rfl, h1, h3⟩ := hr
  refine ⟨c, _, rfl, ?_, h3⟩
  simp only [VRel] at h1 ⊢
  exact .inl ⟨trivial, none, 0, h1⟩
noncomputable def growN (m : List L) : List AV → List HEnt → Nat → Option (AV × List HEnt × Nat)
  | .nilslice :: r, H, nx => growH m m.length (.vs [] :: r) H nx
  | _, _, _ => none
theorem h_growN (m : List L) (hma : maR m) : Hn P 138 (growN m) := fun args H nx v hp' nx' h => by
  unfold growN at h
  split at h
  · exact LOk.nil0 (h_grow m hma m.length _ _ _ _ _ _ h)
  · cases h
def cpS (m : List L) : Option (List L × Int) → L → Option (List L × Int)
  | none, p => some ([p], cst m p)
  | some (l, c), p => if cst m p < c then some ([p], cst m p) else if cst m p = c then some (l ++ [p], c) else some (l, c)
def chO (m : List L) : Option (List L × Int) := (permG m.length m.length []).foldl (cpS m) none
def chV (m : List L) : List L × Int := (chO m).getD ([], 0)
theorem gF_cp (m : List L) : ∀ (l : List L) (x : GS) (N : Nat), (gF m (x, N) l).1.map (fun y => (y.1, y.2.1)) = l.foldl (cpS m) (x.map fun y => (y.1, y.2.1))
  | [], x, N => rfl
  | p :: l, x, N => by
    show (gF m (stepG m (x, N) p) l).1.map _ = l.foldl (cpS m) (cpS m (x.map fun y => (y.1, y.2.1)) p)
    cases x with
    | none => exact gF_cp m l _ _
    | some y =>
      obtain ⟨l', c, id, g⟩ := y
      rw [stepG]
      simp only [Option.map_some, cpS]
      split
      · exact gF_cp m l _ _
      · split
        · exact gF_cp m l _ _
        · exact gF_cp m l _ _
theorem perm_len (N : Nat) : ∀ (f : Nat) (p : L), (permG N f p).length ≤ N ^ f
  | 0, p => by simp [permG]
  | f + 1, p => by
    rw [permG, List.length_flatMap]
    have : ∀ l : List Nat, (l.map fun (k : Nat) => (if ((k : Nat) : Int) ∈ p then [] else permG N f (p ++ [((k : Nat) : Int)])).length).sum ≤ l.length * N ^ f := by
      intro l
      induction l with
      | nil => simp
      | cons a l ih =>
        simp only [List.map_cons, List.sum_cons, List.length_cons, Nat.add_mul, Nat.one_mul]
        have h1 : (if ((a : Nat) : Int) ∈ p then [] else permG N f (p ++ [((a : Nat) : Int)])).length ≤ N ^ f := by
          split
          · simp
          · exact perm_len N f _
        omega
    have h := this (List.range N)
    rw [List.length_range] at h
    rw [Nat.pow_succ, Nat.mul_comm]
    exact h
theorem perm_le {N : Nat} (h : N ≤ 6) : (permG N N []).length ≤ 46656 := by
  refine Nat.le_trans (perm_len N N []) ?_
  have : N = 0 ∨ N = 1 ∨ N = 2 ∨ N = 3 ∨ N = 4 ∨ N = 5 ∨ N = 6 := by omega
  rcases this with rfl | rfl | rfl | rfl | rfl | rfl | rfl <;> decide
theorem perm_ne (N : Nat) : permG N N [] ≠ [] := by
  have h := perm_all (N := N) N [] ((List.range N).map fun k => ((k : Nat) : Int)) (by simp) (fun i hi => by
    obtain ⟨k, hk, rfl⟩ := List.mem_map.1 hi
    have := List.mem_range.1 hk
    omega) (by simp) (List.pairwise_map.2 (List.Pairwise.imp (fun {a b} (h : a ≠ b) (e : ((a : Nat) : Int) = ((b : Nat) : Int)) => h (by omega)) List.nodup_range))
  intro e
  rw [e] at h
  simp at h
theorem cp_some (m : List L) : ∀ (l : List L) (x : Option (List L × Int)), (l ≠ [] ∨ x ≠ none) → ∃ y, l.foldl (cpS m) x = some y
  | [], x, h => by
    cases x with
    | none => simp at h
    | some y => exact ⟨y, rfl⟩
  | p :: l, x, _ => by
    refine cp_some m l (cpS m x p) (.inr ?_)
    cases x with
    | none => simp [cpS]
    | some y =>
      obtain ⟨l', c⟩ := y
      rw [cpS]
      split
      · simp
      · split <;> simp
theorem ag_nilfn : AV.isAgg .nilfn = false := rfl
theorem sc_nilfn : AV.sc .nilfn = true := rfl
def S_ch0 (m : List L) : AState := ⟨[.any, .vp [.vs (m.map eL)] 0 0, .any, .any, .any, .any, .any, .any, .any, .any, .any, .any], [], 0⟩
def S_ch1 (m : List L) : AState := ⟨[.any, .vp [.vs (m.map eL)] 0 0, .any, .any, .ptr 0 1 0 0, .ptr 1 1 0 0, .ptr 2 1 0 0, .any, .any, .any, .any, .any], Jg m none, 3⟩
theorem k_cheapest (m : List L) (hma : maR m) : FOk P 106 [.vs (m.map eL)] (.tup [.vs ((chV m).1.map eL), I (chV m).2]) := by
  have hn6 := hma.n
  have hgr : grR m m.length [] none 3 := ⟨⟨by simp, by simp⟩, (Nat.le_refl _ : 3 ≤ 3), 0, trivial, by have := perm_le hn6.2; omega⟩
  have yr := growH_e m m.length [] none 3 hgr
  have hk := (gF_ok (m := m) (permG m.length m.length []) (none, 3) 0 (Nat.le_refl _ : 3 ≤ 3) trivial (by have := perm_le hn6.2; omega)).1
  have hcp := gF_cp m (permG m.length m.length []) none 3
  generalize gF m (none, 3) (permG m.length m.length []) = q at *
  obtain ⟨x, N⟩ := q
  simp only [Option.map_none] at hk hcp yr
  obtain ⟨y, hy⟩ := cp_some m (permG m.length m.length []) none (.inl (perm_ne _))
  have hy' : chO m = some y := hy
  rw [hy] at hcp
  cases x with
  | none => simp at hcp
  | some z =>
    obtain ⟨l, c, id, g⟩ := z
    simp only [Option.map_some, Option.some.injEq] at hcp
    have hv : chV m = (l, c) := by rw [chV, hy', ← hcp]; rfl
    rw [hv]
    have hk : 3 ≤ N ∧ (3 ≤ id ∧ id < N) ∧ (3 ≤ g ∧ g < N) ∧ 0 < l.length ∧ l.length ≤ 100000 := hk
    have i0 : (id = 0) = False := eq_false (by omega)
    have i1 : (id = 1) = False := eq_false (by omega)
    have i2 : (id = 2) = False := eq_false (by omega)
    have j2 : (2 = id) = False := eq_false (by omega)
    have j1 : (1 = id) = False := eq_false (by omega)
    have j0 : (0 = id) = False := eq_false (by omega)
    have hg := addH_good (h_growN m hma) (noHx_good P)
    have yn : growN m [.nilslice, .int .i64 0, .vp [.vs (m.map eL)] 0 0, .ptr 0 1 0 0, .ptr 1 1 0 0, .ptr 2 1 0 0] (Jg m none) 3 = some (.tup [], Jg m (some (l, c, id, g)), N) := yr
    refine c106.fok (y := YH P (addH 138 (growN m) noHx)) (by simp only [subs, sub1, free_L]) ?_ (fun G => YH_add (by decide) (YH_no _ G))
    rw [bg_eq]
    refine Cor.seq (Cor.run (noC_good _) hg hm ?_)
    simp +contextual -implicitDefEqProofs (maxSteps := 2000000) only [eThen_normal, ruH, ruB, Int.reduceLT, Int.reduceLE, Int.reduceAdd, Int.reduceSub, Int.reduceMul, Int.reduceNeg, Int.reduceToNat, Int.reduceEq, Int.reduceNe, Int.reduceTDiv, Int.reduceTMod, implies_true, putL, appN, appX, appC, Eng.Fi, reduceCtorEq, exists_eq_left', exists_eq_left, if_true, if_false, List.replicate, Nat.reduceAdd, Nat.reduceSub, Nat.reduceMul, Nat.reduceLeDiff, Nat.reduceLT, Nat.reduceEqDiff]
    refine Cor.wk (s2 := S_ch0 m) (Wkn.to ⟨0, [], [0], 0, [1]⟩ rfl rfl (by simp [Wk.st, keepT, memN, Wk.fate, Wk.fate0, assoc, getE, Wk.hp, ABlk.sub, sub1, subs, free_L, S_ch0])) ?_
    refine Cor.seq (Cor.run (noC_good _) hg hm ?_)
    simp +contextual -implicitDefEqProofs (maxSteps := 2000000) only [S_ch0, eThen_normal, ruH, ruB, Int.reduceLT, Int.reduceLE, Int.reduceAdd, Int.reduceSub, Int.reduceMul, Int.reduceNeg, Int.reduceToNat, Int.reduceEq, Int.reduceNe, Int.reduceTDiv, Int.reduceTMod, implies_true, putL, appN, appX, appC, Eng.Fi, reduceCtorEq, exists_eq_left', exists_eq_left, if_true, if_false, List.replicate, Nat.reduceAdd, Nat.reduceSub, Nat.reduceMul, Nat.reduceLeDiff, Nat.reduceLT, Nat.reduceEqDiff]
    refine Cor.seq (Cor.run (noC_good _) hg hm ?_)
    simp +contextual -implicitDefEqProofs (maxSteps := 2000000) only [eThen_normal, ruH, ruB, Int.reduceLT, Int.reduceLE, Int.reduceAdd, Int.reduceSub, Int.reduceMul, Int.reduceNeg, Int.reduceToNat, Int.reduceEq, Int.reduceNe, Int.reduceTDiv, Int.reduceTMod, implies_true, putL, appN, appX, appC, Eng.Fi, reduceCtorEq, exists_eq_left', exists_eq_left, if_true, if_false, List.replicate, Nat.reduceAdd, Nat.reduceSub, Nat.reduceMul, Nat.reduceLeDiff, Nat.reduceLT, Nat.reduceEqDiff]
    refine Cor.seq (Cor.run (noC_good _) hg hm ?_)
    simp +contextual -implicitDefEqProofs (maxSteps := 2000000) only [eThen_normal, ruH, ruB, Int.reduceLT, Int.reduceLE, Int.reduceAdd, Int.reduceSub, Int.reduceMul, Int.reduceNeg, Int.reduceToNat, Int.reduceEq, Int.reduceNe, Int.reduceTDiv, Int.reduceTMod, implies_true, putL, appN, appX, appC, Eng.Fi, reduceCtorEq, exists_eq_left', exists_eq_left, if_true, if_false, List.replicate, Nat.reduceAdd, Nat.reduceSub, Nat.reduceMul, Nat.reduceLeDiff, Nat.reduceLT, Nat.reduceEqDiff]
    refine Cor.seq (Cor.run (noC_good _) hg hm ?_)
    simp +contextual -implicitDefEqProofs (maxSteps := 2000000) only [eThen_normal, rs_nil, rs_t, rs_f, ag_nils, ag_sl, ag_vs, ag_str, ag_ptr, ag_nilp, ag_vp, ag_fun, ag_nilfn, sc_nilfn, ruH, ruB, Int.reduceLT, Int.reduceLE, Int.reduceAdd, Int.reduceSub, Int.reduceMul, Int.reduceNeg, Int.reduceToNat, Int.reduceEq, Int.reduceNe, Int.reduceTDiv, Int.reduceTMod, implies_true, putL, appN, appX, appC, Eng.Fi, reduceCtorEq, exists_eq_left', exists_eq_left, if_true, if_false, List.replicate, Nat.reduceAdd, Nat.reduceSub, Nat.reduceMul, Nat.reduceLeDiff, Nat.reduceLT, Nat.reduceEqDiff]
    refine Cor.wk (s2 := S_ch1 m) (Wkn.to ⟨0, [(0, 0), (1, 1), (3, 2)], [], 3, [1, 4, 5, 6]⟩ rfl rfl (by simp [Wk.st, keepT, memN, Wk.fate, Wk.fate0, assoc, getE, Wk.hp, ABlk.sub, sub1, subs, free_L, S_ch1, Jg])) ?_
    refine Cor.seq (Cor.run (noC_good _) hg hm ?_)
    have hg2 := ge_g2 m none 3 (Nat.le_refl _ : 3 ≤ 3)
    simp +contextual -implicitDefEqProofs (maxSteps := 2000000) only [S_ch1, hg2, h_callv, callT_fn, yn, eThen_normal, ruH, ruB, Int.reduceLT, Int.reduceLE, Int.reduceAdd, Int.reduceSub, Int.reduceMul, Int.reduceNeg, Int.reduceToNat, Int.reduceEq, Int.reduceNe, Int.reduceTDiv, Int.reduceTMod, implies_true, putL, appN, appX, appC, Eng.Fi, reduceCtorEq, exists_eq_left', exists_eq_left, if_true, if_false, List.replicate, Nat.reduceAdd, Nat.reduceSub, Nat.reduceMul, Nat.reduceLeDiff, Nat.reduceLT, Nat.reduceEqDiff]
    have t0 : (l.map eL).take l.length = l.map eL := by rw [List.take_of_length_le]; simp
    refine Cor.run (noC_good _) hg hm ?_
    simp +contextual -implicitDefEqProofs (maxSteps := 2000000) only [Jg, i0, i1, i2, j0, j1, j2, List.length_map, Nat.le_refl, t0, free_L, ruH, ruB, Int.reduceLT, Int.reduceLE, Int.reduceAdd, Int.reduceSub, Int.reduceMul, Int.reduceNeg, Int.reduceToNat, Int.reduceEq, Int.reduceNe, Int.reduceTDiv, Int.reduceTMod, implies_true, putL, appN, appX, appC, Eng.Fi, reduceCtorEq, exists_eq_left', exists_eq_left, if_true, if_false, List.replicate, Nat.reduceAdd, Nat.reduceSub, Nat.reduceMul, Nat.reduceLeDiff, Nat.reduceLT, Nat.reduceEqDiff]
def cf_cheapest : List AV → Option AV
  | [.vs us] => onL dL us fun m => if (cmV m).2 = 0 then some (.tup [.vs ((chV m).1.map eL), I (chV m).2]) else none
  | _ => none
theorem g_cheapest : Fn P 106 cf_cheapest := fun args v h => by
  unfold cf_cheapest at h; split at h
  · obtain ⟨m, rfl, h2⟩ := onL_inv dL_inv h
    split at h2
    · rename_i hc; have h2 := Option.some.inj h2; subst h2; exact k_cheapest m (cmV_z hc)
    · cases h2
  · cases h
theorem x_cheapest (m : List L) (h : (cmV m).2 = 0) : cf_cheapest [.vs (m.map eL)] = some (.tup [.vs ((chV m).1.map eL), I (chV m).2]) := by
  simp only [cf_cheapest, onL_map dL_e]
  rw [if_pos h]
end Wa
