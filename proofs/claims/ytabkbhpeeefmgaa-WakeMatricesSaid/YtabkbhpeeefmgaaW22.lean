import Derived.Test.YtabkbhpeeefmgaaEngS9
import Derived.Test.YtabkbhpeeefmgaaW21
open Go Go.Proofs Eng
set_option maxRecDepth 100000
set_option linter.unusedSimpArgs false
set_option linter.unusedVariables false

namespace Wa
theorem ge_g2 (m : List L) (x : GS) (N : Nat) (h : gok N x) : getE (Jg m x) 2 = some ⟨2, 2, .rows 197 1 [GF m]⟩ := by
  cases x with
  | none => rfl
  | some y =>
    obtain ⟨l, c, id, g⟩ := y
    have h : 3 ≤ N ∧ (3 ≤ id ∧ id < N) ∧ (3 ≤ g ∧ g < N) ∧ 0 < l.length ∧ l.length ≤ 100000 := h
    have : ¬ id = 2 := by omega
    simp [Jg, getE, this]
theorem suG : chkF Try.prog 138 10 9 = true := by kernel_rfl
def S_gl (m : List L) (p row : L) (q : Nat × GS × Nat) : AState := ⟨[.vs (p.map eI), I (cst m p), .vp [.vs (m.map eL)] 0 0, .ptr 0 1 0 0, .ptr 1 1 0 0, .ptr 2 1 0 0, .any, .any, .any, .any, .any, .any, .any, .any, .any, .any, .any, .any, .any, .any, .any, .any, .any, .any, .any, .any, .any, .any, .any, .any, .any, .any, .any, .any, .any, .any, .vs (row.map eI), I row.length, I q.1, .any, .any, .any, .any, .any, .any, .any, .any, .any, .any, .any, .any, .any, .any, .any, .any, .any, .any, .any], Jg m q.2.1, q.2.2⟩
def S_gn (m : List L) (p row : L) (k : Nat) (c : Int) (x : GS) (N : Nat) : AState := ⟨[.vs (p.map eI), I (cst m p), .vp [.vs (m.map eL)] 0 0, .ptr 0 1 0 0, .ptr 1 1 0 0, .ptr 2 1 0 0, .any, .any, .any, .any, .any, .any, .any, .any, .any, .any, .any, .any, .any, .any, .any, .any, .any, .any, .any, .any, .any, .any, .any, .any, .any, .any, .any, .any, .any, .any, .vs (row.map eI), I row.length, I k, .any, .any, .any, .any, .any, .any, .any, .any, GF m, .any, .any, .any, .any, .vs ((p ++ [(k : Int)]).map eI), .any, .any, I c, .any, .any], Jg m x, N⟩
def grR (m : List L) (f : Nat) (p : L) (x : GS) (N : Nat) : Prop := (p.length + f = m.length ∧ ∀ k ∈ p, 0 ≤ k ∧ k < m.length) ∧ gok N x ∧ ∃ j, gle m j x ∧ j + (permG m.length f p).length ≤ 100000
set_option maxHeartbeats 2000000 in
theorem l_grow1 (m : List L) (hma : maR m) (f : Nat) (hr : List AV → List HEnt → Nat → Option (AV × List HEnt × Nat)) (hhr : Hn P 138 hr)
    (hre : ∀ p x N, grR m f p x N → hr ([.vs (p.map eI), I (cst m p)] ++ caps m) (Jg m x) N = some (.tup [], Jg m (gF m (x, N) (permG m.length f p)).1, (gF m (x, N) (permG m.length f p)).2))
    (p : L) (x0 : GS) (N0 : Nat) (h0 : grR m (f + 1) p x0 N0) :
    LOk P 138 ([.vs (p.map eI), I (cst m p)] ++ caps m) (Jg m x0) N0 (.tup []) (Jg m (gF m (x0, N0) (permG m.length (f + 1) p)).1) (gF m (x0, N0) (permG m.length (f + 1) p)).2 := by
  obtain ⟨⟨hpf, hpk⟩, hg0, j0, hj0, hj1⟩ := h0
  have hn6 := hma.n
  have hpl : p.length < m.length := by omega
  have hNi : ((p.length : Int) = (m.length : Int)) = False := eq_false (by omega)
  have hrow := hma.r m[p.length] (List.getElem_mem hpl)
  have e0 : (m.map eL)[p.length]? = some (eL m[p.length]) := get_e eL m hpl
  have hcell : ∀ k : Nat, ∀ h : k < m[p.length].length, cell m p.length (k : Int) = m[p.length][k] := fun k h => cell_get hpl h
  obtain ⟨row, hrw⟩ : ∃ row, m[p.length] = row := ⟨_, rfl⟩
  have hcell : ∀ k : Nat, ∀ h : k < row.length, cell m p.length (k : Int) = row[k] := by subst hrw; exact hcell
  rw [hrw] at hrow e0
  have hc0 := cst_bd hma p
  have hgd := addH_good hhr (noHx_good P)
  refine c138.lokS suG (y := YH P (addH 138 hr noHx)) (CorS.seq (CorS.of (Cor.run (noC_good _) hgd hm ?_))) (fun G => YH_add (by decide) (YH_no _ G))
  simp +contextual -implicitDefEqProofs (maxSteps := 2000000) only [bg_eq, List.length_map, hNi, eThen_normal, ruH, ruB, Int.reduceLT, Int.reduceLE, Int.reduceAdd, Int.reduceSub, Int.reduceMul, Int.reduceNeg, Int.reduceToNat, Int.reduceEq, Int.reduceNe, Int.reduceTDiv, Int.reduceTMod, implies_true, putL, appN, appX, appC, Eng.Fi, reduceCtorEq, exists_eq_left', exists_eq_left, if_true, if_false, List.replicate, Nat.reduceAdd, Nat.reduceSub, Nat.reduceMul, Nat.reduceLeDiff, Nat.reduceLT, Nat.reduceEqDiff]
  refine CorS.seq (CorS.of (Cor.run (noC_good _) hgd hm ?_))
  simp +contextual -implicitDefEqProofs (maxSteps := 2000000) only [List.length_map, e0, eThen_normal, ruH, ruB, Int.reduceLT, Int.reduceLE, Int.reduceAdd, Int.reduceSub, Int.reduceMul, Int.reduceNeg, Int.reduceToNat, Int.reduceEq, Int.reduceNe, Int.reduceTDiv, Int.reduceTMod, implies_true, putL, appN, appX, appC, Eng.Fi, reduceCtorEq, exists_eq_left', exists_eq_left, if_true, if_false, List.replicate, Nat.reduceAdd, Nat.reduceSub, Nat.reduceMul, Nat.reduceLeDiff, Nat.reduceLT, Nat.reduceEqDiff]
  rw [permD_0] at hj1 ⊢
  generalize htot : gF m (x0, N0) (permD m.length f p 0) = tot at *
  refine CorS.block (CorS.loopC (S_gl m p row) (fun q => (q.1 ≤ m.length ∧ N0 ≤ q.2.2) ∧ gok q.2.2 q.2.1 ∧ (∃ j, gle m j q.2.1 ∧ j + (permD m.length f p q.1).length ≤ 100000) ∧ tot = gF m (q.2.1, q.2.2) (permD m.length f p q.1)) (fun q => m.length - q.1) (a := (0, x0, N0)) ?_ ⟨⟨Nat.zero_le _, Nat.le_refl _⟩, hg0, ⟨j0, hj0, hj1⟩, htot.symm⟩ (Wkn.keep [0, 1, 2, 3, 4, 5, 36, 37, 38] rfl))
  rintro ⟨k, x, N⟩ ⟨⟨hk, hNN⟩, hgk, ⟨j, hj, hjl⟩, hf⟩
  simp only at hk hNN hgk hj hjl hf
  rcases Nat.lt_or_ge k m.length with h | h
  · have hkr : k < row.length := by rw [hrow.1]; exact h
    have e1 : decide ((k : Int) < (row.length : Int)) = true := lt_t hkr
    have e2 : (row.map eI)[k]? = some (eI row[k]) := get_e eI row hkr
    have e3 : IntKind.wrap .i64 ((k : Int) + 1) = ((k + 1 : Nat) : Int) := suc_w (by omega)
    have yc := x_ContainsI p (k : Int) (by simp only [eq_iff_iff, iff_true]; omega)
    have ycl := x_ClipI p (by simp only [eq_iff_iff, iff_true]; omega)
    rw [permD_c h] at hf hjl
    have hcl := hcell k hkr
    have hcb := hrow.2 row[k] (List.getElem_mem hkr)
    have hcst := cst_snoc m p (k : Int)
    rw [hcl] at hcst
    refine CorS.seq (CorS.of (Cor.run (noC_good _) hgd hm ?_))
    simp +contextual -implicitDefEqProofs (maxSteps := 2000000) only [S_gl, e1, eThen_normal, ruH, ruB, Int.reduceLT, Int.reduceLE, Int.reduceAdd, Int.reduceSub, Int.reduceMul, Int.reduceNeg, Int.reduceToNat, Int.reduceEq, Int.reduceNe, Int.reduceTDiv, Int.reduceTMod, implies_true, putL, appN, appX, appC, Eng.Fi, reduceCtorEq, exists_eq_left', exists_eq_left, if_true, if_false, List.replicate, Nat.reduceAdd, Nat.reduceSub, Nat.reduceMul, Nat.reduceLeDiff, Nat.reduceLT, Nat.reduceEqDiff]
    refine CorS.seq (CorS.of (Cor.run (noC_good _) hgd hm ?_))
    simp +contextual -implicitDefEqProofs (maxSteps := 2000000) only [eThen_normal, ruH, ruB, Int.reduceLT, Int.reduceLE, Int.reduceAdd, Int.reduceSub, Int.reduceMul, Int.reduceNeg, Int.reduceToNat, Int.reduceEq, Int.reduceNe, Int.reduceTDiv, Int.reduceTMod, implies_true, putL, appN, appX, appC, Eng.Fi, reduceCtorEq, exists_eq_left', exists_eq_left, if_true, if_false, List.replicate, Nat.reduceAdd, Nat.reduceSub, Nat.reduceMul, Nat.reduceLeDiff, Nat.reduceLT, Nat.reduceEqDiff]
    refine CorS.seq (CorS.block (CorS.seq (CorS.of (Cor.run (noC_good _) hgd hm ?_))))
    simp +contextual -implicitDefEqProofs (maxSteps := 2000000) only [e2, eThen_normal, ruH, ruB, Int.reduceLT, Int.reduceLE, Int.reduceAdd, Int.reduceSub, Int.reduceMul, Int.reduceNeg, Int.reduceToNat, Int.reduceEq, Int.reduceNe, Int.reduceTDiv, Int.reduceTMod, implies_true, putL, appN, appX, appC, Eng.Fi, reduceCtorEq, exists_eq_left', exists_eq_left, if_true, if_false, List.replicate, Nat.reduceAdd, Nat.reduceSub, Nat.reduceMul, Nat.reduceLeDiff, Nat.reduceLT, Nat.reduceEqDiff]
    by_cases hin : (k : Int) ∈ p
    · rw [permO, if_pos hin, List.nil_append] at hf hjl
      rw [decide_eq_true hin] at yc
      refine CorS.of (Cor.run (addC_good g_ContainsI (noC_good _)) hgd hm ?_)
      simp +contextual -implicitDefEqProofs (maxSteps := 2000000) only [yc, eBlk_normal, eThen_normal, ruH, ruB, Int.reduceLT, Int.reduceLE, Int.reduceAdd, Int.reduceSub, Int.reduceMul, Int.reduceNeg, Int.reduceToNat, Int.reduceEq, Int.reduceNe, Int.reduceTDiv, Int.reduceTMod, implies_true, putL, appN, appX, appC, Eng.Fi, reduceCtorEq, exists_eq_left', exists_eq_left, if_true, if_false, List.replicate, Nat.reduceAdd, Nat.reduceSub, Nat.reduceMul, Nat.reduceLeDiff, Nat.reduceLT, Nat.reduceEqDiff]
      refine CorS.of (Cor.run (noC_good _) hgd hm ?_)
      simp +contextual -implicitDefEqProofs (maxSteps := 2000000) only [e3, eThen_normal, ruH, ruB, Int.reduceLT, Int.reduceLE, Int.reduceAdd, Int.reduceSub, Int.reduceMul, Int.reduceNeg, Int.reduceToNat, Int.reduceEq, Int.reduceNe, Int.reduceTDiv, Int.reduceTMod, implies_true, putL, appN, appX, appC, Eng.Fi, reduceCtorEq, exists_eq_left', exists_eq_left, if_true, if_false, List.replicate, Nat.reduceAdd, Nat.reduceSub, Nat.reduceMul, Nat.reduceLeDiff, Nat.reduceLT, Nat.reduceEqDiff]
      exact ⟨(k + 1, x, N), ⟨⟨h, hNN⟩, hgk, ⟨j, hj, hjl⟩, hf⟩, by simp only; omega, Wkn.keep [0, 1, 2, 3, 4, 5, 36, 37, 38] rfl⟩
    · rw [permO, if_neg hin] at hf hjl
      rw [decide_eq_false hin] at yc
      rw [List.length_append] at hjl
      have hge := ge_g2 m x N hgk
      have hw : IntKind.wrap .i64 (cst m p + row[k]) = cst m (p ++ [(k : Int)]) := by rw [hcst]; exact wrap64 (by omega) (by omega)
      have m1 : (p.length + 1 ≤ maxLen) = True := mx (by omega)
      have m2 : ((p.length + 1) * 8 ≤ 140737488355328) = True := by simp only [eq_iff_iff, iff_true]; omega
      have al : (p.map eI).all (fun v => decide (v.cells.length = 1)) = true := by simp [List.all_map, AV.cells]
      have lm : (p.map eI).length = p.length := by simp
      refine CorS.seq (CorS.of (Cor.run (addC_good g_ContainsI (noC_good _)) hgd hm ?_))
      simp +contextual -implicitDefEqProofs (maxSteps := 2000000) only [yc, eThen_normal, ruH, ruB, Int.reduceLT, Int.reduceLE, Int.reduceAdd, Int.reduceSub, Int.reduceMul, Int.reduceNeg, Int.reduceToNat, Int.reduceEq, Int.reduceNe, Int.reduceTDiv, Int.reduceTMod, implies_true, putL, appN, appX, appC, Eng.Fi, reduceCtorEq, exists_eq_left', exists_eq_left, if_true, if_false, List.replicate, Nat.reduceAdd, Nat.reduceSub, Nat.reduceMul, Nat.reduceLeDiff, Nat.reduceLT, Nat.reduceEqDiff]
      refine CorS.cond ?_
      simp +contextual -implicitDefEqProofs (maxSteps := 2000000) only [condV_t, ruH, ruB, Int.reduceLT, Int.reduceLE, Int.reduceAdd, Int.reduceSub, Int.reduceMul, Int.reduceNeg, Int.reduceToNat, Int.reduceEq, Int.reduceNe, Int.reduceTDiv, Int.reduceTMod, implies_true, putL, appN, appX, appC, Eng.Fi, reduceCtorEq, exists_eq_left', exists_eq_left, if_true, if_false, List.replicate, Nat.reduceAdd, Nat.reduceSub, Nat.reduceMul, Nat.reduceLeDiff, Nat.reduceLT, Nat.reduceEqDiff]
      refine CorS.opsD ((addC_good g_ClipI (addC_good g_ContainsI (noC_good _))) : Good P _) hgd hm rfl (by decide) ?_
      have hN3 : 3 ≤ N := by cases x with | none => exact hgk | some y => exact hgk.1
      have hN2 : memN [2] N = false := by simp [memN]; omega
      simp +contextual -implicitDefEqProofs (maxSteps := 2000000) only [List.filter_cons, List.filter_nil, ycl, hge, al, lm, m1, m2, hw, hN2, okN, ruH, ruB, Int.reduceLT, Int.reduceLE, Int.reduceAdd, Int.reduceSub, Int.reduceMul, Int.reduceNeg, Int.reduceToNat, Int.reduceEq, Int.reduceNe, Int.reduceTDiv, Int.reduceTMod, implies_true, putL, appN, appX, appC, Eng.Fi, reduceCtorEq, exists_eq_left', exists_eq_left, if_true, if_false, List.replicate, Nat.reduceAdd, Nat.reduceSub, Nat.reduceMul, Nat.reduceLeDiff, Nat.reduceLT, Nat.reduceEqDiff]
      refine ⟨S_gn m p row k (cst m (p ++ [(k : Int)])) x N, Wkn.lowle hNN (A := [⟨N, N, .rows 3 1 (p.map eI ++ [I (k : Int)])⟩]) (H := Jg m x) [N] [0, 1, 2, 3, 4, 5, 36, 37, 38, 47, 52, 55] ?_ (Low_g hgk) ?_, ?_⟩
      · simp
      · have hlo := fun t (ht : t < N) => fate_low ⟨N, [], [N], N, [0, 1, 2, 3, 4, 5, 36, 37, 38, 47, 52, 55]⟩ ([⟨N, N, .rows 3 1 (p.map eI ++ [I (k : Int)])⟩] ++ Jg m x) t ht
        have f0 := hlo 0 (by omega)
        have f1 := hlo 1 (by omega)
        have f2 := hlo 2 (by omega)
        have hpk : ∀ φ, subs φ (p.map eI ++ [I (k : Int)]) = p.map eI ++ [I (k : Int)] := fun φ => by
          have := free_I φ (p ++ [(k : Int)])
          rwa [List.map_append] at this
        have hfz : (⟨N, [], [N], N, [0, 1, 2, 3, 4, 5, 36, 37, 38, 47, 52, 55]⟩ : Wk).fate ([⟨N, N, .rows 3 1 (p.map eI ++ [I (k : Int)])⟩] ++ Jg m x) N = .froz 1 (p.map eI ++ [I (k : Int)]) := by
          simp only [Wk.fate, memN, getE, List.cons_append, List.nil_append, if_true, Nat.lt_irrefl, if_false, hpk]
        have hfm := fun φ => free_L φ m
        have hfr := fun φ => free_I φ row
        have hfp := fun φ => free_I φ p
        simp only [List.cons_append, List.nil_append] at f0 f1 f2 hfz
        simp [keepT, memN, sub1, subs, hfm, hfr, hfp, hfz, f0, f1, f2, S_gn]
        exact List.take_of_length_le (by simp)
      · obtain ⟨b1, b2, b3⟩ := gF_ok (m := m) (permG m.length f (p ++ [(k : Int)])) (x, N) j hgk hj (by omega)
        have yr := hre (p ++ [(k : Int)]) x N ⟨⟨by simp only [List.length_append, List.length_cons, List.length_nil]; omega, fun z hz => by
          rcases List.mem_append.1 hz with hz | hz
          · exact hpk z hz
          · rw [List.mem_singleton.1 hz]; omega⟩, hgk, j, hj, by omega⟩
        rw [gF_app] at hf
        generalize gF m (x, N) (permG m.length f (p ++ [(k : Int)])) = q at *
        obtain ⟨x', N'⟩ := q
        simp only at yr hf b1 b2 b3
        simp only [List.cons_append, List.nil_append] at yr
        simp +contextual -implicitDefEqProofs (maxSteps := 2000000) only [S_gn, hg_cons, hg_nil, hg_n, h_callv, callT_fn, yr, eThen_normal, eBlk_normal, okN, ruH, ruB, Int.reduceLT, Int.reduceLE, Int.reduceAdd, Int.reduceSub, Int.reduceMul, Int.reduceNeg, Int.reduceToNat, Int.reduceEq, Int.reduceNe, Int.reduceTDiv, Int.reduceTMod, implies_true, putL, appN, appX, appC, Eng.Fi, reduceCtorEq, exists_eq_left', exists_eq_left, if_true, if_false, List.replicate, Nat.reduceAdd, Nat.reduceSub, Nat.reduceMul, Nat.reduceLeDiff, Nat.reduceLT, Nat.reduceEqDiff]
        refine CorS.of (Cor.run (noC_good _) hgd hm ?_)
        simp +contextual -implicitDefEqProofs (maxSteps := 2000000) only [e3, eThen_normal, ruH, ruB, Int.reduceLT, Int.reduceLE, Int.reduceAdd, Int.reduceSub, Int.reduceMul, Int.reduceNeg, Int.reduceToNat, Int.reduceEq, Int.reduceNe, Int.reduceTDiv, Int.reduceTMod, implies_true, putL, appN, appX, appC, Eng.Fi, reduceCtorEq, exists_eq_left', exists_eq_left, if_true, if_false, List.replicate, Nat.reduceAdd, Nat.reduceSub, Nat.reduceMul, Nat.reduceLeDiff, Nat.reduceLT, Nat.reduceEqDiff]
        exact ⟨(k + 1, x', N'), ⟨⟨h, Nat.le_trans hNN b3⟩, b1, ⟨j + (permG m.length f (p ++ [(k : Int)])).length, b2, by simp only; omega⟩, hf⟩, by simp only; omega, Wkn.keep [0, 1, 2, 3, 4, 5, 36, 37, 38] rfl⟩
  · have hkr : row.length ≤ k := by rw [hrow.1]; exact h
    have e1 : decide ((k : Int) < (row.length : Int)) = false := lt_f hkr
    rw [permD_n h] at hf
    have hf : tot = (x, N) := hf
    rw [hf]
    refine CorS.seq (CorS.of (Cor.run (noC_good _) hgd hm ?_))
    simp +contextual -implicitDefEqProofs (maxSteps := 2000000) only [S_gl, e1, eThen_normal, ruH, ruB, Int.reduceLT, Int.reduceLE, Int.reduceAdd, Int.reduceSub, Int.reduceMul, Int.reduceNeg, Int.reduceToNat, Int.reduceEq, Int.reduceNe, Int.reduceTDiv, Int.reduceTMod, implies_true, putL, appN, appX, appC, Eng.Fi, reduceCtorEq, exists_eq_left', exists_eq_left, if_true, if_false, List.replicate, Nat.reduceAdd, Nat.reduceSub, Nat.reduceMul, Nat.reduceLeDiff, Nat.reduceLT, Nat.reduceEqDiff]
    refine CorS.seq (CorS.of (Cor.run (noC_good _) hgd hm ?_))
    simp +contextual -implicitDefEqProofs (maxSteps := 2000000) only [eThen_exit, eBlk_exit, FinL, ruH, ruB, Int.reduceLT, Int.reduceLE, Int.reduceAdd, Int.reduceSub, Int.reduceMul, Int.reduceNeg, Int.reduceToNat, Int.reduceEq, Int.reduceNe, Int.reduceTDiv, Int.reduceTMod, implies_true, putL, appN, appX, appC, Eng.Fi, reduceCtorEq, exists_eq_left', exists_eq_left, if_true, if_false, List.replicate, Nat.reduceAdd, Nat.reduceSub, Nat.reduceMul, Nat.reduceLeDiff, Nat.reduceLT, Nat.reduceEqDiff]
end Wa
