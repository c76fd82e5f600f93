import Derived.Test.YtjfhhaaogcgkpaaEngS9
import Derived.Test.YtjfhhaaogcgkpaaC30
open Go Go.Proofs Eng
set_option maxRecDepth 100000
set_option linter.unusedSimpArgs false
set_option linter.unusedVariables false
def a61 : AC := .seq (.ops false [] [⟨some 2, .box 71 1 1 false, [.t 0], none⟩, ⟨some 4, .p (.mov), [.c (.int .i64 0)], none⟩, ⟨some 5, .p (.mov), [.c (.int .i64 0)], none⟩]) (.seq (.seq (.ops false [] [⟨some 10, .load 1 false, [.t 2], none⟩, ⟨some 11, .p (.mov), [.t 1], none⟩, ⟨some 12, .call 118, [.t 10, .t 11], none⟩, ⟨some 6, .p (.mov), [.t 12], none⟩]) (.seq (.ops false [] [⟨some 13, .p (.mov), [.t 6], none⟩, ⟨some 14, .p (.binI .neq), [.t 13, .c (.int .i64 0)], none⟩]) (.cond (.t 14) (.seq (.ops false [] [⟨some 15, .p (.mov), [.t 6], none⟩, ⟨some 4, .p (.mov), [.c (.int .i64 0)], none⟩, ⟨some 5, .p (.mov), [.t 15], none⟩]) (.ret)) (.skip)))) (.seq (.ops false [] [⟨some 7, .alloc 110 1 [.nilslice], [], none⟩]) (.seq (.seq (.ops false [] [⟨some 16, .load 1 false, [.t 2], none⟩, ⟨some 17, .p (.mov), [.t 1], none⟩, ⟨some 18, .call 119, [.t 16, .t 17], none⟩]) (.block 0 (.rf (.t 18) [19, 20] (.seq (.ops false [] [⟨some 8, .p (.mov), [.t 19], none⟩]) (.ops false [] [⟨some 9, .p (.mov), [.t 20], none⟩])) (.block 1 (.ops true [] [⟨some 21, .load 1 false, [.t 7], none⟩, ⟨some 22, .load 1 false, [.t 2], none⟩, ⟨some 23, .p (.mov), [.t 8], none⟩, ⟨some 24, .p (.iaddrS 3), [.t 22, .t 23], none⟩, ⟨some 25, .load 3 true, [.t 24], none⟩, ⟨some 26, .load 1 false, [.t 2], none⟩, ⟨some 27, .p (.mov), [.t 9], none⟩, ⟨some 28, .p (.iaddrS 3), [.t 26, .t 27], none⟩, ⟨some 29, .load 3 true, [.t 28], none⟩, ⟨some 30, .call 117, [.t 25, .t 29], none⟩, ⟨some 31, .p (.field 1 1 false), [.t 30], none⟩, ⟨some 32, .fbs 1, [.t 31], none⟩, ⟨some 33, .app 3 1 8, [.t 21, .t 32], none⟩, ⟨none, .store 1 false, [.t 7, .t 33], none⟩]))))) (.seq (.seq (.ops false [] [⟨some 34, .load 1 false, [.t 7], none⟩, ⟨some 35, .p (.lenS), [.t 34], none⟩, ⟨some 36, .p (.binI .eql), [.t 35, .c (.int .i64 0)], none⟩]) (.cond (.t 36) (.seq (.ops false [] [⟨some 4, .p (.mov), [.c (.int .i64 0)], none⟩, ⟨some 5, .p (.mov), [.c (.int .i64 12)], none⟩]) (.ret)) (.skip))) (.seq (.ops false [] [⟨some 37, .load 1 false, [.t 7], none⟩, ⟨some 38, .call 120, [.t 37], none⟩, ⟨some 4, .p (.mov), [.t 38], none⟩, ⟨some 5, .p (.mov), [.c (.int .i64 0)], none⟩]) (.ret))))))
theorem c61 : FnC Try.prog 61 39 a61 [.tmp 4, .tmp 5] := ⟨Try.call61, _, _, Try.func61, rfl, by kernel_rfl, by kernel_rfl, rfl⟩
def a65 : AC := .seq (.ops false [] [⟨some 3, .box 71 1 1 false, [.t 0], none⟩, ⟨some 6, .alloc 64 2 [.agg [.int .i64 0, .int .i64 0]], [], none⟩, ⟨some 7, .p (.mov), [.c (.int .i64 0)], none⟩]) (.seq (.ops false [] [⟨some 10, .p (.mkfn 124 0), [.t 3], none⟩, ⟨some 8, .p (.mov), [.t 10], none⟩]) (.seq (.seq (.ops false [] [⟨some 11, .load 1 false, [.t 3], none⟩, ⟨some 12, .call 97, [.t 11], none⟩, ⟨some 13, .p (.mov), [.t 8], none⟩, ⟨some 14, .p (.mov), [.t 1], none⟩, ⟨some 15, .callv, [.t 13, .t 14], none⟩, ⟨some 16, .p (.mov), [.t 15], none⟩, ⟨some 17, .p (.mov), [.t 8], some (16, true)⟩, ⟨some 18, .p (.mov), [.t 2], some (16, true)⟩, ⟨some 19, .callv, [.t 17, .t 18], some (16, true)⟩, ⟨some 20, .p (.pick), [.t 16, .t 19, .c (.bool false)], none⟩, ⟨some 21, .call 85, [.t 20, .c (.int .i64 6)], none⟩, ⟨some 22, .p (.mov), [.t 1], none⟩, ⟨some 23, .p (.mov), [.t 2], none⟩, ⟨some 24, .p (.binI .lss), [.t 22, .t 23], none⟩, ⟨some 25, .call 85, [.t 24, .c (.int .i64 9)], none⟩, ⟨some 26, .fbs 1, [.t 12, .t 21, .t 25], none⟩, ⟨some 27, .call 84, [.t 26], none⟩, ⟨some 9, .p (.mov), [.t 27], none⟩]) (.seq (.ops false [] [⟨some 28, .p (.mov), [.t 9], none⟩, ⟨some 29, .p (.binI .neq), [.t 28, .c (.int .i64 0)], none⟩]) (.cond (.t 29) (.seq (.ops false [] [⟨some 30, .p (.build [.int .i64 0, .int .i64 0] []), [], none⟩, ⟨some 31, .p (.mov), [.t 9], none⟩, ⟨none, .store 2 true, [.t 6, .t 30], none⟩, ⟨some 7, .p (.mov), [.t 31], none⟩]) (.ret)) (.skip)))) (.seq (.ops true [] [⟨some 32, .load 1 false, [.t 3], none⟩, ⟨some 33, .p (.mov), [.t 1], none⟩, ⟨some 34, .p (.iaddrS 3), [.t 32, .t 33], none⟩, ⟨some 35, .load 3 true, [.t 34], none⟩, ⟨some 36, .load 1 false, [.t 3], none⟩, ⟨some 37, .p (.mov), [.t 2], none⟩, ⟨some 38, .p (.iaddrS 3), [.t 36, .t 37], none⟩, ⟨some 39, .load 3 true, [.t 38], none⟩, ⟨some 40, .call 117, [.t 35, .t 39], none⟩, ⟨none, .store 2 true, [.t 6, .t 40], none⟩, ⟨some 7, .p (.mov), [.c (.int .i64 0)], none⟩]) (.ret))))
theorem c65 : FnC Try.prog 65 41 a65 [.cell 6 2 true, .tmp 7] := ⟨Try.call65, _, _, Try.func65, rfl, by kernel_rfl, by kernel_rfl, rfl⟩
def a124 : AC := .seq (.ops false [] [⟨some 3, .p (.mov), [.c (.bool false)], none⟩]) (.seq (.ops false [] [⟨some 4, .p (.mov), [.t 0], none⟩, ⟨some 5, .load 1 false, [.t 1], none⟩, ⟨some 6, .p (.lenS), [.t 5], none⟩, ⟨some 7, .p (.binI .sub), [.t 6, .c (.int .i64 1)], none⟩, ⟨some 8, .call 107, [.t 4, .c (.int .i64 0), .t 7], none⟩, ⟨some 3, .p (.mov), [.t 8], none⟩]) (.ret))
theorem c124 : FnC Try.prog 124 9 a124 [.tmp 3] := ⟨Try.call124, _, _, Try.func124, rfl, by kernel_rfl, by kernel_rfl, rfl⟩
namespace Sh

/-! the possible loss -/
theorem takeK_len {d : Int} {gi : Gt} {i : Nat} : ∀ (r : List Gt) (k : Nat), (takeK d gi i k r).length ≤ r.length
  | [], k => by simp [takeK]
  | g :: r, k => by
    simp only [takeK]
    split
    · have := takeK_len (d := d) (gi := gi) (i := i) r (k + 1); simp only [List.length_cons]; omega
    · simp
theorem pairsL_len {d : Int} {m : Nat} : ∀ (r : List Gt) (i : Nat), r.length ≤ m → (pairsL d i r).length ≤ r.length * m
  | [], i, _ => by simp [pairsL]
  | g :: r, i, h => by
    simp only [List.length_cons] at h
    have h1 := takeK_len (d := d) (gi := g) (i := i) r (i + 1)
    have h2 := pairsL_len (d := d) (m := m) r (i + 1) (by omega)
    simp only [pairsL, List.length_append, List.length_cons, Nat.succ_mul]
    omega
def hiP (l : List Gt) (p : Nat × Nat) : Int := match l[p.1]?, l[p.2]? with
  | some gi, some gk => gi.hi - gk.lo
  | _, _ => 0
def st61 (l : List Gt) (o : List Int) (v : List AV) : List Int × Jk := (o ++ [hiP l (decP v)], .nx)
def J61 (l : List Gt) : List Int → List HEnt
  | [] => [⟨1, 1, .rows 110 1 [.nilslice]⟩, ⟨0, 0, .rows 71 1 [.vs (l.map eG)]⟩]
  | x :: r => [⟨r.length + r.length + 3, 3, .rows 3 1 ((x :: r).map eI)⟩, ⟨1, 1, .rows 110 1 [.slice (r.length + r.length + 3) 1 0 (r.length + 1)]⟩, ⟨0, 0, .rows 71 1 [.vs (l.map eG)]⟩]
theorem J61_inj (l : List Gt) (a b : List Int) (h : J61 l a = J61 l b) : a = b := by
  have inj : ∀ x y : Int, eI x = eI y → x = y := fun x y h => by injection h
  cases a <;> cases b
  · rfl
  · simp [J61] at h
  · simp [J61] at h
  · simp only [J61, List.cons.injEq, HEnt.mk.injEq, ABlk.rows.injEq] at h
    exact (List.map_inj_right inj).1 h.1.2.2.2.2
theorem J61_free (l : List Gt) (a : List Int) : ∀ e ∈ J61 l a, e.grp ≠ 2 := by
  intro e he
  cases a with
  | nil =>
    simp only [J61, List.mem_cons, List.not_mem_nil, or_false] at he
    rcases he with rfl | rfl <;> simp
  | cons x r =>
    simp only [J61, List.mem_cons, List.not_mem_nil, or_false] at he
    rcases he with rfl | rfl | rfl <;> simp
def possL (l : List Gt) (d : Int) : Int × Int :=
  if lenE l d = 0 then (if pairsL d 0 l = [] then (0, 12) else (maxL ((pairsL d 0 l).map (hiP l)), 0)) else (0, lenE l d)
theorem k61 (l : List Gt) (d : Int) (hl : l.length ≤ 1099511627776) : FOk P 61 [.vs (l.map eG), I d] (.tup [I (possL l d).1, I (possL l d).2]) := by
  have h' : (l.length ≤ 1099511627776) = True := by simp [hl]
  refine c61.fok (by simp only [subs, sub1, free_G]) (Cor.run (addC_good g120 (addC_good g117 (addC_good g119 (addC_good g118 (noC_good _))))) (noHx_good _) hm ?_)
  by_cases h0 : lenE l d = 0
  · simp +contextual -implicitDefEqProofs (maxSteps := 2000000) only [bg_eq, a61, x118, x119, h', h0, ruB, rh_no, Int.reduceLT, Int.reduceLE, Int.reduceAdd, Int.reduceSub, Int.reduceMul, Int.reduceNeg, Int.reduceToNat, Int.reduceEq, Int.reduceNe, Int.reduceTDiv, Int.reduceTMod, implies_true, putL, appN, appX, appC, Eng.Fi, reduceCtorEq, exists_eq_left', exists_eq_left, if_true, if_false, List.replicate, Nat.reduceAdd, Nat.reduceSub, Nat.reduceMul, Nat.reduceLeDiff, Nat.reduceLT, Nat.reduceEqDiff]
    have hz := (lenE_zero h0).1
    have hg := chkP_sG hz
    have h20 := (chkP_zero hz).1
    have hpl := pairsL_len (d := d) (m := 20) l 0 h20
    have hpl : (pairsL d 0 l).length ≤ 400 := by omega
    refine Cor.range (addC_good g120 (addC_good g117 (addC_good g119 (addC_good g118 (noC_good _))))) (noHx_good _) hm (fun _ _ _ _ => rfl) (J61 l) (fun o => o.length + o.length + 3) (st61 l) (fun j o => o.length = j) (x0 := []) rfl (sq129 l d hl hg) rfl rfl rfl (J61_inj l) (J61_free l) rfl rfl ?_ ?_ ?_ ?_
    · intro v hv
      obtain ⟨p, _, rfl⟩ := List.mem_map.1 hv
      rfl
    · intro j v a _ hj _
      simp [st61, hj]
    · intro j v o hj hoj oR oB f go
      have hjl : j < (pairsL d 0 l).length := by
        have := (List.getElem?_eq_some_iff.1 hj).1
        simpa using this
      obtain ⟨p, hp, rfl⟩ := List.mem_map.1 (List.mem_of_getElem? hj)
      have hpm := pairsL_mem hp
      have hp1 : p.1 < l.length := by omega
      have hp2 : p.2 < l.length := by omega
      have e1 : (l.map eG)[p.1]? = some (eG l[p.1]) := by simp [hp1]
      have e2 : (l.map eG)[p.2]? = some (eG l[p.2]) := by simp [hp2]
      have s1 : (sG l[p.1]) = True := by simp [hg]
      have s2 : (sG l[p.2]) = True := by simp [hg]
      have e3 : hiP l p = l[p.1].hi - l[p.2].lo := by simp [hiP, hp1, hp2]
      simp only [st61, decP_e, e3] at go ⊢
      cases o with
      | nil =>
        simp only [List.nil_append, J61, List.length_cons, List.length_nil] at go
        simp +contextual -implicitDefEqProofs (maxSteps := 2000000) only [J61, e1, e2, x117, s1, s2, mx, rs_nil, rs_t, rs_f, ag_nils, ag_sl, ag_vs, ag_str, ag_ptr, ag_nilp, ag_vp, ag_fun, sp_cons, sp_nil, goB_eq, jk_n, jk_r, jk_e, fi_nx, ruB, rh_no, Int.reduceLT, Int.reduceLE, Int.reduceAdd, Int.reduceSub, Int.reduceMul, Int.reduceNeg, Int.reduceToNat, Int.reduceEq, Int.reduceNe, Int.reduceTDiv, Int.reduceTMod, implies_true, putL, appN, appX, appC, Eng.Fi, reduceCtorEq, exists_eq_left', exists_eq_left, if_true, if_false, List.replicate, Nat.reduceAdd, Nat.reduceSub, Nat.reduceMul, Nat.reduceLeDiff, Nat.reduceLT, Nat.reduceEqDiff]
        refine go _ _ (Wkn.sub fun e he => ?_)
        simp only [List.mem_cons, List.map_cons, List.map_nil, List.not_mem_nil, or_false] at he ⊢
        rcases he with rfl | rfl | rfl | rfl <;> simp
      | cons x r =>
        have m1 : (r.length + 1 + 1 ≤ maxLen) = True := mx _ (by simp only [List.length_cons] at hoj; omega)
        have m2 : ((r.length + 1 + 1) * 8 ≤ 140737488355328) = True := by simp only [eq_iff_iff, iff_true]; simp only [List.length_cons] at hoj; omega
        simp only [List.cons_append, J61, List.length_cons, List.length_append, List.length_nil, Nat.zero_add, List.map_append, List.map_cons, List.map_nil] at go
        rw [show r.length + 1 + 1 + (r.length + 1 + 1) + 3 = r.length + 1 + (r.length + 1) + 3 + 1 + 1 by omega] at go
        simp +contextual -implicitDefEqProofs (maxSteps := 2000000) only [J61, e1, e2, x117, s1, s2, m1, m2, rs_nil, rs_t, rs_f, ag_nils, ag_sl, ag_vs, ag_str, ag_ptr, ag_nilp, ag_vp, ag_fun, List.length_map, List.map_cons, sp_cons, sp_nil, goB_eq, jk_n, jk_r, jk_e, fi_nx, ruB, rh_no, Int.reduceLT, Int.reduceLE, Int.reduceAdd, Int.reduceSub, Int.reduceMul, Int.reduceNeg, Int.reduceToNat, Int.reduceEq, Int.reduceNe, Int.reduceTDiv, Int.reduceTMod, implies_true, putL, appN, appX, appC, Eng.Fi, reduceCtorEq, exists_eq_left', exists_eq_left, if_true, if_false, List.replicate, Nat.reduceAdd, Nat.reduceSub, Nat.reduceMul, Nat.reduceLeDiff, Nat.reduceLT, Nat.reduceEqDiff]
        refine go _ _ (Wkn.sub fun e he => ?_)
        simp only [List.mem_cons, List.not_mem_nil, or_false] at he ⊢
        rcases he with rfl | rfl | rfl | rfl <;> simp
    · rw [foldS_nx (st := st61 l) (fun _ _ => rfl)]
      have ef : ∀ (L : List (Nat × Nat)) (o : List Int), (L.map eP).foldl (fun a v => (st61 l a v).1) o = o ++ L.map (hiP l) := by
        intro L
        induction L with
        | nil => intro o; simp
        | cons p L ih =>
          intro o
          rw [List.map_cons, List.foldl_cons, ih]
          simp only [st61, decP_e, List.map_cons, List.append_assoc, List.cons_append, List.nil_append]
      rw [ef, List.nil_append]
      show R P _ noHx 0 .normal _ _ _
      have hol : ((pairsL d 0 l).map (hiP l)).length ≤ 400 := by rw [List.length_map]; exact hpl
      have hov : possL l d = if (pairsL d 0 l).map (hiP l) = [] then (0, 12) else (maxL ((pairsL d 0 l).map (hiP l)), 0) := by
        simp only [possL, h0, if_true, List.map_eq_nil_iff]
      rw [hov]
      generalize (pairsL d 0 l).map (hiP l) = o at *
      cases o with
      | nil => simp +contextual -implicitDefEqProofs (maxSteps := 2000000) only [J61, sp_cons, sp_nil, goB_eq, jk_n, jk_r, jk_e, fi_nx, ruB, rh_no, Int.reduceLT, Int.reduceLE, Int.reduceAdd, Int.reduceSub, Int.reduceMul, Int.reduceNeg, Int.reduceToNat, Int.reduceEq, Int.reduceNe, Int.reduceTDiv, Int.reduceTMod, implies_true, putL, appN, appX, appC, Eng.Fi, reduceCtorEq, exists_eq_left', exists_eq_left, if_true, if_false, List.replicate, Nat.reduceAdd, Nat.reduceSub, Nat.reduceMul, Nat.reduceLeDiff, Nat.reduceLT, Nat.reduceEqDiff]
      | cons x r =>
        simp only [List.length_cons] at hol
        have z1 : (((r.length + 1 : Nat) : Int) = 0) = False := by simp only [eq_iff_iff, iff_false]; omega
        have z2 : (0 < r.length + 1 ∧ r.length + 1 ≤ 1000000) = True := by simp only [eq_iff_iff, iff_true]; omega
        have y := x120 (x :: r) z2
        have t1 : (r.length ≤ (r.map eI).length) = True := by simp
        have t2 : (r.map eI).take r.length = r.map eI := by rw [List.take_of_length_le]; simp
        rw [List.map_cons] at y
        simp +contextual -implicitDefEqProofs (maxSteps := 2000000) only [J61, z1, y, List.length_map, List.map_cons, t1, t2, Nat.le_refl, callR_int, sp_cons, sp_nil, goB_eq, jk_n, jk_r, jk_e, fi_nx, ruB, rh_no, Int.reduceLT, Int.reduceLE, Int.reduceAdd, Int.reduceSub, Int.reduceMul, Int.reduceNeg, Int.reduceToNat, Int.reduceEq, Int.reduceNe, Int.reduceTDiv, Int.reduceTMod, implies_true, putL, appN, appX, appC, Eng.Fi, reduceCtorEq, exists_eq_left', exists_eq_left, if_true, if_false, List.replicate, Nat.reduceAdd, Nat.reduceSub, Nat.reduceMul, Nat.reduceLeDiff, Nat.reduceLT, Nat.reduceEqDiff]
  · simp +contextual -implicitDefEqProofs (maxSteps := 2000000) only [bg_eq, a61, x118, x119, h', h0, possL, not_false_eq_true, ruB, rh_no, Int.reduceLT, Int.reduceLE, Int.reduceAdd, Int.reduceSub, Int.reduceMul, Int.reduceNeg, Int.reduceToNat, Int.reduceEq, Int.reduceNe, Int.reduceTDiv, Int.reduceTMod, implies_true, putL, appN, appX, appC, Eng.Fi, reduceCtorEq, exists_eq_left', exists_eq_left, if_true, if_false, List.replicate, Nat.reduceAdd, Nat.reduceSub, Nat.reduceMul, Nat.reduceLeDiff, Nat.reduceLT, Nat.reduceEqDiff]
def c61f : List AV → Option AV
  | [.vs vals, .int .i64 d] => onL dG vals fun l => if l.length ≤ 1099511627776 then some (.tup [I (possL l d).1, I (possL l d).2]) else none
  | _ => none
theorem g61 : Fn P 61 c61f := fun args v h => by
  unfold c61f at h; split at h
  · obtain ⟨l, rfl, h2⟩ := onL_inv dG_inv h
    split at h2
    · rename_i hc; cases h2; exact k61 l _ hc
    · cases h2
  · cases h
theorem x61 (l : List Gt) (d : Int) (h : (l.length ≤ 1099511627776) = True) : c61f [.vs (l.map eG), .int .i64 d] = some (.tup [I (possL l d).1, I (possL l d).2]) := by
  simp only [c61f, onL_map dG_e, h, if_true]
/-! the loss between two gates -/
def btE (l : List Gt) (i k : Int) : Int := firstE [(chkP l).2, unl ((0 ≤ i ∧ i ≤ (l.length : Int) - 1) ∧ (0 ≤ k ∧ k ≤ (l.length : Int) - 1)) 6, unl (i < k) 9]
def btL (l : List Gt) (i k : Int) : AV := if btE l i k = 0 then (match l[i.toNat]?, l[k.toNat]? with
  | some a, some b => .tup [.agg [I (a.lo - b.hi), I (a.hi - b.lo)], I 0]
  | _, _ => .any) else .tup [.agg [I 0, I 0], I (btE l i k)]
theorem k124 (l : List Gt) (i : Int) (hl : l.length ≤ 1099511627776) : FOk P 124 [I i, .vp [.vs (l.map eG)] 0 0] (B (decide (0 ≤ i ∧ i ≤ (l.length : Int) - 1))) := by
  have w : IntKind.wrap .i64 ((l.length : Int) - 1) = (l.length : Int) - 1 := wrap64 (by omega) (by omega)
  refine c124.fok (by simp only [subs, sub1, free_G]) (Cor.run (addC_good g107 (noC_good _)) (noHx_good _) hm ?_)
  simp +contextual -implicitDefEqProofs (maxSteps := 2000000) only [bg_eq, a124, x107, List.length_map, w, ruB, rh_no, Int.reduceLT, Int.reduceLE, Int.reduceAdd, Int.reduceSub, Int.reduceMul, Int.reduceNeg, Int.reduceToNat, Int.reduceEq, Int.reduceNe, Int.reduceTDiv, Int.reduceTMod, implies_true, putL, appN, appX, appC, Eng.Fi, reduceCtorEq, exists_eq_left', exists_eq_left, if_true, if_false, List.replicate, Nat.reduceAdd, Nat.reduceSub, Nat.reduceMul, Nat.reduceLeDiff, Nat.reduceLT, Nat.reduceEqDiff]
def c124f : List AV → Option AV
  | [.int .i64 i, .vp [.vs vals] 0 0] => onL dG vals fun l => if l.length ≤ 1099511627776 then some (B (decide (0 ≤ i ∧ i ≤ (l.length : Int) - 1))) else none
  | _ => none
theorem g124 : Fn P 124 c124f := fun args v h => by
  unfold c124f at h; split at h
  · obtain ⟨l, rfl, h2⟩ := onL_inv dG_inv h
    split at h2
    · rename_i hc; cases h2; exact k124 l _ hc
    · cases h2
  · cases h
theorem x124 (l : List Gt) (i : Int) (h : (l.length ≤ 1099511627776) = True) : c124f [.int .i64 i, .vp [.vs (l.map eG)] 0 0] = some (.bool (decide (0 ≤ i ∧ i ≤ (l.length : Int) - 1))) := by
  simp only [c124f, onL_map dG_e, h, if_true]
def S65 (l : List Gt) (i k : Int) : AState := ⟨[.any, I i, I k, .vp [.vs (l.map eG)] 0 0, .any, .any, .ptr 1 2 0 0, .any, .fn 124 [] [.vp [.vs (l.map eG)] 0 0], .any, .any, .any, .any, .any, .any, .any, .any, .any, .any, .any, .any, .any, .any, .any, .any, .any, .any, .any, .any, .any, .any, .any, .any, .any, .any, .any, .any, .any, .any, .any, .any], [⟨1, 1, .rows 64 2 [.agg [I 0, I 0]]⟩], 2⟩
theorem w65 (l : List Gt) (i k : Int) (K : Post) (h : Cor P (YH P noHx) 0 (match a65 with | .seq _ (.seq _ z) => z | z => z) K (S65 l i k)) (φ : AV) : Cor P (YH P noHx) 0 a65 K ⟨[.vs (l.map eG), I i, I k, .any, .any, .any, .any, .any, .any, .any, .any, .any, .any, .any, .any, .any, .any, .any, .any, .any, .any, .any, .any, .any, .any, .any, .any, .any, .any, .any, .any, .any, .any, .any, .any, .any, .any, .any, .any, .any, .any], [], 0⟩ := by
  refine Cor.seq (Cor.run (noC_good _) (noHx_good _) hm ?_)
  simp +contextual -implicitDefEqProofs (maxSteps := 2000000) only [eThen_normal, ruB, rh_no, Int.reduceLT, Int.reduceLE, Int.reduceAdd, Int.reduceSub, Int.reduceMul, Int.reduceNeg, Int.reduceToNat, Int.reduceEq, Int.reduceNe, Int.reduceTDiv, Int.reduceTMod, implies_true, putL, appN, appX, appC, Eng.Fi, reduceCtorEq, exists_eq_left', exists_eq_left, if_true, if_false, List.replicate, Nat.reduceAdd, Nat.reduceSub, Nat.reduceMul, Nat.reduceLeDiff, Nat.reduceLT, Nat.reduceEqDiff]
  refine Cor.seq (Cor.run (noC_good _) (noHx_good _) hm ?_)
  simp +contextual -implicitDefEqProofs (maxSteps := 2000000) only [eThen_normal, ruB, rh_no, Int.reduceLT, Int.reduceLE, Int.reduceAdd, Int.reduceSub, Int.reduceMul, Int.reduceNeg, Int.reduceToNat, Int.reduceEq, Int.reduceNe, Int.reduceTDiv, Int.reduceTMod, implies_true, putL, appN, appX, appC, Eng.Fi, reduceCtorEq, exists_eq_left', exists_eq_left, if_true, if_false, List.replicate, Nat.reduceAdd, Nat.reduceSub, Nat.reduceMul, Nat.reduceLeDiff, Nat.reduceLT, Nat.reduceEqDiff]
  exact Cor.wk (Wkn.to ⟨0, [(1, 1)], [0], 2, [1, 2, 3, 6, 8]⟩ rfl rfl (by simp [Wk.st, keepT, memN, Wk.fate, Wk.fate0, assoc, getE, Wk.hp, ABlk.sub, sub1, subs, free_G, S65])) h
theorem k65 (l : List Gt) (i k : Int) (hl : l.length ≤ 1099511627776) : FOk P 65 [.vs (l.map eG), I i, I k] (btL l i k) := by
  have h' : (l.length ≤ 1099511627776) = True := by simp [hl]
  by_cases h0 : firstE [(chkP l).2, unl ((0 ≤ i ∧ i ≤ (l.length : Int) - 1) ∧ (0 ≤ k ∧ k ≤ (l.length : Int) - 1)) 6, unl (i < k) 9] = 0
  · have hz := firstE_zero h0
    have hz1 := hz _ (by simp : (chkP l).2 ∈ _)
    have hz2 := unl_zero (hz (unl ((0 ≤ i ∧ i ≤ (l.length : Int) - 1) ∧ (0 ≤ k ∧ k ≤ (l.length : Int) - 1)) 6) (by simp)) (by decide)
    have hg := chkP_sG hz1
    have i1 : i.toNat < l.length := by omega
    have i2 : k.toNat < l.length := by omega
    have i3 : (0 ≤ i) = True := by simp only [eq_iff_iff, iff_true]; omega
    have i4 : (0 ≤ k) = True := by simp only [eq_iff_iff, iff_true]; omega
    have e1 : (l.map eG)[i.toNat]? = some (eG l[i.toNat]) := by simp [i1]
    have e2 : (l.map eG)[k.toNat]? = some (eG l[k.toNat]) := by simp [i2]
    have hr : btL l i k = .tup [.agg [I (l[i.toNat].lo - l[k.toNat].hi), I (l[i.toNat].hi - l[k.toNat].lo)], I 0] := by
      simp only [btL, btE, h0, if_true, List.getElem?_eq_getElem i1, List.getElem?_eq_getElem i2]
    have s1 : (sG l[i.toNat]) = True := by simp [hg]
    have s2 : (sG l[k.toNat]) = True := by simp [hg]
    have h0' := h0
    simp only [i3, i4, true_and] at h0'
    rw [hr]
    refine c65.fok (by simp only [subs, sub1, free_G]) (w65 l i k _ (Cor.run (addC_good g84 (addC_good g85 (addC_good g117 (addC_good g124 (addC_good g97 (noC_good _)))))) (noHx_good _) hm ?_) .any)
    simp +contextual -implicitDefEqProofs (maxSteps := 2000000) only [S65, bg_eq, a65, x97, x124, x117, x85, x84, r84s, Lmax, h', h0', e1, e2, s1, s2, i3, i4, ruB, rh_no, Int.reduceLT, Int.reduceLE, Int.reduceAdd, Int.reduceSub, Int.reduceMul, Int.reduceNeg, Int.reduceToNat, Int.reduceEq, Int.reduceNe, Int.reduceTDiv, Int.reduceTMod, implies_true, putL, appN, appX, appC, Eng.Fi, reduceCtorEq, exists_eq_left', exists_eq_left, if_true, if_false, List.replicate, Nat.reduceAdd, Nat.reduceSub, Nat.reduceMul, Nat.reduceLeDiff, Nat.reduceLT, Nat.reduceEqDiff]
  · have hr : btL l i k = .tup [.agg [I 0, I 0], I (btE l i k)] := by simp only [btL, btE, h0, if_false]
    rw [hr]
    refine c65.fok (by simp only [subs, sub1, free_G]) (w65 l i k _ (Cor.run (addC_good g84 (addC_good g85 (addC_good g117 (addC_good g124 (addC_good g97 (noC_good _)))))) (noHx_good _) hm ?_) .any)
    simp +contextual -implicitDefEqProofs (maxSteps := 2000000) only [S65, bg_eq, a65, x97, x124, x85, x84, r84s, Lmax, h', h0, btE, not_false_eq_true, ruB, rh_no, Int.reduceLT, Int.reduceLE, Int.reduceAdd, Int.reduceSub, Int.reduceMul, Int.reduceNeg, Int.reduceToNat, Int.reduceEq, Int.reduceNe, Int.reduceTDiv, Int.reduceTMod, implies_true, putL, appN, appX, appC, Eng.Fi, reduceCtorEq, exists_eq_left', exists_eq_left, if_true, if_false, List.replicate, Nat.reduceAdd, Nat.reduceSub, Nat.reduceMul, Nat.reduceLeDiff, Nat.reduceLT, Nat.reduceEqDiff]
def c65f : List AV → Option AV
  | [.vs vals, .int .i64 i, .int .i64 k] => onL dG vals fun l => if l.length ≤ 1099511627776 then some (btL l i k) else none
  | _ => none
theorem g65 : Fn P 65 c65f := fun args v h => by
  unfold c65f at h; split at h
  · obtain ⟨l, rfl, h2⟩ := onL_inv dG_inv h
    split at h2
    · rename_i hc; cases h2; exact k65 l _ _ hc
    · cases h2
  · cases h
theorem x65 (l : List Gt) (i k : Int) (h : (l.length ≤ 1099511627776) = True) : c65f [.vs (l.map eG), .int .i64 i, .int .i64 k] = some (btL l i k) := by
  simp only [c65f, onL_map dG_e, h, if_true]
end Sh
