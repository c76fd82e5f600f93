import Derived.Test.YtabkbhpeeefmgabEngS9
import Derived.Test.YtabkbhpeeefmgabW912
open Go Go.Proofs Eng
set_option maxRecDepth 100000
set_option linter.unusedSimpArgs false
set_option linter.unusedVariables false
def a28 : AC := .seq (.ops false [] [⟨some 4, .p (.mov), [.c (.int .i64 0)], none⟩]) (.seq (.ops false [] [⟨some 5, .p (.mov), [.c (.int .i64 0)], none⟩]) (.seq (.seq (.ops false [] [⟨some 6, .p (.mov), [.c (.int .i64 0)], none⟩]) (.block 0 (.loop (.seq (.seq (.ops false [] [⟨some 7, .p (.mov), [.t 6], none⟩, ⟨some 8, .p (.mov), [.t 1], none⟩, ⟨some 9, .p (.lenS), [.t 8], none⟩, ⟨some 10, .p (.binI .lss), [.t 7, .t 9], none⟩]) (.cond (.t 10) (.skip) (.exit 0))) (.seq (.block 1 (.ops true [] [⟨some 13, .p (.mov), [.t 5], none⟩, ⟨some 14, .p (.mov), [.t 0], none⟩, ⟨some 15, .p (.mov), [.t 6], none⟩, ⟨some 16, .p (.iaddrS 1), [.t 14, .t 15], none⟩, ⟨some 17, .load 1 false, [.t 16], none⟩, ⟨some 18, .p (.mov), [.t 1], none⟩, ⟨some 19, .p (.mov), [.t 6], none⟩, ⟨some 20, .p (.iaddrS 1), [.t 18, .t 19], none⟩, ⟨some 21, .load 1 false, [.t 20], none⟩, ⟨some 22, .p (.iaddrS 1), [.t 17, .t 21], none⟩, ⟨some 23, .load 1 false, [.t 22], none⟩, ⟨some 24, .p (.binI .add), [.t 13, .t 23], none⟩, ⟨some 5, .p (.mov), [.t 24], none⟩])) (.ops false [] [⟨some 11, .p (.mov), [.t 6], none⟩, ⟨some 12, .p (.binI .add), [.t 11, .c (.int .i64 1)], none⟩, ⟨some 6, .p (.mov), [.t 12], none⟩])))))) (.seq (.ops false [] [⟨some 25, .p (.mov), [.t 5], none⟩, ⟨some 4, .p (.mov), [.t 25], none⟩]) (.ret))))
theorem c28 : FnC Try.prog 28 26 a28 [.tmp 4] := ⟨Try.call28, _, _, Try.func28, rfl, by kernel_rfl, by kernel_rfl, rfl⟩
namespace Wa
def S_rk (m : List L) (p : L) (a : Int) (i : Nat) : AState := ⟨[.vs (m.map eL), .vs (p.map eI), .any, .any, .any, I a, I i, .any, .any, .any, .any, .any, .any, .any, .any, .any, .any, .any, .any, .any, .any, .any, .any, .any, .any, .any], [], 0⟩
theorem k_rCost (m : List L) (p : L) (h : (cmV m).2 = 0 ∧ p.length = m.length ∧ ∀ k ∈ p, 0 ≤ k ∧ k < (m.length : Int)) : FOk P 28 [.vs (m.map eL), .vs (p.map eI)] (I (cst m p)) := by
  obtain ⟨h0, hl, hp⟩ := h
  have hma := cmV_z h0
  have hn := hma.n
  refine c28.fok (by simp only [subs, sub1, free_L, free_I]) (Cor.run (noC_good _) (noHx_good _) hm ?_)
  simp +contextual -implicitDefEqProofs (maxSteps := 2000000) only [bg_eq, a28, Int.natCast_zero, ruB, rh_no, Int.reduceLT, Int.reduceLE, Int.reduceAdd, Int.reduceSub, Int.reduceMul, Int.reduceNeg, Int.reduceToNat, Int.reduceEq, Int.reduceNe, Int.reduceTDiv, Int.reduceTMod, implies_true, putL, appN, appX, appC, Eng.Fi, reduceCtorEq, exists_eq_left', exists_eq_left, if_true, if_false, List.replicate, Nat.reduceAdd, Nat.reduceSub, Nat.reduceMul, Nat.reduceLeDiff, Nat.reduceLT, Nat.reduceEqDiff]
  refine Cor.lp (noC_good _) (noHx_good _) hm (fun i : Nat => S_rk m p (cst m (p.take i)) i) (fun i => i ≤ p.length) (fun i => p.length - i) (a := 0) (Nat.zero_le _) (Wkn.keep [0, 1, 5, 6] rfl) ?_
  intro f i hi go
  try simp only at hi go ⊢
  rcases Nat.lt_or_ge i p.length with hlt | hge
  · have e1 : ((i : Int) < (p.length : Int)) = True := eq_true (by omega)
    have e2 : (p.map eI)[i]? = some (eI p[i]) := get_e eI p hlt
    have e3 : IntKind.wrap .i64 ((i : Int) + 1) = ((i + 1 : Nat) : Int) := suc_w (by omega)
    have e4 : (m.map eL)[i]? = some (eL m[i]) := get_e eL m (by omega)
    have hk := hp p[i] (by simp)
    have hr := (hma.r m[i] (by simp)).1
    obtain ⟨k, hke⟩ : ∃ k : Nat, p[i] = (k : Int) := ⟨p[i].toNat, by omega⟩
    have hkr : k < m[i].length := by omega
    have e5 : (m[i].map eI)[k]? = some (eI m[i][k]) := get_e eI m[i] hkr
    have hcell : cell m i (k : Int) = m[i][k] := cell_get (by omega) hkr
    have hsn := cst_snoc m (p.take i) p[i]
    rw [← List.take_succ_eq_append_getElem hlt, show (p.take i).length = i by simp; omega, hke, hcell] at hsn
    have hb1 := cst_bd hma (p.take i)
    have hb2 := cst_bd hma (p.take (i + 1))
    have l1 : (p.take i).length ≤ 6 := by simp; omega
    have l2 : (p.take (i + 1)).length ≤ 6 := by simp; omega
    have w1 : IntKind.wrap .i64 (cst m (p.take i) + m[i][k]) = cst m (p.take (i + 1)) := by rw [← hsn]; exact wrap64 (by omega) (by omega)
    have go' := go
    have q5 : (k < m[i].length) = True := eq_true hkr
    rw [hke] at e2
    have hst : S_rk m p (cst m (p.take (i + 1))) (i + 1) = ⟨[.vs (m.map eL), .vs (p.map eI), .any, .any, .any, I (cst m (p.take (i + 1))), I ((i + 1 : Nat) : Int), .any, .any, .any, .any, .any, .any, .any, .any, .any, .any, .any, .any, .any, .any, .any, .any, .any, .any, .any], [], 0⟩ := rfl
    have hst0 : S_rk m p (cst m (p.take i)) i = ⟨[.vs (m.map eL), .vs (p.map eI), .any, .any, .any, I (cst m (p.take i)), I (i : Int), .any, .any, .any, .any, .any, .any, .any, .any, .any, .any, .any, .any, .any, .any, .any, .any, .any, .any, .any], [], 0⟩ := rfl
    rw [hst0]
    have key := fun s' hw => go s' (i + 1) hlt (by omega) hw
    rw [hst] at key
    generalize cst m (p.take (i + 1)) = c2 at *
    generalize cst m (p.take i) = c1 at *
    obtain ⟨row, hrow⟩ : ∃ row, m[i] = row := ⟨_, rfl⟩
    simp only [hrow] at e4 e5 w1
    generalize row[k]'(by rw [← hrow]; exact hkr) = x at *
    simp +contextual -implicitDefEqProofs (maxSteps := 2000000) only [e1, e2, e3, e4, e5, w1, List.length_map, ruB, rh_no, Int.reduceLT, Int.reduceLE, Int.reduceAdd, Int.reduceSub, Int.reduceMul, Int.reduceNeg, Int.reduceToNat, Int.reduceEq, Int.reduceNe, Int.reduceTDiv, Int.reduceTMod, implies_true, putL, appN, appX, appC, Eng.Fi, reduceCtorEq, exists_eq_left', exists_eq_left, if_true, if_false, List.replicate, Nat.reduceAdd, Nat.reduceSub, Nat.reduceMul, Nat.reduceLeDiff, Nat.reduceLT, Nat.reduceEqDiff]
    exact key _ (Wkn.keep [0, 1, 5, 6] rfl)
  · have e1 : ((i : Int) < (p.length : Int)) = False := eq_false (by omega)
    rw [List.take_of_length_le hge]
    simp +contextual -implicitDefEqProofs (maxSteps := 2000000) only [S_rk, e1, List.length_map, ruB, rh_no, Int.reduceLT, Int.reduceLE, Int.reduceAdd, Int.reduceSub, Int.reduceMul, Int.reduceNeg, Int.reduceToNat, Int.reduceEq, Int.reduceNe, Int.reduceTDiv, Int.reduceTMod, implies_true, putL, appN, appX, appC, Eng.Fi, reduceCtorEq, exists_eq_left', exists_eq_left, if_true, if_false, List.replicate, Nat.reduceAdd, Nat.reduceSub, Nat.reduceMul, Nat.reduceLeDiff, Nat.reduceLT, Nat.reduceEqDiff]
def cf_rCost : List AV → Option AV
  | [.vs m_v, .vs p_v] => onL dL m_v fun m => onL dI p_v fun p => if (cmV m).2 = 0 ∧ p.length = m.length ∧ ∀ k ∈ p, 0 ≤ k ∧ k < (m.length : Int) then some (I (cst m p)) else none
  | _ => none
theorem g_rCost : Fn P 28 cf_rCost := fun args v hh => by
  unfold cf_rCost at hh; split at hh
  · obtain ⟨m, rfl, hh1⟩ := onL_inv dL_inv hh
    obtain ⟨p, rfl, hh2⟩ := onL_inv dI_inv hh1
    split at hh2
    · rename_i hc; have hk := Option.some.inj hh2; subst hk; exact k_rCost _ _ hc
    · cases hh2
  · cases hh
theorem x_rCost (m : List L) (p : List Int) (hc : ((cmV m).2 = 0 ∧ p.length = m.length ∧ ∀ k ∈ p, 0 ≤ k ∧ k < (m.length : Int)) = True) : cf_rCost [.vs (m.map eL), .vs (p.map eI)] = some (I (cst m p)) := by
  simp only [cf_rCost, onL_map dI_e, onL_map dL_e]
  exact if_pos (by rw [hc]; trivial)
end Wa
open Go Go.Proofs Eng
set_option maxRecDepth 100000
set_option linter.unusedSimpArgs false
set_option linter.unusedVariables false
namespace Wa
theorem tk_L0 (l : List L) : (l.map eL).take l.length = l.map eL := by rw [List.take_of_length_le]; simp
end Wa
open Go Go.Proofs Eng
set_option maxRecDepth 100000
set_option linter.unusedSimpArgs false
set_option linter.unusedVariables false
namespace Wa
def gk (k : Nat) (p : L) : Int := (p[k]?).getD 0
theorem gk_get {k : Nat} {p : L} (h : k < p.length) : (p.map eI)[k]? = some (eI (gk k p)) := by
  unfold gk
  rw [List.getElem?_map, List.getElem?_eq_getElem h]; rfl
end Wa
