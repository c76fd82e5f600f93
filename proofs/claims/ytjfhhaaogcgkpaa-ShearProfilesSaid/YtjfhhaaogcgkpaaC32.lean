import Derived.Test.YtjfhhaaogcgkpaaEngS9
import Derived.Test.YtjfhhaaogcgkpaaC31
import Derived.Test.YtjfhhaaogcgkpaaC26
open Go Go.Proofs Eng
set_option maxRecDepth 100000
set_option linter.unusedSimpArgs false
set_option linter.unusedVariables false
def a59 : AC := .seq (.ops false [] [⟨some 2, .p (.mov), [.c (.int .i64 0)], none⟩]) (.seq (.seq (.ops false [] [⟨some 3, .p (.mov), [.t 0], none⟩, ⟨some 4, .call 33, [.t 3, .c (.int .i64 1), .c (.int .i64 20000)], none⟩, ⟨some 5, .p (.notB), [.t 4], none⟩]) (.cond (.t 5) (.seq (.ops false [] [⟨some 2, .p (.mov), [.c (.int .i64 2)], none⟩]) (.ret)) (.skip))) (.seq (.ops false [] [⟨some 2, .p (.mov), [.c (.int .i64 0)], none⟩]) (.ret)))
theorem c59 : FnC Try.prog 59 6 a59 [.tmp 2] := ⟨Try.call59, _, _, Try.func59, rfl, by kernel_rfl, by kernel_rfl, rfl⟩
def a67 : AC := .seq (.ops false [] [⟨some 6, .alloc 64 2 [.agg [.int .i64 0, .int .i64 0]], [], none⟩]) (.seq (.ops true [(4, 10), (9, 10), (4, 11), (9, 11), (10, 11), (9, 12)] [⟨some 9, .p (.mov), [.t 0], none⟩, ⟨some 10, .p (.mov), [.t 1], none⟩, ⟨some 11, .p (.iaddrS 3), [.t 9, .t 10], none⟩, ⟨some 12, .p (.faddr 1), [.t 11], none⟩, ⟨some 13, .load 2 true, [.t 12], none⟩, ⟨some 14, .p (.mov), [.t 0], none⟩, ⟨some 15, .p (.mov), [.t 2], none⟩, ⟨some 16, .p (.iaddrS 3), [.t 14, .t 15], none⟩, ⟨some 17, .p (.faddr 1), [.t 16], none⟩, ⟨some 18, .load 2 true, [.t 17], none⟩, ⟨some 7, .alloc 64 2 [.agg [.int .i64 0, .int .i64 0]], [], none⟩, ⟨some 8, .alloc 64 2 [.agg [.int .i64 0, .int .i64 0]], [], none⟩, ⟨none, .store 2 true, [.t 7, .t 13], none⟩, ⟨none, .store 2 true, [.t 8, .t 18], none⟩]) (.seq (.ops false [] [⟨some 19, .p (.faddr 0), [.t 7], none⟩, ⟨some 20, .load 1 false, [.t 19], none⟩, ⟨some 21, .p (.faddr 1), [.t 8], none⟩, ⟨some 22, .load 1 false, [.t 21], none⟩, ⟨some 23, .p (.binI .sub), [.t 20, .t 22], none⟩, ⟨some 24, .p (.faddr 1), [.t 7], none⟩, ⟨some 25, .load 1 false, [.t 24], none⟩, ⟨some 26, .p (.faddr 0), [.t 8], none⟩, ⟨some 27, .load 1 false, [.t 26], none⟩, ⟨some 28, .p (.binI .sub), [.t 25, .t 27], none⟩, ⟨some 29, .p (.build [.int .i64 0, .int .i64 0] [(0, 1), (1, 1)]), [.t 23, .t 28], none⟩, ⟨none, .store 2 true, [.t 6, .t 29], none⟩]) (.ret)))
theorem c67 : FnC Try.prog 67 30 a67 [.cell 6 2 true] := ⟨Try.call67, _, _, Try.func67, rfl, by kernel_rfl, by kernel_rfl, rfl⟩
def a125 : AC := .seq (.ops false [] [⟨some 1, .box 64 2 1 true, [.t 0], none⟩, ⟨some 2, .alloc 64 2 [.agg [.int .i64 0, .int .i64 0]], [], none⟩]) (.seq (.ops false [] [⟨some 3, .p (.faddr 1), [.t 1], none⟩, ⟨some 4, .load 1 false, [.t 3], none⟩, ⟨some 5, .p (.neg), [.t 4], none⟩, ⟨some 6, .p (.faddr 0), [.t 1], none⟩, ⟨some 7, .load 1 false, [.t 6], none⟩, ⟨some 8, .p (.neg), [.t 7], none⟩, ⟨some 9, .p (.build [.int .i64 0, .int .i64 0] [(0, 1), (1, 1)]), [.t 5, .t 8], none⟩, ⟨none, .store 2 true, [.t 2, .t 9], none⟩]) (.ret))
theorem c125 : FnC Try.prog 125 10 a125 [.cell 2 2 true] := ⟨Try.call125, _, _, Try.func125, rfl, by kernel_rfl, by kernel_rfl, rfl⟩
namespace Sh

/-! the reference's losses -/
theorem k59 (n : Int) : FOk P 59 [I n] (I (unl (1 ≤ n ∧ n ≤ 20000) 2)) := by
  by_cases h : 1 ≤ n ∧ n ≤ 20000
  · rw [unl_t _ h]
    refine c59.fok rfl (Cor.run (addC_good g33 (noC_good _)) (noHx_good _) hm ?_)
    simp +contextual -implicitDefEqProofs (maxSteps := 2000000) only [bg_eq, a59, x33, h, ruB, rh_no, Int.reduceLT, Int.reduceLE, Int.reduceAdd, Int.reduceSub, Int.reduceMul, Int.reduceNeg, Int.reduceToNat, Int.reduceEq, Int.reduceNe, Int.reduceTDiv, Int.reduceTMod, implies_true, putL, appN, appX, appC, Eng.Fi, reduceCtorEq, exists_eq_left', exists_eq_left, if_true, if_false, List.replicate, Nat.reduceAdd, Nat.reduceSub, Nat.reduceMul, Nat.reduceLeDiff, Nat.reduceLT, Nat.reduceEqDiff]
  · rw [unl_f _ h]
    have h' : (1 ≤ n ∧ n ≤ 20000) = False := by simp only [eq_iff_iff, iff_false]; exact h
    refine c59.fok rfl (Cor.run (addC_good g33 (noC_good _)) (noHx_good _) hm ?_)
    simp +contextual -implicitDefEqProofs (maxSteps := 2000000) only [bg_eq, a59, x33, h', ruB, rh_no, Int.reduceLT, Int.reduceLE, Int.reduceAdd, Int.reduceSub, Int.reduceMul, Int.reduceNeg, Int.reduceToNat, Int.reduceEq, Int.reduceNe, Int.reduceTDiv, Int.reduceTMod, implies_true, putL, appN, appX, appC, Eng.Fi, reduceCtorEq, exists_eq_left', exists_eq_left, if_true, if_false, List.replicate, Nat.reduceAdd, Nat.reduceSub, Nat.reduceMul, Nat.reduceLeDiff, Nat.reduceLT, Nat.reduceEqDiff]
def c59f : List AV → Option AV
  | [.int .i64 n] => some (.int .i64 (unl (1 ≤ n ∧ n ≤ 20000) 2))
  | _ => none
theorem g59 : Fn P 59 c59f := fun args v h => by
  unfold c59f at h; split at h
  · cases h; exact k59 _
  · cases h
theorem x59 (n : Int) : c59f [.int .i64 n] = some (.int .i64 (unl (1 ≤ n ∧ n ≤ 20000) 2)) := rfl
theorem k67 (l : List Gt) (i k : Nat) (hi : i < l.length) (hk : k < l.length) (hl : l.length ≤ 1000) (hs : ∀ g ∈ l, sG g) : FOk P 67 [.vs (l.map eG), I i, I k] (.agg [I (lossG l[i] l[k]).1, I (lossG l[i] l[k]).2]) := by
  have e1 : (l.map eG)[i]? = some (eG l[i]) := by simp [hi]
  have e2 : (l.map eG)[k]? = some (eG l[k]) := by simp [hk]
  have s1 := hs l[i] (by simp)
  have s2 := hs l[k] (by simp)
  unfold sG at s1 s2
  have w1 : IntKind.wrap .i64 (l[i].lo - l[k].hi) = l[i].lo - l[k].hi := wrap64 (by omega) (by omega)
  have w2 : IntKind.wrap .i64 (l[i].hi - l[k].lo) = l[i].hi - l[k].lo := wrap64 (by omega) (by omega)
  refine c67.fok (by simp only [subs, sub1, free_G]) (Cor.run (noC_good _) (noHx_good _) hm ?_)
  simp +contextual -implicitDefEqProofs (maxSteps := 2000000) only [bg_eq, a67, e1, e2, w1, w2, lossG, ruB, rh_no, Int.reduceLT, Int.reduceLE, Int.reduceAdd, Int.reduceSub, Int.reduceMul, Int.reduceNeg, Int.reduceToNat, Int.reduceEq, Int.reduceNe, Int.reduceTDiv, Int.reduceTMod, implies_true, putL, appN, appX, appC, Eng.Fi, reduceCtorEq, exists_eq_left', exists_eq_left, if_true, if_false, List.replicate, Nat.reduceAdd, Nat.reduceSub, Nat.reduceMul, Nat.reduceLeDiff, Nat.reduceLT, Nat.reduceEqDiff]
def okS (l : List Gt) : Prop := l.length ≤ 1000 ∧ ∀ g ∈ l, sG g
instance (l : List Gt) : Decidable (okS l) := by unfold okS; infer_instance
def c67f : List AV → Option AV
  | [.vs vals, .int .i64 i, .int .i64 k] => onL dG vals fun l => if 0 ≤ i ∧ 0 ≤ k ∧ okS l then (match l[i.toNat]?, l[k.toNat]? with
    | some a, some b => some (.agg [I (lossG a b).1, I (lossG a b).2])
    | _, _ => none) else none
  | _ => none
theorem g67 : Fn P 67 c67f := fun args v h => by
  unfold c67f at h; split at h
  · obtain ⟨l, rfl, h2⟩ := onL_inv dG_inv h
    split at h2
    · rename_i i k hc
      split at h2
      · rename_i a b ha hb
        cases h2
        obtain ⟨h3, rfl⟩ := List.getElem?_eq_some_iff.1 ha
        obtain ⟨h4, rfl⟩ := List.getElem?_eq_some_iff.1 hb
        have := k67 l i.toNat k.toNat h3 h4 hc.2.2.1 hc.2.2.2
        rwa [Int.toNat_of_nonneg hc.1, Int.toNat_of_nonneg hc.2.1] at this
      · cases h2
    · cases h2
  · cases h
theorem x67 (l : List Gt) (i k : Nat) (hi : i < l.length) (hk : k < l.length) (h : okS l) : c67f [.vs (l.map eG), .int .i64 (i : Int), .int .i64 (k : Int)] = some (.agg [I (lossG l[i] l[k]).1, I (lossG l[i] l[k]).2]) := by
  simp only [c67f, onL_map dG_e, h, Int.natCast_nonneg, and_self, if_true, Int.toNat_natCast, List.getElem?_eq_getElem hi, List.getElem?_eq_getElem hk]
def smB (n : Int) : Prop := -1000000000000 ≤ n ∧ n ≤ 1000000000000
instance (n : Int) : Decidable (smB n) := by unfold smB; infer_instance
theorem k125 (a b : Int) (ha : smB a) (hb : smB b) : FOk P 125 [.agg [I a, I b]] (.agg [I (-b), I (-a)]) := by
  unfold smB at ha hb
  have e0 : IntKind.wrap .i64 (0 - a) = -a := by rw [wrap64 (by omega) (by omega)]; omega
  have e1 : IntKind.wrap .i64 (0 - b) = -b := by rw [wrap64 (by omega) (by omega)]; omega
  refine c125.fok rfl (Cor.run (noC_good _) (noHx_good _) hm ?_)
  simp +contextual -implicitDefEqProofs (maxSteps := 2000000) only [bg_eq, a125, e0, e1, ruB, rh_no, Int.reduceLT, Int.reduceLE, Int.reduceAdd, Int.reduceSub, Int.reduceMul, Int.reduceNeg, Int.reduceToNat, Int.reduceEq, Int.reduceNe, Int.reduceTDiv, Int.reduceTMod, implies_true, putL, appN, appX, appC, Eng.Fi, reduceCtorEq, exists_eq_left', exists_eq_left, if_true, if_false, List.replicate, Nat.reduceAdd, Nat.reduceSub, Nat.reduceMul, Nat.reduceLeDiff, Nat.reduceLT, Nat.reduceEqDiff]
def c125f : List AV → Option AV
  | [.agg [.int .i64 a, .int .i64 b]] => if smB a ∧ smB b then some (.agg [I (-b), I (-a)]) else none
  | _ => none
theorem g125 : Fn P 125 c125f := fun args v h => by
  unfold c125f at h; split at h
  · split at h
    · rename_i hc; cases h; exact k125 _ _ hc.1 hc.2
    · cases h
  · cases h
theorem x125 (a b : Int) (h : (smB a ∧ smB b) = True) : c125f [.agg [.int .i64 a, .int .i64 b]] = some (.agg [I (-b), I (-a)]) := by simp only [c125f, h, if_true]
/-! all pairs within a length -/
def filK (d : Int) (gi : Gt) (i : Nat) : Nat → List Gt → List (Nat × Nat)
  | _, [] => []
  | k, g :: r => if g.at' - gi.at' ≤ d then (i, k) :: filK d gi i (k + 1) r else filK d gi i (k + 1) r
def pairsF (d : Int) : Nat → List Gt → List (Nat × Nat)
  | _, [] => []
  | i, g :: r => filK d g i (i + 1) r ++ pairsF d (i + 1) r
theorem filK_nil {d : Int} {gi : Gt} {i : Nat} : ∀ {r : List Gt} {k : Nat}, (∀ g ∈ r, ¬ g.at' - gi.at' ≤ d) → filK d gi i k r = []
  | [], k, _ => rfl
  | g :: r, k, h => by
    rw [filK, if_neg (h g (by simp))]
    exact filK_nil fun x hx => h x (by simp [hx])
theorem filK_take {d : Int} {gi : Gt} {i : Nat} : ∀ {r : List Gt} {k : Nat} {last : Int}, As last r → filK d gi i k r = takeK d gi i k r
  | [], _, _, _ => rfl
  | g :: r, k, last, h => by
    rw [filK, takeK]
    split
    · rw [filK_take h.2]
    · refine filK_nil fun x hx => ?_
      have := As_lt h.2 x hx; omega
theorem pairsF_eq {d : Int} : ∀ {r : List Gt} {i : Nat} {last : Int}, As last r → pairsF d i r = pairsL d i r
  | [], _, _, _ => rfl
  | g :: r, i, last, h => by
    rw [pairsF, pairsL, filK_take h.2, pairsF_eq h.2]
end Sh
