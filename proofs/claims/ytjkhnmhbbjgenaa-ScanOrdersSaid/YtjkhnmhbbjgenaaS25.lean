import Derived.Test.YtjkhnmhbbjgenaaEngS9
import Derived.Test.YtjkhnmhbbjgenaaS24
open Go Go.Proofs Eng
set_option maxRecDepth 100000
set_option linter.unusedSimpArgs false
set_option linter.unusedVariables false
def a71 : AC := .seq (.ops false [] [⟨some 3, .box 42 7 1 true, [.t 0], none⟩, ⟨some 4, .box 37 2 1 true, [.t 1], none⟩, ⟨some 5, .box 37 2 1 true, [.t 2], none⟩, ⟨some 6, .p (.mov), [.c (.bool false)], none⟩]) (.seq (.ops false [] [⟨some 10, .load 7 true, [.t 3], none⟩, ⟨some 11, .load 2 true, [.t 4], none⟩, ⟨some 12, .load 2 true, [.t 5], none⟩, ⟨some 13, .call 85, [.t 10, .t 11, .t 12], none⟩, ⟨some 9, .p (.mov), [.t 13], none⟩, ⟨some 14, .p (.ext 0), [.t 9], none⟩, ⟨some 15, .p (.ext 1), [.t 9], none⟩, ⟨some 7, .alloc 37 2 [.agg [.int .i64 0, .int .i64 0]], [], none⟩, ⟨none, .store 2 true, [.t 7, .t 14], none⟩, ⟨some 8, .p (.mov), [.t 15], none⟩]) (.seq (.ops false [] [⟨some 16, .p (.mov), [.t 8], none⟩, ⟨some 17, .p (.notB), [.t 16], none⟩, ⟨some 6, .p (.mov), [.t 17], none⟩]) (.ret)))
theorem c71 : FnC Try.prog 71 18 a71 [.tmp 6] := ⟨Try.call71, _, _, Try.func71, rfl, by kernel_rfl, by kernel_rfl, rfl⟩
def a85 : AC := .seq (.ops false [] [⟨some 3, .box 42 7 1 true, [.t 0], none⟩, ⟨some 4, .box 37 2 1 true, [.t 1], none⟩, ⟨some 5, .box 37 2 1 true, [.t 2], none⟩, ⟨some 6, .alloc 37 2 [.agg [.int .i64 0, .int .i64 0]], [], none⟩, ⟨some 7, .p (.mov), [.c (.bool false)], none⟩]) (.seq (.ops false [] [⟨some 10, .load 2 true, [.t 4], none⟩, ⟨some 11, .load 2 true, [.t 5], none⟩, ⟨some 12, .call 69, [.t 10, .t 11], none⟩, ⟨some 8, .p (.mov), [.t 12], none⟩]) (.seq (.seq (.ops false [] [⟨some 9, .p (.mov), [.c (.int .i64 0)], none⟩]) (.block 0 (.loop (.seq (.seq (.ops false [] [⟨some 13, .p (.mov), [.t 9], none⟩, ⟨some 14, .p (.mov), [.t 8], none⟩, ⟨some 15, .p (.lenS), [.t 14], none⟩, ⟨some 16, .p (.binI .lss), [.t 13, .t 15], none⟩]) (.cond (.t 16) (.skip) (.exit 0))) (.seq (.block 1 (.seq (.ops true [] [⟨some 19, .load 7 true, [.t 3], none⟩, ⟨some 20, .p (.mov), [.t 8], none⟩, ⟨some 21, .p (.mov), [.t 9], none⟩, ⟨some 22, .p (.iaddrS 2), [.t 20, .t 21], none⟩, ⟨some 23, .load 2 true, [.t 22], none⟩, ⟨some 24, .call 45, [.t 19, .t 23], none⟩]) (.cond (.t 24) (.seq (.ops false [] [⟨some 25, .p (.mov), [.t 8], none⟩, ⟨some 26, .p (.mov), [.t 9], none⟩, ⟨some 27, .p (.iaddrS 2), [.t 25, .t 26], none⟩, ⟨some 28, .load 2 true, [.t 27], none⟩, ⟨none, .store 2 true, [.t 6, .t 28], none⟩, ⟨some 7, .p (.mov), [.c (.bool true)], none⟩]) (.ret)) (.skip)))) (.ops false [] [⟨some 17, .p (.mov), [.t 9], none⟩, ⟨some 18, .p (.binI .add), [.t 17, .c (.int .i64 1)], none⟩, ⟨some 9, .p (.mov), [.t 18], none⟩])))))) (.seq (.ops false [] [⟨some 29, .p (.build [.int .i64 0, .int .i64 0] []), [], none⟩, ⟨none, .store 2 true, [.t 6, .t 29], none⟩, ⟨some 7, .p (.mov), [.c (.bool false)], none⟩]) (.ret))))
theorem c85 : FnC Try.prog 85 30 a85 [.cell 6 2 true, .tmp 7] := ⟨Try.call85, _, _, Try.func85, rfl, by kernel_rfl, by kernel_rfl, rfl⟩
namespace Sc
def S85 (h : Hd) (l : List Dr) (n : Nat) : AState := ⟨[.any, .any, .any, .ptr 0 7 0 0, .any, .any, .ptr 1 2 0 0, .any, .vs (l.map eDr), I n, .any, .any, .any, .any, .any, .any, .any, .any, .any, .any, .any, .any, .any, .any, .any, .any, .any, .any, .any, .any], [⟨1, 1, .rows 37 2 [.agg [I 0, I 0]]⟩, ⟨0, 0, .rows 42 7 [eHd h]⟩], 2⟩
theorem k_rlit (h : Hd) (a b : Dr) (hk : liB h a b) : FOk P 85 [eHd h, eDr a, eDr b] (litV (litL h a b)) := by
  obtain ⟨hr, ha, hb⟩ := hk
  have hwl := wayL_len ha hb
  have hwd := wayL_dr ha hb
  have y := x_rWay a b (by simp only [ha, hb, and_self])
  unfold litL
  generalize wayL a b = l at *
  refine c85.fok (by simp only [free_Hs, free_Hd, subs, sub1, free_Se]) (Cor.run (addC_good g_rIsReserved (addC_good g_rWay (noC_good _))) (noHx_good _) hm ?_)
  simp +contextual -implicitDefEqProofs (maxSteps := 2000000) only [bg_eq, a85, y, ruB, rh_no, Int.reduceLT, Int.reduceLE, Int.reduceAdd, Int.reduceSub, Int.reduceMul, Int.reduceNeg, Int.reduceToNat, Int.reduceEq, Int.reduceNe, Int.reduceTDiv, Int.reduceTMod, implies_true, putL, appN, appX, appC, Eng.Fi, reduceCtorEq, exists_eq_left', exists_eq_left, if_true, if_false, List.replicate, Nat.reduceAdd, Nat.reduceSub, Nat.reduceMul, Nat.reduceLeDiff, Nat.reduceLT, Nat.reduceEqDiff]
  refine Cor.lp (addC_good g_rIsReserved (addC_good g_rWay (noC_good _))) (noHx_good _) hm (S85 h l) (fun n => n ≤ l.length ∧ l.find? (resv h.res) = (l.drop n).find? (resv h.res)) (fun n => l.length - n) (a := 0) ⟨Nat.zero_le _, rfl⟩ (Wkn.to ⟨0, [(0, 0), (3, 1)], [], 2, [3, 6, 8, 9]⟩ rfl rfl (by simp [Wk.st, keepT, memN, Wk.fate, Wk.fate0, assoc, getE, Wk.hp, ABlk.sub, sub1, subs, S85, free_Se, free_Dr])) ?_
  intro f n ⟨hn, hf⟩ go
  rcases Nat.lt_or_ge n l.length with hlt | hlt
  · have e1 : decide ((n : Int) < (l.length : Int)) = true := lt_t hlt
    have e2 : (l.map eDr)[n]? = some (eDr l[n]) := get_e eDr l hlt
    have e3 : IntKind.wrap .i64 ((n : Int) + 1) = ((n + 1 : Nat) : Int) := suc_w (by omega)
    have hd := hwd l[n] (by simp)
    rw [List.drop_eq_getElem_cons hlt, List.find?_cons] at hf
    generalize l[n] = d at *
    have yr := x_rIsReserved h d (by simp only [eq_iff_iff, iff_true]; exact ⟨hr, hd⟩)
    cases hv : resv h.res d with
    | true =>
      rw [hv] at yr hf
      simp only at hf
      rw [hf]
      simp +contextual -implicitDefEqProofs (maxSteps := 2000000) only [S85, e1, e2, e3, yr, List.length_map, litV, ruB, rh_no, Int.reduceLT, Int.reduceLE, Int.reduceAdd, Int.reduceSub, Int.reduceMul, Int.reduceNeg, Int.reduceToNat, Int.reduceEq, Int.reduceNe, Int.reduceTDiv, Int.reduceTMod, implies_true, putL, appN, appX, appC, Eng.Fi, reduceCtorEq, exists_eq_left', exists_eq_left, if_true, if_false, List.replicate, Nat.reduceAdd, Nat.reduceSub, Nat.reduceMul, Nat.reduceLeDiff, Nat.reduceLT, Nat.reduceEqDiff]
    | false =>
      rw [hv] at yr hf
      simp only at hf
      simp +contextual -implicitDefEqProofs (maxSteps := 2000000) only [S85, e1, e2, e3, yr, List.length_map, litV, ruB, rh_no, Int.reduceLT, Int.reduceLE, Int.reduceAdd, Int.reduceSub, Int.reduceMul, Int.reduceNeg, Int.reduceToNat, Int.reduceEq, Int.reduceNe, Int.reduceTDiv, Int.reduceTMod, implies_true, putL, appN, appX, appC, Eng.Fi, reduceCtorEq, exists_eq_left', exists_eq_left, if_true, if_false, List.replicate, Nat.reduceAdd, Nat.reduceSub, Nat.reduceMul, Nat.reduceLeDiff, Nat.reduceLT, Nat.reduceEqDiff]
      exact go _ (n + 1) ⟨hlt, hf⟩ (by omega) (Wkn.to ⟨0, [(0, 0), (1, 1)], [], 2, [3, 6, 8, 9]⟩ rfl rfl (by simp [Wk.st, keepT, memN, Wk.fate, Wk.fate0, assoc, getE, Wk.hp, ABlk.sub, sub1, subs, S85, free_Se, free_Dr]))
  · have e1 : decide ((n : Int) < (l.length : Int)) = false := lt_f hlt
    rw [List.drop_eq_nil_of_le hlt, List.find?_nil] at hf
    rw [hf]
    simp +contextual -implicitDefEqProofs (maxSteps := 2000000) only [S85, e1, List.length_map, litV, ruB, rh_no, Int.reduceLT, Int.reduceLE, Int.reduceAdd, Int.reduceSub, Int.reduceMul, Int.reduceNeg, Int.reduceToNat, Int.reduceEq, Int.reduceNe, Int.reduceTDiv, Int.reduceTMod, implies_true, putL, appN, appX, appC, Eng.Fi, reduceCtorEq, exists_eq_left', exists_eq_left, if_true, if_false, List.replicate, Nat.reduceAdd, Nat.reduceSub, Nat.reduceMul, Nat.reduceLeDiff, Nat.reduceLT, Nat.reduceEqDiff]
def cf_rlit : List AV → Option AV
  | [h_v, .agg [.int .i64 a_az, .int .i64 a_el], .agg [.int .i64 b_az, .int .i64 b_el]] => onH h_v fun h => if liB h (⟨a_az, a_el⟩ : Dr) (⟨b_az, b_el⟩ : Dr) then some (litV (litL h (⟨a_az, a_el⟩ : Dr) (⟨b_az, b_el⟩ : Dr))) else none
  | _ => none
theorem g_rlit : Fn P 85 cf_rlit := fun args v hh => by
  unfold cf_rlit at hh; split at hh
  · obtain ⟨h, rfl, hh1⟩ := onH_inv hh
    split at hh1
    · rename_i hc; have hk := Option.some.inj hh1; subst hk; exact k_rlit _ ⟨_, _⟩ ⟨_, _⟩ hc
    · cases hh1
  · cases hh
theorem x_rlit (h : Hd) (a : Dr) (b : Dr) (hc : (liB h a b) = True) : cf_rlit [eHd h, .agg [I a.az, I a.el], .agg [I b.az, I b.el]] = some (litV (litL h a b)) := by
  simp only [cf_rlit, onH_e]
  exact if_pos (by rw [hc]; trivial)
theorem k_rIsDark (h : Hd) (a b : Dr) (hk : liB h a b) : FOk P 71 [eHd h, eDr a, eDr b] (.bool (litL h a b).isNone) := by
  have y := x_rlit h a b (by simp only [hk])
  cases hx : litL h a b with
  | none =>
    rw [hx] at y; simp only [litV] at y
    refine c71.fok (by simp only [free_Hs, free_Hd, subs, sub1, free_Se]) (Cor.run (addC_good g_rlit (noC_good _)) (noHx_good _) hm ?_)
    simp +contextual -implicitDefEqProofs (maxSteps := 2000000) only [bg_eq, a71, y, Option.isNone_none, ruB, rh_no, Int.reduceLT, Int.reduceLE, Int.reduceAdd, Int.reduceSub, Int.reduceMul, Int.reduceNeg, Int.reduceToNat, Int.reduceEq, Int.reduceNe, Int.reduceTDiv, Int.reduceTMod, implies_true, putL, appN, appX, appC, Eng.Fi, reduceCtorEq, exists_eq_left', exists_eq_left, if_true, if_false, List.replicate, Nat.reduceAdd, Nat.reduceSub, Nat.reduceMul, Nat.reduceLeDiff, Nat.reduceLT, Nat.reduceEqDiff]
  | some x =>
    rw [hx] at y; simp only [litV] at y
    refine c71.fok (by simp only [free_Hs, free_Hd, subs, sub1, free_Se]) (Cor.run (addC_good g_rlit (noC_good _)) (noHx_good _) hm ?_)
    simp +contextual -implicitDefEqProofs (maxSteps := 2000000) only [bg_eq, a71, y, Option.isNone_some, ruB, rh_no, Int.reduceLT, Int.reduceLE, Int.reduceAdd, Int.reduceSub, Int.reduceMul, Int.reduceNeg, Int.reduceToNat, Int.reduceEq, Int.reduceNe, Int.reduceTDiv, Int.reduceTMod, implies_true, putL, appN, appX, appC, Eng.Fi, reduceCtorEq, exists_eq_left', exists_eq_left, if_true, if_false, List.replicate, Nat.reduceAdd, Nat.reduceSub, Nat.reduceMul, Nat.reduceLeDiff, Nat.reduceLT, Nat.reduceEqDiff]
def cf_rIsDark : List AV → Option AV
  | [h_v, .agg [.int .i64 a_az, .int .i64 a_el], .agg [.int .i64 b_az, .int .i64 b_el]] => onH h_v fun h => if liB h (⟨a_az, a_el⟩ : Dr) (⟨b_az, b_el⟩ : Dr) then some (.bool (litL h (⟨a_az, a_el⟩ : Dr) (⟨b_az, b_el⟩ : Dr)).isNone) else none
  | _ => none
theorem g_rIsDark : Fn P 71 cf_rIsDark := fun args v hh => by
  unfold cf_rIsDark at hh; split at hh
  · obtain ⟨h, rfl, hh1⟩ := onH_inv hh
    split at hh1
    · rename_i hc; have hk := Option.some.inj hh1; subst hk; exact k_rIsDark _ ⟨_, _⟩ ⟨_, _⟩ hc
    · cases hh1
  · cases hh
theorem x_rIsDark (h : Hd) (a : Dr) (b : Dr) (hc : (liB h a b) = True) : cf_rIsDark [eHd h, .agg [I a.az, I a.el], .agg [I b.az, I b.el]] = some (.bool (litL h a b).isNone) := by
  simp only [cf_rIsDark, onH_e]
  exact if_pos (by rw [hc]; trivial)
theorem nz0 : ((0 : Nat) : Int) = 0 := rfl
end Sc
