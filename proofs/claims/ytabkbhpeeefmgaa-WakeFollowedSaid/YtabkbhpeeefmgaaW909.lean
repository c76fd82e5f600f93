import Derived.Test.YtabkbhpeeefmgaaEngS9
import Derived.Test.YtabkbhpeeefmgaaW908
open Go Go.Proofs Eng
set_option maxRecDepth 100000
set_option linter.unusedSimpArgs false
set_option linter.unusedVariables false
def a35 : AC := .seq (.ops false [] [⟨some 2, .p (.mov), [.c (.nilslice)], none⟩, ⟨some 3, .p (.mov), [.c (.int .i64 0)], none⟩, ⟨some 4, .p (.mov), [.c (.int .i64 0)], none⟩]) (.seq (.ops false [] [⟨some 10, .p (.mov), [.t 0], none⟩, ⟨some 11, .call 105, [.t 10], none⟩, ⟨some 9, .p (.mov), [.t 11], none⟩, ⟨some 12, .p (.ext 0), [.t 9], none⟩, ⟨some 13, .p (.ext 1), [.t 9], none⟩, ⟨some 5, .p (.mov), [.t 12], none⟩, ⟨some 6, .p (.mov), [.t 13], none⟩]) (.seq (.seq (.ops false [] [⟨some 14, .p (.mov), [.t 6], none⟩, ⟨some 15, .p (.binI .neq), [.t 14, .c (.int .i64 0)], none⟩]) (.cond (.t 15) (.seq (.ops false [] [⟨some 16, .p (.mov), [.t 6], none⟩, ⟨some 2, .p (.mov), [.c (.nilslice)], none⟩, ⟨some 3, .p (.mov), [.c (.int .i64 0)], none⟩, ⟨some 4, .p (.mov), [.t 16], none⟩]) (.ret)) (.skip))) (.seq (.ops false [] [⟨some 18, .p (.mov), [.t 5], none⟩, ⟨some 19, .call 106, [.t 18], none⟩, ⟨some 17, .p (.mov), [.t 19], none⟩, ⟨some 20, .p (.ext 0), [.t 17], none⟩, ⟨some 21, .p (.ext 1), [.t 17], none⟩, ⟨some 7, .p (.mov), [.t 20], none⟩, ⟨some 8, .p (.mov), [.t 21], none⟩]) (.seq (.ops false [] [⟨some 22, .p (.mov), [.t 7], none⟩, ⟨some 23, .p (.iaddrS 1), [.t 22, .c (.int .i64 0)], none⟩, ⟨some 24, .load 1 false, [.t 23], none⟩, ⟨some 25, .p (.mov), [.t 8], none⟩, ⟨some 2, .p (.mov), [.t 24], none⟩, ⟨some 3, .p (.mov), [.t 25], none⟩, ⟨some 4, .p (.mov), [.c (.int .i64 0)], none⟩]) (.ret)))))
theorem c35 : FnC Try.prog 35 26 a35 [.tmp 2, .tmp 3, .tmp 4] := ⟨Try.call35, _, _, Try.func35, rfl, by kernel_rfl, by kernel_rfl, rfl⟩
def a81 : AC := .seq (.ops false [] [⟨some 2, .p (.mov), [.c (.int .i64 0)], none⟩]) (.seq (.seq (.ops false [] [⟨some 3, .p (.mov), [.t 0], none⟩, ⟨some 4, .p (.lenS), [.t 3], none⟩, ⟨some 5, .p (.binI .gtr), [.t 4, .c (.int .i64 3)], none⟩]) (.cond (.t 5) (.seq (.ops false [] [⟨some 2, .p (.mov), [.c (.int .i64 8)], none⟩]) (.ret)) (.skip))) (.seq (.ops false [] [⟨some 6, .p (.mov), [.t 0], none⟩, ⟨some 7, .call 134, [.t 6, .c (.fn 112 [] [])], none⟩, ⟨some 2, .p (.mov), [.t 7], none⟩]) (.ret)))
theorem c81 : FnC Try.prog 81 8 a81 [.tmp 2] := ⟨Try.call81, _, _, Try.func81, rfl, by kernel_rfl, by kernel_rfl, rfl⟩
def a82 : AC := .seq (.ops false [] [⟨some 2, .p (.mov), [.c (.int .i64 0)], none⟩]) (.seq (.ops false [] [⟨some 3, .p (.mov), [.t 0], none⟩, ⟨some 4, .call 103, [.t 3, .c (.int .i64 0), .c (.int .i64 10000000)], none⟩, ⟨some 5, .call 91, [.t 4, .c (.int .i64 2)], none⟩, ⟨some 2, .p (.mov), [.t 5], none⟩]) (.ret))
theorem c82 : FnC Try.prog 82 6 a82 [.tmp 2] := ⟨Try.call82, _, _, Try.func82, rfl, by kernel_rfl, by kernel_rfl, rfl⟩
def a88 : AC := .seq (.ops false [] [⟨some 6, .p (.mov), [.c (.int .i64 0)], none⟩]) (.seq (.ops false [] [⟨some 7, .p (.mov), [.t 0], none⟩, ⟨some 8, .call 81, [.t 7], none⟩, ⟨some 9, .p (.mov), [.t 1], none⟩, ⟨some 10, .call 81, [.t 9], none⟩, ⟨some 11, .p (.mov), [.t 2], none⟩, ⟨some 12, .call 82, [.t 11], none⟩, ⟨some 13, .fbs 1, [.t 8, .t 10, .t 12], none⟩, ⟨some 14, .call 79, [.t 13], none⟩, ⟨some 6, .p (.mov), [.t 14], none⟩]) (.ret))
theorem c88 : FnC Try.prog 88 15 a88 [.tmp 6] := ⟨Try.call88, _, _, Try.func88, rfl, by kernel_rfl, by kernel_rfl, rfl⟩
def a112 : AC := .seq (.ops false [] [⟨some 1, .box 46 3 1 true, [.t 0], none⟩, ⟨some 2, .p (.mov), [.c (.int .i64 0)], none⟩]) (.seq (.ops true [] [⟨some 3, .p (.faddr 0), [.t 1], none⟩, ⟨some 4, .load 2 true, [.t 3], none⟩, ⟨some 5, .call 114, [.t 4], none⟩, ⟨some 6, .p (.faddr 2), [.t 1], none⟩, ⟨some 7, .load 1 false, [.t 6], none⟩, ⟨some 8, .call 116, [.t 7, .c (.int .i64 10000)], none⟩, ⟨some 9, .call 91, [.t 8, .c (.int .i64 2)], none⟩, ⟨some 10, .fbs 1, [.t 5, .t 9], none⟩, ⟨some 11, .call 79, [.t 10], none⟩, ⟨some 2, .p (.mov), [.t 11], none⟩]) (.ret))
theorem c112 : FnC Try.prog 112 12 a112 [.tmp 2] := ⟨Try.call112, _, _, Try.func112, rfl, by kernel_rfl, by kernel_rfl, rfl⟩
def a134 : AC := .seq (.ops false [] [⟨some 4, .p (.mov), [.c (.int .i64 0)], none⟩]) (.seq (.seq (.ops false [] [⟨some 8, .p (.mov), [.t 0], none⟩, ⟨some 9, .p (.lenS), [.t 8], none⟩, ⟨some 10, .p (.mov), [.c (.int .i64 0)], none⟩]) (.block 0 (.loop (.seq (.ops false [] [⟨some 11, .p (.binI .lss), [.t 10, .t 9], none⟩]) (.seq (.cond (.t 11) (.skip) (.exit 0)) (.seq (.block 1 (.seq (.ops false [] [⟨some 12, .p (.iaddrS 3), [.t 8, .t 10], none⟩, ⟨some 13, .load 3 true, [.t 12], none⟩, ⟨some 6, .alloc 46 3 [.agg [.int .i64 0, .int .i64 0, .int .i64 0]], [], none⟩, ⟨none, .store 3 true, [.t 6, .t 13], none⟩]) (.seq (.ops false [] [⟨some 14, .p (.mov), [.t 1], none⟩, ⟨some 15, .load 3 true, [.t 6], none⟩, ⟨some 16, .callv, [.t 14, .t 15], none⟩, ⟨some 7, .p (.mov), [.t 16], none⟩]) (.seq (.ops false [] [⟨some 17, .p (.mov), [.t 7], none⟩, ⟨some 18, .p (.binI .neq), [.t 17, .c (.int .i64 0)], none⟩]) (.cond (.t 18) (.seq (.ops false [] [⟨some 19, .p (.mov), [.t 7], none⟩, ⟨some 4, .p (.mov), [.t 19], none⟩]) (.ret)) (.skip)))))) (.ops false [] [⟨some 20, .p (.binI .add), [.t 10, .c (.int .i64 1)], none⟩, ⟨some 10, .p (.mov), [.t 20], none⟩]))))))) (.seq (.ops false [] [⟨some 4, .p (.mov), [.c (.int .i64 0)], none⟩]) (.ret)))
theorem c134 : FnC Try.prog 134 21 a134 [.tmp 4] := ⟨Try.call134, _, _, Try.func134, rfl, by kernel_rfl, by kernel_rfl, rfl⟩
namespace Wa
def coV (m : List L) : AV := if (cmV m).2 = 0 then .tup [.vs (((chV m).1.headD []).map eI), I (chV m).2, I 0] else .tup [.vs [], I 0, I (cmV m).2]
theorem ch_ne {m : List L} : (chV m).1 ≠ [] := by
  obtain ⟨y, hy⟩ := cp_some m (permG m.length m.length []) none (.inl (perm_ne _))
  have key : ∀ (l : List L) (x y : Option (List L × Int)), (∀ z, x = some z → z.1 ≠ []) → l.foldl (cpS m) x = y → ∀ z, y = some z → z.1 ≠ [] := by
    intro l
    induction l with
    | nil => rintro x y h rfl; exact h
    | cons p l ih =>
      intro x y h he
      refine ih (cpS m x p) y ?_ he
      cases x with
      | none => rintro z hz; cases hz; simp
      | some q =>
        obtain ⟨l', c⟩ := q
        intro z hz
        rw [cpS] at hz
        split at hz
        · cases hz; simp
        · split at hz
          · cases hz; simp
          · cases hz; exact h _ rfl
  have hy' : chO m = some y := hy
  rw [chV, hy']
  exact key _ none _ (by simp) hy y rfl
theorem k_CheapestOf (m : List L) (h : m.length ≤ 1099511627776 ∧ ∀ r ∈ m, r.length ≤ 1099511627776) : FOk P 35 [.vs (m.map eL)] (coV m) := by
  have y1 := x_open m (by simp only [eq_iff_iff, iff_true]; exact h)
  by_cases h0 : (cmV m).2 = 0
  · rw [coV, if_pos h0]
    have y2 := x_cheapest m h0
    have hne := ch_ne (m := m)
    generalize chV m = q at *
    obtain ⟨l, c⟩ := q
    simp only at hne y2
    cases l with
    | nil => exact absurd rfl hne
    | cons p l =>
      have hfp := fun φ => free_I φ p
      refine c35.fok (by simp only [subs, sub1, free_L]) (Cor.run (addC_good g_cheapest (addC_good g_open (noC_good _))) (noHx_good _) hm ?_)
      simp +contextual -implicitDefEqProofs (maxSteps := 2000000) only [bg_eq, a35, y1, y2, h0, not_true_eq_false, List.map_cons, List.headD_cons, hfp, ruB, rh_no, Int.reduceLT, Int.reduceLE, Int.reduceAdd, Int.reduceSub, Int.reduceMul, Int.reduceNeg, Int.reduceToNat, Int.reduceEq, Int.reduceNe, Int.reduceTDiv, Int.reduceTMod, implies_true, putL, appN, appX, appC, Eng.Fi, reduceCtorEq, exists_eq_left', exists_eq_left, if_true, if_false, List.replicate, Nat.reduceAdd, Nat.reduceSub, Nat.reduceMul, Nat.reduceLeDiff, Nat.reduceLT, Nat.reduceEqDiff]
  · rw [coV, if_neg h0]
    refine c35.fok (by simp only [subs, sub1, free_L]) (Cor.run (addC_good g_cheapest (addC_good g_open (noC_good _))) (noHx_good _) hm ?_)
    simp +contextual -implicitDefEqProofs (maxSteps := 2000000) only [bg_eq, a35, y1, h0, not_false_eq_true, ruB, rh_no, Int.reduceLT, Int.reduceLE, Int.reduceAdd, Int.reduceSub, Int.reduceMul, Int.reduceNeg, Int.reduceToNat, Int.reduceEq, Int.reduceNe, Int.reduceTDiv, Int.reduceTMod, implies_true, putL, appN, appX, appC, Eng.Fi, reduceCtorEq, exists_eq_left', exists_eq_left, if_true, if_false, List.replicate, Nat.reduceAdd, Nat.reduceSub, Nat.reduceMul, Nat.reduceLeDiff, Nat.reduceLT, Nat.reduceEqDiff]
def cf_CheapestOf : List AV → Option AV
  | [.vs m_v] => onL dL m_v fun m => if m.length ≤ 1099511627776 ∧ ∀ r ∈ m, r.length ≤ 1099511627776 then some (coV m) else none
  | _ => none
theorem g_CheapestOf : Fn P 35 cf_CheapestOf := fun args v hh => by
  unfold cf_CheapestOf at hh; split at hh
  · obtain ⟨m, rfl, hh1⟩ := onL_inv dL_inv hh
    split at hh1
    · rename_i hc; have hk := Option.some.inj hh1; subst hk; exact k_CheapestOf _ hc
    · cases hh1
  · cases hh
theorem x_CheapestOf (m : List L) (hc : (m.length ≤ 1099511627776 ∧ ∀ r ∈ m, r.length ≤ 1099511627776) = True) : cf_CheapestOf [.vs (m.map eL)] = some (coV m) := by
  simp only [cf_CheapestOf, onL_map dL_e]
  exact if_pos (by rw [hc]; trivial)
def voE (v : Vo) : Int := firstE [ptE ⟨v.y, v.z⟩, unl (-10000 ≤ v.s ∧ v.s ≤ 10000) 2]
theorem k_vortexErr (v : Vo) : FOk P 112 [eVo v] (I (voE v)) := by
  have y := x_sized' v.s 10000 (by simp) (-10000) rfl
  refine c112.fok rfl (Cor.run (addC_good g_first (addC_good g_unless (addC_good g_sized (addC_good g_pointErr (noC_good _))))) (noHx_good _) hm ?_)
  simp +contextual -implicitDefEqProofs (maxSteps := 2000000) only [bg_eq, a112, x_pointErr, y, x_unless, x_first, y_first, voE, ruB, rh_no, Int.reduceLT, Int.reduceLE, Int.reduceAdd, Int.reduceSub, Int.reduceMul, Int.reduceNeg, Int.reduceToNat, Int.reduceEq, Int.reduceNe, Int.reduceTDiv, Int.reduceTMod, implies_true, putL, appN, appX, appC, Eng.Fi, reduceCtorEq, exists_eq_left', exists_eq_left, if_true, if_false, List.replicate, Nat.reduceAdd, Nat.reduceSub, Nat.reduceMul, Nat.reduceLeDiff, Nat.reduceLT, Nat.reduceEqDiff]
def cf_vortexErr : List AV → Option AV
  | [.agg [.int .i64 v_y, .int .i64 v_z, .int .i64 v_s]] => some (I (voE (⟨v_y, v_z, v_s⟩ : Vo)))
  | _ => none
theorem g_vortexErr : Fn P 112 cf_vortexErr := fun args v hh => by
  unfold cf_vortexErr at hh; split at hh
  · have hk := Option.some.inj hh; subst hk; exact k_vortexErr ⟨_, _, _⟩
  · cases hh
theorem x_vortexErr (v : Vo) : cf_vortexErr [.agg [I v.y, I v.z, I v.s]] = some (I (voE v)) := by
  rfl
def voR (v : Vo) : Prop := (siR v.y ∧ heR v.z) ∧ (-10000 ≤ v.s ∧ v.s ≤ 10000)
instance (v : Vo) : Decidable (voR v) := by unfold voR; infer_instance
theorem voE_z {v : Vo} (h : voE v = 0) : voR v := by
  have z := firstE_zero h
  exact ⟨unl_zero (z (ptE ⟨v.y, v.z⟩) (by simp)) (by decide), unl_zero (z (unl (-10000 ≤ v.s ∧ v.s ≤ 10000) 2) (by simp)) (by decide)⟩
def voG : List Vo → Int
  | [] => 0
  | v :: l => if voE v = 0 then voG l else voE v
theorem voG_z : ∀ {l : List Vo}, voG l = 0 → ∀ v ∈ l, voR v
  | [], _, r, h => by simp at h
  | x :: l, h, r, hr => by
    rw [voG] at h
    split at h
    · rename_i hx
      rcases List.mem_cons.1 hr with rfl | hr
      · exact voE_z hx
      · exact voG_z h r hr
    · rename_i hx; exact absurd h hx
def S_eV (l : List Vo) (k : Nat) : AState := ⟨[.any, .fn 112 [] [], .any, .any, .any, .any, .any, .any, .vs (l.map eVo), I l.length, I k, .any, .any, .any, .any, .any, .any, .any, .any, .any, .any], [], 0⟩
theorem k_eachV (l : List Vo) (hl : l.length ≤ 1099511627776) : FOk P 134 [.vs (l.map eVo), .fn 112 [] []] (I (voG l)) := by
  refine c134.fok (by simp only [subs, sub1, free_Vo]) (Cor.run (addC_good g_vortexErr (noC_good _)) (noHx_good _) hm ?_)
  simp +contextual -implicitDefEqProofs (maxSteps := 2000000) only [bg_eq, a134, List.length_map, ruB, rh_no, Int.reduceLT, Int.reduceLE, Int.reduceAdd, Int.reduceSub, Int.reduceMul, Int.reduceNeg, Int.reduceToNat, Int.reduceEq, Int.reduceNe, Int.reduceTDiv, Int.reduceTMod, implies_true, putL, appN, appX, appC, Eng.Fi, reduceCtorEq, exists_eq_left', exists_eq_left, if_true, if_false, List.replicate, Nat.reduceAdd, Nat.reduceSub, Nat.reduceMul, Nat.reduceLeDiff, Nat.reduceLT, Nat.reduceEqDiff]
  refine Cor.lp (addC_good g_vortexErr (noC_good _)) (noHx_good _) hm (S_eV l) (fun k => k ≤ l.length ∧ voG l = voG (l.drop k)) (fun k => l.length - k) (a := 0) ⟨Nat.zero_le _, rfl⟩ (Wkn.keep [1, 8, 9, 10] rfl) ?_
  intro f k ⟨hk, hf⟩ go
  rcases Nat.lt_or_ge k l.length with h | h
  · have e1 : decide ((k : Int) < (l.length : Int)) = true := lt_t h
    have e2 : (l.map eVo)[k]? = some (eVo l[k]) := get_e eVo l h
    have e3 : IntKind.wrap .i64 ((k : Int) + 1) = ((k + 1 : Nat) : Int) := suc_w (by omega)
    have y := x_vortexErr l[k]
    rw [List.drop_eq_getElem_cons h, voG] at hf
    generalize l[k] = r at *
    by_cases c1 : voE r = 0
    · have c1' := eq_true c1
      rw [if_pos c1] at hf
      simp +contextual -implicitDefEqProofs (maxSteps := 2000000) only [S_eV, e1, e2, e3, y, c1', not_true_eq_false, ruB, rh_no, Int.reduceLT, Int.reduceLE, Int.reduceAdd, Int.reduceSub, Int.reduceMul, Int.reduceNeg, Int.reduceToNat, Int.reduceEq, Int.reduceNe, Int.reduceTDiv, Int.reduceTMod, implies_true, putL, appN, appX, appC, Eng.Fi, reduceCtorEq, exists_eq_left', exists_eq_left, if_true, if_false, List.replicate, Nat.reduceAdd, Nat.reduceSub, Nat.reduceMul, Nat.reduceLeDiff, Nat.reduceLT, Nat.reduceEqDiff]
      exact go _ (k + 1) ⟨h, hf⟩ (by omega) (Wkn.to ⟨0, [], [], 0, [1, 8, 9, 10]⟩ rfl rfl (by simp only [Wk.st, keepT, sub1, subs, Wk.hp, ABlk.sub, S_eV, free_Vo]; try rfl))
    · have c1' := eq_false c1
      rw [if_neg c1] at hf
      rw [hf]
      simp +contextual -implicitDefEqProofs (maxSteps := 2000000) only [S_eV, e1, e2, e3, y, c1', not_false_eq_true, ruB, rh_no, Int.reduceLT, Int.reduceLE, Int.reduceAdd, Int.reduceSub, Int.reduceMul, Int.reduceNeg, Int.reduceToNat, Int.reduceEq, Int.reduceNe, Int.reduceTDiv, Int.reduceTMod, implies_true, putL, appN, appX, appC, Eng.Fi, reduceCtorEq, exists_eq_left', exists_eq_left, if_true, if_false, List.replicate, Nat.reduceAdd, Nat.reduceSub, Nat.reduceMul, Nat.reduceLeDiff, Nat.reduceLT, Nat.reduceEqDiff]
  · have e1 : decide ((k : Int) < (l.length : Int)) = false := lt_f h
    rw [List.drop_eq_nil_of_le h, voG] at hf
    rw [hf]
    simp +contextual -implicitDefEqProofs (maxSteps := 2000000) only [S_eV, e1, ruB, rh_no, Int.reduceLT, Int.reduceLE, Int.reduceAdd, Int.reduceSub, Int.reduceMul, Int.reduceNeg, Int.reduceToNat, Int.reduceEq, Int.reduceNe, Int.reduceTDiv, Int.reduceTMod, implies_true, putL, appN, appX, appC, Eng.Fi, reduceCtorEq, exists_eq_left', exists_eq_left, if_true, if_false, List.replicate, Nat.reduceAdd, Nat.reduceSub, Nat.reduceMul, Nat.reduceLeDiff, Nat.reduceLT, Nat.reduceEqDiff]
def cf_eachV : List AV → Option AV
  | [.vs l_v, .fn 112 [] []] => onL dVo l_v fun l => if l.length ≤ 1099511627776 then some (I (voG l)) else none
  | _ => none
theorem g_eachV : Fn P 134 cf_eachV := fun args v hh => by
  unfold cf_eachV at hh; split at hh
  · obtain ⟨l, rfl, hh1⟩ := onL_inv dVo_inv hh
    split at hh1
    · rename_i hc; have hk := Option.some.inj hh1; subst hk; exact k_eachV _ hc
    · cases hh1
  · cases hh
theorem x_eachV (l : List Vo) (hc : (l.length ≤ 1099511627776) = True) : cf_eachV [.vs (l.map eVo), .fn 112 [] []] = some (I (voG l)) := by
  simp only [cf_eachV, onL_map dVo_e]
  exact if_pos (by rw [hc]; trivial)
def scE (l : List Vo) : Int := if 3 < (l.length : Int) then 8 else voG l
theorem scE_z {l : List Vo} (h : scE l = 0) : l.length ≤ 3 ∧ ∀ v ∈ l, voR v := by
  unfold scE at h
  split at h
  · simp at h
  · exact ⟨by omega, voG_z h⟩
theorem k_scanErr (l : List Vo) : FOk P 81 [.vs (l.map eVo)] (I (scE l)) := by
  unfold scE
  by_cases h : 3 < (l.length : Int)
  · have h' := eq_true h
    rw [if_pos h]
    refine c81.fok (by simp only [subs, sub1, free_Vo]) (Cor.run (addC_good g_eachV (noC_good _)) (noHx_good _) hm ?_)
    simp +contextual -implicitDefEqProofs (maxSteps := 2000000) only [bg_eq, a81, List.length_map, h', ruB, rh_no, Int.reduceLT, Int.reduceLE, Int.reduceAdd, Int.reduceSub, Int.reduceMul, Int.reduceNeg, Int.reduceToNat, Int.reduceEq, Int.reduceNe, Int.reduceTDiv, Int.reduceTMod, implies_true, putL, appN, appX, appC, Eng.Fi, reduceCtorEq, exists_eq_left', exists_eq_left, if_true, if_false, List.replicate, Nat.reduceAdd, Nat.reduceSub, Nat.reduceMul, Nat.reduceLeDiff, Nat.reduceLT, Nat.reduceEqDiff]
  · have h' := eq_false h
    rw [if_neg h]
    have y := x_eachV l (by simp only [eq_iff_iff, iff_true]; omega)
    refine c81.fok (by simp only [subs, sub1, free_Vo]) (Cor.run (addC_good g_eachV (noC_good _)) (noHx_good _) hm ?_)
    simp +contextual -implicitDefEqProofs (maxSteps := 2000000) only [bg_eq, a81, List.length_map, h', y, ruB, rh_no, Int.reduceLT, Int.reduceLE, Int.reduceAdd, Int.reduceSub, Int.reduceMul, Int.reduceNeg, Int.reduceToNat, Int.reduceEq, Int.reduceNe, Int.reduceTDiv, Int.reduceTMod, implies_true, putL, appN, appX, appC, Eng.Fi, reduceCtorEq, exists_eq_left', exists_eq_left, if_true, if_false, List.replicate, Nat.reduceAdd, Nat.reduceSub, Nat.reduceMul, Nat.reduceLeDiff, Nat.reduceLT, Nat.reduceEqDiff]
def cf_scanErr : List AV → Option AV
  | [.vs l_v] => onL dVo l_v fun l => some (I (scE l))
  | _ => none
theorem g_scanErr : Fn P 81 cf_scanErr := fun args v hh => by
  unfold cf_scanErr at hh; split at hh
  · obtain ⟨l, rfl, hh1⟩ := onL_inv dVo_inv hh
    have hk := Option.some.inj hh1; subst hk; exact k_scanErr _
  · cases hh
theorem x_scanErr (l : List Vo) : cf_scanErr [.vs (l.map eVo)] = some (I (scE l)) := by
  simp only [cf_scanErr, onL_map dVo_e]
def miR (n : Int) : Prop := 0 ≤ n ∧ n ≤ 10000000
instance (n : Int) : Decidable (miR n) := by unfold miR; infer_instance
theorem k_missErr (n : Int) : FOk P 82 [I n] (I (unl (miR n) 2)) := by
  refine c82.fok rfl (Cor.run (addC_good g_unless (addC_good g_within (noC_good _))) (noHx_good _) hm ?_)
  simp +contextual -implicitDefEqProofs (maxSteps := 2000000) only [bg_eq, a82, x_within, x_unless, miR, ruB, rh_no, Int.reduceLT, Int.reduceLE, Int.reduceAdd, Int.reduceSub, Int.reduceMul, Int.reduceNeg, Int.reduceToNat, Int.reduceEq, Int.reduceNe, Int.reduceTDiv, Int.reduceTMod, implies_true, putL, appN, appX, appC, Eng.Fi, reduceCtorEq, exists_eq_left', exists_eq_left, if_true, if_false, List.replicate, Nat.reduceAdd, Nat.reduceSub, Nat.reduceMul, Nat.reduceLeDiff, Nat.reduceLT, Nat.reduceEqDiff]
def cf_missErr : List AV → Option AV
  | [.int .i64 n] => some (.int .i64 (unl (miR n) 2))
  | _ => none
theorem g_missErr : Fn P 82 cf_missErr := fun args v h => by
  unfold cf_missErr at h; split at h
  · have h := Option.some.inj h; subst h; exact k_missErr _
  · cases h
theorem x_missErr (n : Int) : cf_missErr [.int .i64 n] = some (.int .i64 (unl (miR n) 2)) := rfl
def olE (a b : List Vo) (n : Int) : Int := firstE [scE a, scE b, unl (miR n) 2]
theorem k_openLinks (a b : List Vo) (n : Int) : FOk P 88 [.vs (a.map eVo), .vs (b.map eVo), I n] (I (olE a b n)) := by
  have y1 := x_scanErr a
  have y2 := x_scanErr b
  refine c88.fok (by simp only [subs, sub1, free_Vo]) (Cor.run (addC_good g_first (addC_good g_missErr (addC_good g_scanErr (noC_good _)))) (noHx_good _) hm ?_)
  simp +contextual -implicitDefEqProofs (maxSteps := 2000000) only [bg_eq, a88, y1, y2, x_missErr, x_first, y_first, olE, ruB, rh_no, Int.reduceLT, Int.reduceLE, Int.reduceAdd, Int.reduceSub, Int.reduceMul, Int.reduceNeg, Int.reduceToNat, Int.reduceEq, Int.reduceNe, Int.reduceTDiv, Int.reduceTMod, implies_true, putL, appN, appX, appC, Eng.Fi, reduceCtorEq, exists_eq_left', exists_eq_left, if_true, if_false, List.replicate, Nat.reduceAdd, Nat.reduceSub, Nat.reduceMul, Nat.reduceLeDiff, Nat.reduceLT, Nat.reduceEqDiff]
def cf_openLinks : List AV → Option AV
  | [.vs a_v, .vs b_v, .int .i64 n] => onL dVo a_v fun a => onL dVo b_v fun b => some (I (olE a b n))
  | _ => none
theorem g_openLinks : Fn P 88 cf_openLinks := fun args v hh => by
  unfold cf_openLinks at hh; split at hh
  · obtain ⟨a, rfl, hh1⟩ := onL_inv dVo_inv hh
    obtain ⟨b, rfl, hh2⟩ := onL_inv dVo_inv hh1
    have hk := Option.some.inj hh2; subst hk; exact k_openLinks _ _ _
  · cases hh
theorem x_openLinks (a : List Vo) (b : List Vo) (n : Int) : cf_openLinks [.vs (a.map eVo), .vs (b.map eVo), .int .i64 n] = some (I (olE a b n)) := by
  simp only [cf_openLinks, onL_map dVo_e]
/-- a slice that grows: its value, its block -/
def gA (id esz : Nat) : List AV → AV
  | [] => .nilslice
  | _ :: r => .slice id esz 0 (r.length + 1)
def gH (id ty esz : Nat) : List AV → List HEnt
  | [] => []
  | v :: r => [⟨id, id, .rows ty esz (v :: r)⟩]
def offV (v w : Vo) : Int := (v.y - w.y) * (v.y - w.y) + (v.z - w.z) * (v.z - w.z) + szV (v.s - w.s)
theorem off_bd {v w : Vo} (hv : voR v) (hw : voR w) : ((-2000 ≤ v.y - w.y ∧ v.y - w.y ≤ 2000) ∧ (-1000 ≤ v.z - w.z ∧ v.z - w.z ≤ 1000) ∧ (-20000 ≤ v.s - w.s ∧ v.s - w.s ≤ 20000)) ∧ (0 ≤ (v.y - w.y) * (v.y - w.y) ∧ (v.y - w.y) * (v.y - w.y) ≤ 4000000) ∧ (0 ≤ (v.z - w.z) * (v.z - w.z) ∧ (v.z - w.z) * (v.z - w.z) ≤ 1000000) ∧ (0 ≤ szV (v.s - w.s) ∧ szV (v.s - w.s) ≤ 20000) ∧ 0 ≤ offV v w ∧ offV v w ≤ 10000000 := by
  unfold voR siR heR at hv hw
  have p1 := mul_bd (a := v.y - w.y) (b := v.y - w.y) (A := 2000) (B := 2000) (by omega) (by omega)
  have p2 := mul_bd (a := v.z - w.z) (b := v.z - w.z) (A := 1000) (B := 1000) (by omega) (by omega)
  have sq : ∀ x : Int, 0 ≤ x * x := fun x => by
    rcases Int.le_total 0 x with g | g
    · exact Int.mul_nonneg g g
    · exact Int.mul_nonneg_of_nonpos_of_nonpos g g
  have s1 := sq (v.y - w.y)
  have s2 := sq (v.z - w.z)
  have s3 : 0 ≤ szV (v.s - w.s) ∧ szV (v.s - w.s) ≤ 20000 := by unfold szV; omega
  unfold offV
  omega
def lkE (a b : List Vo) (n : Int) (i j : Nat) : Int := match a[i]?, b[j]? with
  | some v, some w => offV v w
  | none, none => 0
  | _, _ => n
def lkR (a b : List Vo) (n : Int) (i k : Nat) : L := (List.range k).map (lkE a b n i)
def lkM (a b : List Vo) (n : Int) (N k : Nat) : List L := (List.range k).map fun i => lkR a b n i N
theorem lkR_s (a b : List Vo) (n : Int) (i k : Nat) : lkR a b n i (k + 1) = lkR a b n i k ++ [lkE a b n i k] := by
  unfold lkR; rw [List.range_succ, List.map_append]; rfl
theorem lkM_s (a b : List Vo) (n : Int) (N k : Nat) : lkM a b n N (k + 1) = lkM a b n N k ++ [lkR a b n k N] := by
  unfold lkM; rw [List.range_succ, List.map_append]; rfl
def lkL (a b : List Vo) (n : Int) : List L := lkM a b n (a.length + b.length) (a.length + b.length)
theorem lkR_len (a b : List Vo) (n : Int) (i k : Nat) : (lkR a b n i k).length = k := by simp [lkR]
theorem lkM_len (a b : List Vo) (n : Int) (N k : Nat) : (lkM a b n N k).length = k := by simp [lkM]
structure lkB (a b : List Vo) (n : Int) : Prop where
  a : a.length ≤ 3 ∧ ∀ v ∈ a, voR v
  b : b.length ≤ 3 ∧ ∀ v ∈ b, voR v
  n : miR n
theorem olE_z {a b : List Vo} {n : Int} (h : olE a b n = 0) : lkB a b n := by
  have z := firstE_zero h
  exact ⟨scE_z (z (scE a) (by simp)), scE_z (z (scE b) (by simp)), unl_zero (z (unl (miR n) 2) (by simp)) (by decide)⟩
theorem lkE_bd {a b : List Vo} {n : Int} (h : lkB a b n) (i j : Nat) : 0 ≤ lkE a b n i j ∧ lkE a b n i j ≤ 10000000 := by
  have hn := h.n
  unfold miR at hn
  unfold lkE
  split
  · rename_i v w hv hw
    exact (off_bd (h.a.2 v (List.mem_of_getElem? hv)) (h.b.2 w (List.mem_of_getElem? hw))).2.2.2.2
  · omega
  · exact hn
theorem lkL_ok {a b : List Vo} {n : Int} (h : lkB a b n) (h0 : 0 < a.length + b.length) : maR (lkL a b n) := by
  have h1 := h.a.1
  have h2 := h.b.1
  refine ⟨by rw [lkL, lkM_len]; omega, fun r hr => ?_⟩
  rw [lkL, lkM_len]
  unfold lkL lkM at hr
  obtain ⟨i, _, rfl⟩ := List.mem_map.1 hr
  refine ⟨lkR_len _ _ _ _ _, fun x hx => ?_⟩
  unfold lkR at hx
  obtain ⟨j, _, rfl⟩ := List.mem_map.1 hx
  exact lkE_bd h i j
end Wa
