import Derived.Test.YtabkbhpeeefmgaaEngS9
import Derived.Test.YtabkbhpeeefmgaaW47
open Go Go.Proofs Eng
set_option maxRecDepth 100000
set_option linter.unusedSimpArgs false
set_option linter.unusedVariables false
def a107 : AC := .seq (.ops false [] [⟨some 4, .p (.mov), [.c (.bool false)], none⟩]) (.seq (.ops false [] [⟨some 5, .p (.mov), [.t 0], none⟩, ⟨some 6, .p (.mov), [.t 1], none⟩, ⟨some 7, .call 142, [.t 5, .t 6], none⟩, ⟨some 8, .p (.binI .geq), [.t 7, .c (.int .i64 0)], none⟩, ⟨some 4, .p (.mov), [.t 8], none⟩]) (.ret))
theorem c107 : FnC Try.prog 107 9 a107 [.tmp 4] := ⟨Try.call107, _, _, Try.func107, rfl, by kernel_rfl, by kernel_rfl, rfl⟩
def a108 : AC := .seq (.ops false [] [⟨some 4, .p (.mov), [.c (.bool false)], none⟩]) (.seq (.ops true [] [⟨some 5, .p (.mov), [.t 0], none⟩, ⟨some 6, .load 1 false, [.t 1], none⟩, ⟨some 7, .p (.iaddrS 1), [.t 5, .t 6], none⟩, ⟨some 8, .load 1 false, [.t 7], none⟩, ⟨some 9, .load 1 false, [.t 2], none⟩, ⟨some 10, .p (.iaddrS 1), [.t 9, .c (.int .i64 0)], none⟩, ⟨some 11, .load 1 false, [.t 10], none⟩, ⟨some 12, .load 1 false, [.t 1], none⟩, ⟨some 13, .p (.iaddrS 1), [.t 11, .t 12], none⟩, ⟨some 14, .load 1 false, [.t 13], none⟩, ⟨some 15, .p (.binI .neq), [.t 8, .t 14], none⟩, ⟨some 4, .p (.mov), [.t 15], none⟩]) (.ret))
theorem c108 : FnC Try.prog 108 16 a108 [.tmp 4] := ⟨Try.call108, _, _, Try.func108, rfl, by kernel_rfl, by kernel_rfl, rfl⟩
def a142 : AC := .seq (.ops false [] [⟨some 4, .p (.mov), [.c (.int .i64 0)], none⟩]) (.seq (.seq (.ops false [] [⟨some 6, .p (.mov), [.t 0], none⟩, ⟨some 7, .p (.lenS), [.t 6], none⟩, ⟨some 8, .p (.mov), [.c (.int .i64 0)], none⟩]) (.block 0 (.loop (.seq (.ops false [] [⟨some 9, .p (.binI .lss), [.t 8, .t 7], none⟩]) (.seq (.cond (.t 9) (.skip) (.exit 0)) (.seq (.block 1 (.seq (.ops false [] [⟨some 10, .p (.mov), [.t 8], none⟩, ⟨some 5, .p (.mov), [.t 10], none⟩]) (.seq (.ops false [] [⟨some 11, .p (.mov), [.t 1], none⟩, ⟨some 12, .p (.mov), [.t 0], none⟩, ⟨some 13, .p (.mov), [.t 5], none⟩, ⟨some 14, .p (.iaddrS 1), [.t 12, .t 13], none⟩, ⟨some 15, .load 1 false, [.t 14], none⟩, ⟨some 16, .callv, [.t 11, .t 15], none⟩]) (.cond (.t 16) (.seq (.ops false [] [⟨some 17, .p (.mov), [.t 5], none⟩, ⟨some 4, .p (.mov), [.t 17], none⟩]) (.ret)) (.skip))))) (.ops false [] [⟨some 18, .p (.binI .add), [.t 8, .c (.int .i64 1)], none⟩, ⟨some 8, .p (.mov), [.t 18], none⟩]))))))) (.seq (.ops false [] [⟨some 4, .p (.mov), [.c (.int .i64 (-1))], none⟩]) (.ret)))
theorem c142 : FnC Try.prog 142 19 a142 [.tmp 4] := ⟨Try.call142, _, _, Try.func142, rfl, by kernel_rfl, by kernel_rfl, rfl⟩
namespace Wa
def gk (k : Nat) (p : L) : Int := (p[k]?).getD 0
theorem gk_get {k : Nat} {p : L} (h : k < p.length) : (p.map eI)[k]? = some (eI (gk k p)) := by
  unfold gk
  rw [List.getElem?_map, List.getElem?_eq_getElem h]; rfl
def ceB (k : Int) (b : List L) : Prop := 0 ≤ k ∧ k ≤ 1000 ∧ 0 < b.length ∧ k.toNat < (b.headD []).length
instance (k : Int) (b : List L) : Decidable (ceB k b) := by unfold ceB; infer_instance
theorem k_CertainIn1 (p : L) (k : Int) (b : List L) (h : ceB k b ∧ k.toNat < p.length) : FOk P 108 [.vs (p.map eI), .vp [I k] 0 0, .vp [.vs (b.map eL)] 0 0] (.bool (decide (¬ gk k.toNat p = gk k.toNat (b.headD [])))) := by
  obtain ⟨⟨h0, hk, hb, hbk⟩, hp⟩ := h
  obtain ⟨n, rfl⟩ : ∃ n : Nat, k = n := ⟨k.toNat, by omega⟩
  rw [Int.toNat_natCast] at *
  have e1 := gk_get hp
  have e2 : (b.map eL)[0]? = some (eL (b.headD [])) := by
    cases b with
    | nil => simp at hb
    | cons q r => rfl
  have e3 := gk_get hbk
  generalize gk n p = x at *
  generalize b.headD [] = q at *
  generalize gk n q = y at *
  refine c108.fok (by simp only [subs, sub1, free_L, free_I]) (Cor.run (noC_good _) (noHx_good _) hm ?_)
  simp +contextual -implicitDefEqProofs (maxSteps := 2000000) only [bg_eq, a108, e1, e2, e3, Int.natCast_zero, ruB, rh_no, Int.reduceLT, Int.reduceLE, Int.reduceAdd, Int.reduceSub, Int.reduceMul, Int.reduceNeg, Int.reduceToNat, Int.reduceEq, Int.reduceNe, Int.reduceTDiv, Int.reduceTMod, implies_true, putL, appN, appX, appC, Eng.Fi, reduceCtorEq, exists_eq_left', exists_eq_left, if_true, if_false, List.replicate, Nat.reduceAdd, Nat.reduceSub, Nat.reduceMul, Nat.reduceLeDiff, Nat.reduceLT, Nat.reduceEqDiff]
def cf_CertainIn1 : List AV → Option AV
  | [.vs p_v, .vp [.int .i64 k] 0 0, .vp [.vs b_v] 0 0] => onL dI p_v fun p => onL dL b_v fun b => if ceB k b ∧ k.toNat < p.length then some (.bool (decide (¬ gk k.toNat p = gk k.toNat (b.headD [])))) else none
  | _ => none
theorem g_CertainIn1 : Fn P 108 cf_CertainIn1 := fun args v hh => by
  unfold cf_CertainIn1 at hh; split at hh
  · obtain ⟨p, rfl, hh1⟩ := onL_inv dI_inv hh
    obtain ⟨b, rfl, hh2⟩ := onL_inv dL_inv hh1
    split at hh2
    · rename_i hc; have hk := Option.some.inj hh2; subst hk; exact k_CertainIn1 _ _ _ hc
    · cases hh2
  · cases hh
theorem x_CertainIn1 (p : List Int) (k : Int) (b : List L) (hc : (ceB k b ∧ k.toNat < p.length) = True) : cf_CertainIn1 [.vs (p.map eI), .vp [.int .i64 k] 0 0, .vp [.vs (b.map eL)] 0 0] = some (.bool (decide (¬ gk k.toNat p = gk k.toNat (b.headD [])))) := by
  simp only [cf_CertainIn1, onL_map dI_e, onL_map dL_e]
  exact if_pos (by rw [hc]; trivial)
def ifL (k : Nat) (q : L) : Nat → List L → Int
  | _, [] => -1
  | n, p :: r => if ¬ gk k p = gk k q then n else ifL k q (n + 1) r
def neP (k : Nat) (q : L) (l : List L) : Prop := ∃ p ∈ l, ¬ gk k p = gk k q
instance (k : Nat) (q : L) (l : List L) : Decidable (neP k q l) := by unfold neP; infer_instance
theorem ifL_ne (k : Nat) (q : L) : ∀ (l : List L) (n : Nat), decide (0 ≤ ifL k q n l) = decide (neP k q l)
  | [], n => by simp [ifL, neP]
  | p :: r, n => by
    rw [ifL]
    split
    · rename_i h
      have : neP k q (p :: r) := ⟨p, by simp, h⟩
      simp [this]
    · rename_i h
      rw [ifL_ne k q r (n + 1)]
      exact decide_eq_decide.2 ⟨fun ⟨x, hx, hb⟩ => ⟨x, by simp [hx], hb⟩, fun ⟨x, hx, hb⟩ => by
        rcases List.mem_cons.1 hx with rfl | hx
        · exact absurd hb h
        · exact ⟨x, hx, hb⟩⟩
abbrev fnC (k : Int) (b : List L) : AV := .fn 108 [] [.vp [I k] 0 0, .vp [.vs (b.map eL)] 0 0]
def S_iL (l : List L) (k : Int) (b : List L) (n : Nat) : AState := ⟨[.vs (l.map eL), fnC k b, .any, .any, .any, .any, .vs (l.map eL), I l.length, I n, .any, .any, .any, .any, .any, .any, .any, .any, .any, .any], [], 0⟩
theorem k_IndexFuncL (l : List L) (k : Int) (b : List L) (h : ceB k b ∧ l.length ≤ 100000 ∧ ∀ p ∈ l, k.toNat < p.length) : FOk P 142 [.vs (l.map eL), .fn 108 [] [.vp [I k] 0 0, .vp [.vs (b.map eL)] 0 0]] (I (ifL k.toNat (b.headD []) 0 l)) := by
  obtain ⟨hc, hl, hp⟩ := h
  refine c142.fok (by simp only [subs, sub1, free_L]) (Cor.run (addC_good g_CertainIn1 (noC_good _)) (noHx_good _) hm ?_)
  simp +contextual -implicitDefEqProofs (maxSteps := 2000000) only [bg_eq, a142, List.length_map, ruB, rh_no, Int.reduceLT, Int.reduceLE, Int.reduceAdd, Int.reduceSub, Int.reduceMul, Int.reduceNeg, Int.reduceToNat, Int.reduceEq, Int.reduceNe, Int.reduceTDiv, Int.reduceTMod, implies_true, putL, appN, appX, appC, Eng.Fi, reduceCtorEq, exists_eq_left', exists_eq_left, if_true, if_false, List.replicate, Nat.reduceAdd, Nat.reduceSub, Nat.reduceMul, Nat.reduceLeDiff, Nat.reduceLT, Nat.reduceEqDiff]
  refine Cor.lp (addC_good g_CertainIn1 (noC_good _)) (noHx_good _) hm (S_iL l k b) (fun n => n ≤ l.length ∧ ifL k.toNat (b.headD []) 0 l = ifL k.toNat (b.headD []) n (l.drop n)) (fun n => l.length - n) (a := 0) ⟨Nat.zero_le _, rfl⟩ (Wkn.keep [0, 1, 6, 7, 8] rfl) ?_
  intro f n ⟨hn, hf⟩ go
  rcases Nat.lt_or_ge n l.length with h | h
  · have e1 : decide ((n : Int) < (l.length : Int)) = true := lt_t h
    have e2 : (l.map eL)[n]? = some (eL l[n]) := get_e eL l h
    have e3 : IntKind.wrap .i64 ((n : Int) + 1) = ((n + 1 : Nat) : Int) := suc_w (by omega)
    have y := x_CertainIn1 l[n] k b (by simp only [eq_iff_iff, iff_true]; exact ⟨hc, hp l[n] (by simp)⟩)
    rw [List.drop_eq_getElem_cons h, ifL] at hf
    by_cases c1 : gk k.toNat l[n] = gk k.toNat (b.headD [])
    · have c1' := eq_true c1
      rw [if_neg (fun q => q c1)] at hf
      simp +contextual -implicitDefEqProofs (maxSteps := 2000000) only [S_iL, e1, e2, e3, y, c1', not_true_eq_false, ruB, rh_no, Int.reduceLT, Int.reduceLE, Int.reduceAdd, Int.reduceSub, Int.reduceMul, Int.reduceNeg, Int.reduceToNat, Int.reduceEq, Int.reduceNe, Int.reduceTDiv, Int.reduceTMod, implies_true, putL, appN, appX, appC, Eng.Fi, reduceCtorEq, exists_eq_left', exists_eq_left, if_true, if_false, List.replicate, Nat.reduceAdd, Nat.reduceSub, Nat.reduceMul, Nat.reduceLeDiff, Nat.reduceLT, Nat.reduceEqDiff]
      exact go _ (n + 1) ⟨h, hf⟩ (by omega) (Wkn.keep [0, 1, 6, 7, 8] rfl)
    · have c1' := eq_false c1
      rw [if_pos c1] at hf
      rw [hf]
      simp +contextual -implicitDefEqProofs (maxSteps := 2000000) only [S_iL, e1, e2, e3, y, c1', not_false_eq_true, ruB, rh_no, Int.reduceLT, Int.reduceLE, Int.reduceAdd, Int.reduceSub, Int.reduceMul, Int.reduceNeg, Int.reduceToNat, Int.reduceEq, Int.reduceNe, Int.reduceTDiv, Int.reduceTMod, implies_true, putL, appN, appX, appC, Eng.Fi, reduceCtorEq, exists_eq_left', exists_eq_left, if_true, if_false, List.replicate, Nat.reduceAdd, Nat.reduceSub, Nat.reduceMul, Nat.reduceLeDiff, Nat.reduceLT, Nat.reduceEqDiff]
  · have e1 : decide ((n : Int) < (l.length : Int)) = false := lt_f h
    rw [List.drop_eq_nil_of_le h, ifL] at hf
    rw [hf]
    simp +contextual -implicitDefEqProofs (maxSteps := 2000000) only [S_iL, e1, ruB, rh_no, Int.reduceLT, Int.reduceLE, Int.reduceAdd, Int.reduceSub, Int.reduceMul, Int.reduceNeg, Int.reduceToNat, Int.reduceEq, Int.reduceNe, Int.reduceTDiv, Int.reduceTMod, implies_true, putL, appN, appX, appC, Eng.Fi, reduceCtorEq, exists_eq_left', exists_eq_left, if_true, if_false, List.replicate, Nat.reduceAdd, Nat.reduceSub, Nat.reduceMul, Nat.reduceLeDiff, Nat.reduceLT, Nat.reduceEqDiff]
def cf_IndexFuncL : List AV → Option AV
  | [.vs l_v, .fn 108 [] [.vp [.int .i64 k] 0 0, .vp [.vs b_v] 0 0]] => onL dL l_v fun l => onL dL b_v fun b => if ceB k b ∧ l.length ≤ 100000 ∧ ∀ p ∈ l, k.toNat < p.length then some (I (ifL k.toNat (b.headD []) 0 l)) else none
  | _ => none
theorem g_IndexFuncL : Fn P 142 cf_IndexFuncL := fun args v hh => by
  unfold cf_IndexFuncL at hh; split at hh
  · obtain ⟨l, rfl, hh1⟩ := onL_inv dL_inv hh
    obtain ⟨b, rfl, hh2⟩ := onL_inv dL_inv hh1
    split at hh2
    · rename_i hc; have hk := Option.some.inj hh2; subst hk; exact k_IndexFuncL _ _ _ hc
    · cases hh2
  · cases hh
theorem x_IndexFuncL (l : List L) (k : Int) (b : List L) (hc : (ceB k b ∧ l.length ≤ 100000 ∧ ∀ p ∈ l, k.toNat < p.length) = True) : cf_IndexFuncL [.vs (l.map eL), .fn 108 [] [.vp [.int .i64 k] 0 0, .vp [.vs (b.map eL)] 0 0]] = some (I (ifL k.toNat (b.headD []) 0 l)) := by
  simp only [cf_IndexFuncL, onL_map dL_e]
  exact if_pos (by rw [hc]; trivial)
theorem k_ContainsFuncL (l : List L) (k : Int) (b : List L) (h : ceB k b ∧ l.length ≤ 100000 ∧ ∀ p ∈ l, k.toNat < p.length) : FOk P 107 [.vs (l.map eL), .fn 108 [] [.vp [I k] 0 0, .vp [.vs (b.map eL)] 0 0]] (.bool (decide (neP k.toNat (b.headD []) l))) := by
  have y := x_IndexFuncL l k b (by simp only [eq_iff_iff, iff_true]; exact h)
  rw [← ifL_ne k.toNat (b.headD []) l 0]
  refine c107.fok (by simp only [subs, sub1, free_L]) (Cor.run (addC_good g_IndexFuncL (noC_good _)) (noHx_good _) hm ?_)
  simp +contextual -implicitDefEqProofs (maxSteps := 2000000) only [bg_eq, a107, y, ruB, rh_no, Int.reduceLT, Int.reduceLE, Int.reduceAdd, Int.reduceSub, Int.reduceMul, Int.reduceNeg, Int.reduceToNat, Int.reduceEq, Int.reduceNe, Int.reduceTDiv, Int.reduceTMod, implies_true, putL, appN, appX, appC, Eng.Fi, reduceCtorEq, exists_eq_left', exists_eq_left, if_true, if_false, List.replicate, Nat.reduceAdd, Nat.reduceSub, Nat.reduceMul, Nat.reduceLeDiff, Nat.reduceLT, Nat.reduceEqDiff]
def cf_ContainsFuncL : List AV → Option AV
  | [.vs l_v, .fn 108 [] [.vp [.int .i64 k] 0 0, .vp [.vs b_v] 0 0]] => onL dL l_v fun l => onL dL b_v fun b => if ceB k b ∧ l.length ≤ 100000 ∧ ∀ p ∈ l, k.toNat < p.length then some (.bool (decide (neP k.toNat (b.headD []) l))) else none
  | _ => none
theorem g_ContainsFuncL : Fn P 107 cf_ContainsFuncL := fun args v hh => by
  unfold cf_ContainsFuncL at hh; split at hh
  · obtain ⟨l, rfl, hh1⟩ := onL_inv dL_inv hh
    obtain ⟨b, rfl, hh2⟩ := onL_inv dL_inv hh1
    split at hh2
    · rename_i hc; have hk := Option.some.inj hh2; subst hk; exact k_ContainsFuncL _ _ _ hc
    · cases hh2
  · cases hh
theorem x_ContainsFuncL (l : List L) (k : Int) (b : List L) (hc : (ceB k b ∧ l.length ≤ 100000 ∧ ∀ p ∈ l, k.toNat < p.length) = True) : cf_ContainsFuncL [.vs (l.map eL), .fn 108 [] [.vp [.int .i64 k] 0 0, .vp [.vs (b.map eL)] 0 0]] = some (.bool (decide (neP k.toNat (b.headD []) l))) := by
  simp only [cf_ContainsFuncL, onL_map dL_e]
  exact if_pos (by rw [hc]; trivial)
end Wa
