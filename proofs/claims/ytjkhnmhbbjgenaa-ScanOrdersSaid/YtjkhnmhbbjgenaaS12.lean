import Derived.Test.YtjkhnmhbbjgenaaEngS9
import Derived.Test.YtjkhnmhbbjgenaaS11
open Go Go.Proofs Eng
set_option maxRecDepth 100000
set_option linter.unusedSimpArgs false
set_option linter.unusedVariables false
def a106 : AC := .seq (.ops false [] [⟨some 5, .p (.mov), [.c (.bool false)], none⟩]) (.seq (.seq (.ops false [] [⟨some 9, .load 8 true, [.t 1], none⟩, ⟨some 10, .p (.mov), [.t 0], none⟩, ⟨some 11, .call 107, [.t 9, .t 10], none⟩, ⟨some 8, .p (.mov), [.t 11], none⟩, ⟨some 12, .p (.ext 0), [.t 8], none⟩, ⟨some 13, .p (.ext 1), [.t 8], none⟩, ⟨some 6, .p (.mov), [.t 12], none⟩, ⟨some 7, .p (.mov), [.t 13], none⟩]) (.seq (.ops false [] [⟨some 14, .p (.mov), [.t 7], none⟩, ⟨some 15, .p (.mov), [.t 14], none⟩, ⟨some 16, .load 1 false, [.t 2], some (15, true)⟩, ⟨some 17, .p (.eqN false .s), [.t 16, .c (.nilslice)], some (15, true)⟩, ⟨some 18, .p (.mov), [.t 17], some (15, true)⟩, ⟨some 19, .p (.mov), [.t 6], some (18, false)⟩, ⟨some 20, .load 1 false, [.t 3], some (18, false)⟩, ⟨some 21, .p (.binI .lss), [.t 19, .t 20], some (18, false)⟩, ⟨some 22, .p (.pick), [.t 18, .c (.bool true), .t 21], some (15, true)⟩, ⟨some 23, .p (.pick), [.t 15, .t 22, .c (.bool false)], none⟩]) (.cond (.t 23) (.ops false [] [⟨some 24, .p (.mov), [.t 0], none⟩, ⟨some 25, .call 108, [.t 24], none⟩, ⟨some 26, .p (.mov), [.t 6], none⟩, ⟨none, .store 1 false, [.t 2, .t 25], none⟩, ⟨none, .store 1 false, [.t 3, .t 26], none⟩]) (.skip)))) (.seq (.ops false [] [⟨some 5, .p (.mov), [.c (.bool true)], none⟩]) (.ret)))
theorem c106 : FnC Try.prog 106 27 a106 [.tmp 5] := ⟨Try.call106, _, _, Try.func106, rfl, by kernel_rfl, by kernel_rfl, rfl⟩
namespace Sc
noncomputable def cf_ticks : List AV → Option AV
  | [o_v, .vs l_v] => onOd o_v fun o => onL dI l_v fun l => if tkB o l then some (tcV (tcG o 0 o.hd.home l)) else none
  | _ => none
theorem g_ticks : Fn P 107 cf_ticks := fun args v hh => by
  unfold cf_ticks at hh; split at hh
  · obtain ⟨o, rfl, hh1⟩ := onOd_inv hh
    obtain ⟨l, rfl, hh2⟩ := onL_inv dI_inv hh1
    split at hh2
    · rename_i hc; have hk := Option.some.inj hh2; subst hk; exact k_ticks _ _ hc
    · cases hh2
  · cases hh
theorem x_ticks (o : Od) (l : List Int) (hc : (tkB o l) = True) : cf_ticks [eOd o, .vs (l.map eI)] = some (tcV (tcG o 0 o.hd.home l)) := by
  simp only [cf_ticks, onL_map dI_e, onOd_e]
  exact if_pos (by rw [hc]; trivial)
/-- the best order till now -/
def Jb : Option (List Int × Int) → List HEnt
  | none => [⟨1, 1, .rows 3 1 [I 0]⟩, ⟨0, 0, .rows 84 1 [.nilslice]⟩]
  | some (p, t) => [⟨1, 1, .rows 3 1 [I t]⟩, ⟨0, 0, .rows 84 1 [.vs (p.map eI)]⟩]
def bst (o : Od) (x : Option (List Int × Int)) (p : List Int) : Option (List Int × Int) × Bool := match tcG o 0 o.hd.home p with
  | none => (x, true)
  | some t => match x with
    | none => (some (p, t), true)
    | some (b, u) => if t < u then (some (p, t), true) else (some (b, u), true)
/-- the best one till now is no empty one -/
def bok : Option (List Int × Int) → Prop
  | none => True
  | some (b, _) => b ≠ []
theorem en_nn : eqNV .s .nilslice .nilslice = some true := rfl
theorem wr_v (l m : List AV) : wrC [.vs l] 0 0 (.vs m) (some (.vs l)) = some [.vs m] := by simp [wrC, AV.isAgg, AV.sc]
theorem wr_n (m : List AV) : wrC [.nilslice] 0 0 (.vs m) (some .nilslice) = some [.vs m] := by simp [wrC]
theorem l_OrderOf1 (o : Od) (p : List Int) (x : Option (List Int × Int)) (hb : bok x) (hp : p ≠ []) (hk : tkB o p) : LOk P 106 [.vs (p.map eI), .vp [eOd o] 0 0, .ptr 0 1 0 0, .ptr 1 1 0 0] (Jb x) 2 (.bool true) (Jb (bst o x p).1) 2 := by
  have yt := x_ticks o p (by simp only [hk])
  have hl : p.length ≤ 1000 := by have := hk.2.1; omega
  have yc := x_CloneI p (by simp only [eq_iff_iff, iff_true]; exact ⟨hp, hl⟩)
  refine c106.lok (Cor.post (Cor.run (addC_good g_CloneI (addC_good g_ticks (noC_good _))) (noHx_good _) hm ?_))
  unfold bst
  cases ht : tcG o 0 o.hd.home p with
  | none =>
    rw [ht] at yt
    simp only [tcV] at yt
    cases x with
    | none =>
      simp +contextual -implicitDefEqProofs (maxSteps := 2000000) only [bg_eq, a106, yt, FinL, Jb, ruB, rh_no, Int.reduceLT, Int.reduceLE, Int.reduceAdd, Int.reduceSub, Int.reduceMul, Int.reduceNeg, Int.reduceToNat, Int.reduceEq, Int.reduceNe, Int.reduceTDiv, Int.reduceTMod, implies_true, putL, appN, appX, appC, Eng.Fi, reduceCtorEq, exists_eq_left', exists_eq_left, if_true, if_false, List.replicate, Nat.reduceAdd, Nat.reduceSub, Nat.reduceMul, Nat.reduceLeDiff, Nat.reduceLT, Nat.reduceEqDiff]
      exact ⟨_, Wkn.to ⟨2, [], [], 2, [5]⟩ rfl rfl (by simp [Wk.st, keepT, memN, Wk.fate, Wk.fate0, assoc, getE, Wk.hp, ABlk.sub, sub1, subs, free_I]; rfl), _, rfl, rfl, rfl, rfl⟩
    | some q =>
      simp +contextual -implicitDefEqProofs (maxSteps := 2000000) only [bg_eq, a106, yt, FinL, Jb, ruB, rh_no, Int.reduceLT, Int.reduceLE, Int.reduceAdd, Int.reduceSub, Int.reduceMul, Int.reduceNeg, Int.reduceToNat, Int.reduceEq, Int.reduceNe, Int.reduceTDiv, Int.reduceTMod, implies_true, putL, appN, appX, appC, Eng.Fi, reduceCtorEq, exists_eq_left', exists_eq_left, if_true, if_false, List.replicate, Nat.reduceAdd, Nat.reduceSub, Nat.reduceMul, Nat.reduceLeDiff, Nat.reduceLT, Nat.reduceEqDiff]
      exact ⟨_, Wkn.to ⟨2, [], [], 2, [5]⟩ rfl rfl (by simp [Wk.st, keepT, memN, Wk.fate, Wk.fate0, assoc, getE, Wk.hp, ABlk.sub, sub1, subs, free_I]; rfl), _, rfl, rfl, rfl, rfl⟩
  | some t =>
    rw [ht] at yt
    simp only [tcV] at yt
    cases x with
    | none =>
      simp +contextual -implicitDefEqProofs (maxSteps := 2000000) only [bg_eq, a106, yt, yc, FinL, Jb, free_I, en_nn, wr_v, wr_n, ruB, rh_no, Int.reduceLT, Int.reduceLE, Int.reduceAdd, Int.reduceSub, Int.reduceMul, Int.reduceNeg, Int.reduceToNat, Int.reduceEq, Int.reduceNe, Int.reduceTDiv, Int.reduceTMod, implies_true, putL, appN, appX, appC, Eng.Fi, reduceCtorEq, exists_eq_left', exists_eq_left, if_true, if_false, List.replicate, Nat.reduceAdd, Nat.reduceSub, Nat.reduceMul, Nat.reduceLeDiff, Nat.reduceLT, Nat.reduceEqDiff]
      exact ⟨_, Wkn.to ⟨2, [], [], 2, [5]⟩ rfl rfl (by simp [Wk.st, keepT, memN, Wk.fate, Wk.fate0, assoc, getE, Wk.hp, ABlk.sub, sub1, subs, free_I]; rfl), _, rfl, rfl, rfl, rfl⟩
    | some q =>
      obtain ⟨b, u⟩ := q
      cases b with
      | nil => exact absurd rfl hb
      | cons b0 br =>
        by_cases hlt : t < u
        · simp +contextual -implicitDefEqProofs (maxSteps := 2000000) only [bg_eq, a106, yt, yc, FinL, Jb, free_I, List.map_cons, en_vs, hlt, wr_v, ruB, rh_no, Int.reduceLT, Int.reduceLE, Int.reduceAdd, Int.reduceSub, Int.reduceMul, Int.reduceNeg, Int.reduceToNat, Int.reduceEq, Int.reduceNe, Int.reduceTDiv, Int.reduceTMod, implies_true, putL, appN, appX, appC, Eng.Fi, reduceCtorEq, exists_eq_left', exists_eq_left, if_true, if_false, List.replicate, Nat.reduceAdd, Nat.reduceSub, Nat.reduceMul, Nat.reduceLeDiff, Nat.reduceLT, Nat.reduceEqDiff]
          exact ⟨_, Wkn.to ⟨2, [], [], 2, [5]⟩ rfl rfl (by simp [Wk.st, keepT, memN, Wk.fate, Wk.fate0, assoc, getE, Wk.hp, ABlk.sub, sub1, subs, free_I]; rfl), _, rfl, rfl, rfl, rfl⟩
        · simp +contextual -implicitDefEqProofs (maxSteps := 2000000) only [bg_eq, a106, yt, yc, FinL, Jb, free_I, List.map_cons, en_vs, hlt, wr_v, ruB, rh_no, Int.reduceLT, Int.reduceLE, Int.reduceAdd, Int.reduceSub, Int.reduceMul, Int.reduceNeg, Int.reduceToNat, Int.reduceEq, Int.reduceNe, Int.reduceTDiv, Int.reduceTMod, implies_true, putL, appN, appX, appC, Eng.Fi, reduceCtorEq, exists_eq_left', exists_eq_left, if_true, if_false, List.replicate, Nat.reduceAdd, Nat.reduceSub, Nat.reduceMul, Nat.reduceLeDiff, Nat.reduceLT, Nat.reduceEqDiff]
          exact ⟨_, Wkn.to ⟨2, [], [], 2, [5]⟩ rfl rfl (by simp [Wk.st, keepT, memN, Wk.fate, Wk.fate0, assoc, getE, Wk.hp, ABlk.sub, sub1, subs, free_I]; rfl), _, rfl, rfl, rfl, rfl⟩
theorem Jb_inj : ∀ (a b : Option (List Int × Int)), Jb a = Jb b → a = b
  | none, none, _ => rfl
  | none, some (p, t), h => by simp [Jb] at h
  | some (p, t), none, h => by simp [Jb] at h
  | some (p, t), some (q, u), h => by
    simp only [Jb, List.cons.injEq, HEnt.mk.injEq, ABlk.rows.injEq, AV.int.injEq, AV.vs.injEq, true_and, and_true] at h
    rw [h.1, map_inj (e := eI) (fun a b hab => by simpa using hab) _ _ h.2]
section
open Classical
noncomputable def bstH (o : Od) : List AV → List HEnt → Nat → Option (AV × List HEnt × Nat) := fun args H nx =>
  if h : ∃ q : List Int × Option (List Int × Int), args = [.vs (q.1.map eI), .vp [eOd o] 0 0, .ptr 0 1 0 0, .ptr 1 1 0 0] ∧ H = Jb q.2 ∧ nx = 2 ∧ (bok q.2 ∧ q.1 ≠ [] ∧ tkB o q.1) then
    some (.bool true, Jb (bst o (Classical.choose h).2 (Classical.choose h).1).1, 2) else none
theorem bstH_e (o : Od) (p : List Int) (x : Option (List Int × Int)) (h1 : bok x ∧ p ≠ [] ∧ tkB o p) :
    bstH o [.vs (p.map eI), .vp [eOd o] 0 0, .ptr 0 1 0 0, .ptr 1 1 0 0] (Jb x) 2 = some (.bool true, Jb (bst o x p).1, 2) := by
  have h : ∃ q : List Int × Option (List Int × Int), [AV.vs (p.map eI), .vp [eOd o] 0 0, .ptr 0 1 0 0, .ptr 1 1 0 0] = [.vs (q.1.map eI), .vp [eOd o] 0 0, .ptr 0 1 0 0, .ptr 1 1 0 0] ∧ Jb x = Jb q.2 ∧ 2 = 2 ∧ (bok q.2 ∧ q.1 ≠ [] ∧ tkB o q.1) := ⟨(p, x), rfl, rfl, rfl, h1⟩
  unfold bstH
  rw [dif_pos h]
  have hs := Classical.choose_spec h
  have e1 : (Classical.choose h).2 = x := (Jb_inj _ _ hs.2.1).symm
  have e2 : (Classical.choose h).1 = p := (map_inj (e := eI) (fun a b hab => by simpa using hab) _ _ (AV.vs.inj (List.cons.inj hs.1).1)).symm
  rw [e1, e2]
theorem h_bst (o : Od) : Hn P 106 (bstH o) := fun args H nx v hp' nx' h => by
  unfold bstH at h
  split at h
  · rename_i hc
    have hs := Classical.choose_spec hc
    cases h
    generalize Classical.choose hc = q at hs ⊢
    obtain ⟨h1, h2, h3, h4, h5, h6⟩ := hs
    subst h1 h2 h3
    exact l_OrderOf1 o _ _ h4 h5 h6
  · cases h
end
noncomputable def bstM (o : Od) : MachP (Option (List Int × Int)) where
  f := 106
  first := []
  cap := [.vp [eOd o] 0 0, .ptr 0 1 0 0, .ptr 1 1 0 0]
  J := Jb
  nx := fun _ => 2
  st := fun x p => ((bst o x p).1, true)
  hy := bstH o
  hn := h_bst o
  lim := fun x p => bok x ∧ p ≠ [] ∧ tkB o p
  hyE := fun x p h => bstH_e o p x h
  mono := fun _ _ _ => Nat.le_refl _
  low := fun x e he => by
    cases x with
    | none =>
      simp only [Jb, List.mem_cons, List.not_mem_nil, or_false] at he
      rcases he with rfl | rfl <;> exact ⟨⟨by simp, by simp⟩, fun φ _ => rfl⟩
    | some q =>
      obtain ⟨p, t⟩ := q
      simp only [Jb, List.mem_cons, List.not_mem_nil, or_false] at he
      rcases he with rfl | rfl
      · exact ⟨⟨by simp, by simp⟩, fun φ _ => rfl⟩
      · exact ⟨⟨by simp, by simp⟩, fun φ _ => by simp only [ABlk.sub, subs, sub1, free_I]⟩
  sub := fun _ φ h => ⟨rfl, by simp only [subs, sub1, h 0 (by decide), h 1 (by decide), free_Se, free_Dr]⟩
  inj := Jb_inj
  ne := by decide
  ne2 := by decide
end Sc
