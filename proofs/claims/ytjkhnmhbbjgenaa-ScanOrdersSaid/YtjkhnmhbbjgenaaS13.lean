import Derived.Test.YtjkhnmhbbjgenaaEngS9
import Derived.Test.YtjkhnmhbbjgenaaS12
open Go Go.Proofs Eng
set_option maxRecDepth 100000
set_option linter.unusedSimpArgs false
set_option linter.unusedVariables false
def a57 : AC := .seq (.ops false [] [⟨some 2, .box 42 7 1 true, [.t 0], none⟩, ⟨some 4, .p (.mov), [.c (.nilslice)], none⟩, ⟨some 5, .p (.mov), [.c (.int .i64 0)], none⟩, ⟨some 6, .p (.mov), [.c (.int .i64 0)], none⟩]) (.seq (.ops false [] [⟨some 12, .load 7 true, [.t 2], none⟩, ⟨some 13, .p (.mov), [.t 1], none⟩, ⟨some 14, .call 104, [.t 12, .t 13], none⟩, ⟨some 11, .p (.mov), [.t 14], none⟩, ⟨some 15, .p (.ext 0), [.t 11], none⟩, ⟨some 16, .p (.ext 1), [.t 11], none⟩, ⟨some 7, .alloc 142 8 [.agg [.int .i64 0, .int .i64 0, .int .i64 0, .int .i64 0, .int .i64 0, .int .i64 0, .nilslice, .nilslice]], [], none⟩, ⟨none, .store 8 true, [.t 7, .t 15], none⟩, ⟨some 8, .p (.mov), [.t 16], none⟩]) (.seq (.seq (.ops false [] [⟨some 17, .p (.mov), [.t 8], none⟩, ⟨some 18, .p (.binI .neq), [.t 17, .c (.int .i64 0)], none⟩]) (.cond (.t 18) (.seq (.ops false [] [⟨some 19, .p (.mov), [.t 8], none⟩, ⟨some 4, .p (.mov), [.c (.nilslice)], none⟩, ⟨some 5, .p (.mov), [.c (.int .i64 0)], none⟩, ⟨some 6, .p (.mov), [.t 19], none⟩]) (.ret)) (.skip))) (.seq (.ops false [] [⟨some 9, .alloc 84 1 [.nilslice], [], none⟩]) (.seq (.ops false [] [⟨some 10, .alloc 3 1 [.int .i64 0], [], none⟩, ⟨none, .store 1 false, [.t 10, .c (.int .i64 0)], none⟩]) (.seq (.ops false [] [⟨some 20, .load 8 true, [.t 7], none⟩, ⟨some 21, .p (.mkfn 106 0), [.t 7, .t 9, .t 10], none⟩, ⟨some 22, .call 105, [.t 20, .c (.nilslice), .t 21], none⟩]) (.seq (.ops true [] [⟨some 23, .load 1 false, [.t 9], none⟩, ⟨some 24, .load 1 false, [.t 10], none⟩, ⟨some 25, .load 1 false, [.t 9], none⟩, ⟨some 26, .p (.eqN true .s), [.t 25, .c (.nilslice)], none⟩, ⟨some 27, .call 79, [.t 26, .c (.int .i64 12)], none⟩, ⟨some 4, .p (.mov), [.t 23], none⟩, ⟨some 5, .p (.mov), [.t 24], none⟩, ⟨some 6, .p (.mov), [.t 27], none⟩]) (.ret)))))))
theorem c57 : FnC Try.prog 57 28 a57 [.tmp 4, .tmp 5, .tmp 6] := ⟨Try.call57, _, _, Try.func57, rfl, by kernel_rfl, by kernel_rfl, rfl⟩
namespace Sc
theorem perm_mem {N : Nat} : ∀ (f : Nat) (p : List Int), (∀ k ∈ p, 0 ≤ k ∧ k < N) → p.length + f = N → ∀ q ∈ permG N f p, q.length = N ∧ ∀ k ∈ q, 0 ≤ k ∧ k < N
  | 0, p, h, hl, q, hq => by
    rw [permG, List.mem_singleton] at hq
    subst hq
    exact ⟨by omega, h⟩
  | f + 1, p, h, hl, q, hq => by
    rw [permG] at hq
    obtain ⟨k, hk, hq⟩ := List.mem_flatMap.1 hq
    split at hq
    · simp at hq
    · refine perm_mem f (p ++ [(k : Int)]) (fun z hz => ?_) (by simp only [List.length_append, List.length_cons, List.length_nil]; omega) q hq
      rcases List.mem_append.1 hz with hz | hz
      · exact h z hz
      · rw [List.mem_singleton.1 hz]
        have := List.mem_range.1 hk
        omega
theorem bst_ok {o : Od} {x : Option (List Int × Int)} {p : List Int} (hx : bok x) (hp : p ≠ []) : bok (bst o x p).1 := by
  unfold bst
  cases tcG o 0 o.hd.home p with
  | none => exact hx
  | some t =>
    cases x with
    | none => exact hp
    | some q =>
      obtain ⟨b, u⟩ := q
      simp only
      split
      · exact hp
      · exact hx
theorem bst_run {o : Od} : ∀ (ss : List (List Int)) (x : Option (List Int × Int)), bok x → (∀ p ∈ ss, p ≠ [] ∧ tkB o p) → runGk (bstM o).st (bstM o).lim x ss ∧ bok (runG (bstM o).st x ss).1
  | [], x, hx, _ => ⟨trivial, hx⟩
  | p :: r, x, hx, h => by
    have h1 := h p (by simp)
    have h2 := bst_ok (o := o) hx h1.1
    have ih := bst_run r (bst o x p).1 h2 fun q hq => h q (by simp [hq])
    refine ⟨⟨⟨hx, h1⟩, fun _ => ih.1⟩, ?_⟩
    have hst : (bstM o).st x p = ((bst o x p).1, true) := rfl
    rw [runG, hst]
    exact ih.2
def ooB (o : Od) : Option (List Int × Int) := (permG o.ds.length o.ds.length []).foldl (fun x p => (bst o x p).1) none
theorem runG_bst (o : Od) : ∀ (ss : List (List Int)) (x : Option (List Int × Int)), (runG (bstM o).st x ss).1 = ss.foldl (fun x p => (bst o x p).1) x
  | [], _ => rfl
  | p :: r, x => by
    have hst : (bstM o).st x p = ((bst o x p).1, true) := rfl
    rw [runG, hst, List.foldl_cons]
    exact runG_bst o r _
def ooV (h : Hd) (l : List Dr) : AV := if opE h l = 0 then (match ooB ⟨h, l⟩ with
  | some (p, t) => .tup [.vs (p.map eI), I t, I 0]
  | none => .tup [.vs [], I 0, I 12]) else .tup [.vs [], I 0, I (opE h l)]
theorem uF (e : Int) : unl False e = e := rfl
theorem uT (e : Int) : unl True e = 0 := rfl
def S57 (o : Od) : AState := ⟨[.any, .any, .any, .any, .any, .any, .any, .vp [eOd o] 0 0, .any, .ptr 0 1 0 0, .ptr 1 1 0 0, .any, .any, .any, .any, .any, .any, .any, .any, .any, .any, .any, .any, .any, .any, .any, .any, .any], Jb none, 2⟩
noncomputable def permsH1 (o : Od) : List AV → List HEnt → Nat → Option (AV × List HEnt × Nat)
  | [a, .nilslice, b], H, nx => permsH (bstM o) o.ds.length [a, .vs [], b] H nx
  | _, _, _ => none
theorem h_perms1 (o : Od) : Hn P 105 (permsH1 o) := fun args H nx v hp' nx' h => by
  unfold permsH1 at h
  split at h
  · exact LOk.nil1 (h_perms (bstM o) o.ds.length _ _ _ _ _ _ h)
  · cases h
theorem k_OrderOfF (h : Hd) (l : List Dr) (hhl : h.res.length ≤ 1099511627776 ∧ l.length ≤ 1099511627776) : FOk P 57 [eHd h, .vs (l.map eDr)] (ooV h l) := by
  have y := x_openOrder h l (by simp only [hhl, and_self])
  by_cases h0 : opE h l = 0
  · have hv : ooV h l = (match ooB ⟨h, l⟩ with
      | some (p, t) => .tup [.vs (p.map eI), I t, I 0]
      | none => .tup [.vs [], I 0, I 12]) := if_pos h0
    rw [hv]
    obtain ⟨hod, hpos⟩ := opE_z h0
    have hps : ∀ p ∈ permG l.length l.length [], p ≠ [] ∧ tkB ⟨h, l⟩ p := by
      intro p hp
      obtain ⟨h1, h2⟩ := perm_mem l.length [] (by simp) (by simp) p hp
      refine ⟨fun e => ?_, hod, ?_, h2⟩
      · rw [e] at h1; simp at h1; omega
      · have := hod.1.2
        simp only at this
        omega
    obtain ⟨hr1, hr2⟩ := bst_run (o := ⟨h, l⟩) (permG l.length l.length []) none trivial hps
    have yp : permsH1 ⟨h, l⟩ [eOd ⟨h, l⟩, .nilslice, .fn 106 [] [.vp [eOd ⟨h, l⟩] 0 0, .ptr 0 1 0 0, .ptr 1 1 0 0]] (Jb none) 2 = some (.bool (runG (bstM ⟨h, l⟩).st none (permG l.length l.length [])).2, Jb (ooB ⟨h, l⟩), 2) :=
      by
      have := permsH_e (bstM ⟨h, l⟩) l.length ⟨h, l⟩ [] none hod.1.2 (by simp) hr1
      rw [runG_bst] at this
      exact this
    rw [runG_bst] at hr2
    change bok (ooB ⟨h, l⟩) at hr2
    generalize (runG (bstM ⟨h, l⟩).st none (permG l.length l.length [])).2 = bb at *
    generalize hob : ooB ⟨h, l⟩ = ob at *
    have hg := addH_good (h_perms1 ⟨h, l⟩) (noHx_good P)
    refine c57.fok (y := YH P (addH 105 (permsH1 ⟨h, l⟩) noHx)) (by simp only [free_Hs, subs, sub1, free_Se, free_Dr]) ?_ (fun G => YH_add (by decide) (YH_no _ G))
    rw [bg_eq]
    refine Cor.seq (Cor.run (noC_good _) hg hm ?_)
    simp +contextual -implicitDefEqProofs (maxSteps := 2000000) only [eThen_normal, ruH, ruB, Int.reduceLT, Int.reduceLE, Int.reduceAdd, Int.reduceSub, Int.reduceMul, Int.reduceNeg, Int.reduceToNat, Int.reduceEq, Int.reduceNe, Int.reduceTDiv, Int.reduceTMod, implies_true, putL, appN, appX, appC, Eng.Fi, reduceCtorEq, exists_eq_left', exists_eq_left, if_true, if_false, List.replicate, Nat.reduceAdd, Nat.reduceSub, Nat.reduceMul, Nat.reduceLeDiff, Nat.reduceLT, Nat.reduceEqDiff]
    refine Cor.seq (Cor.run (addC_good g_openOrder (noC_good _)) hg hm ?_)
    simp +contextual -implicitDefEqProofs (maxSteps := 2000000) only [y, eThen_normal, free_Se, free_Dr, ruH, ruB, Int.reduceLT, Int.reduceLE, Int.reduceAdd, Int.reduceSub, Int.reduceMul, Int.reduceNeg, Int.reduceToNat, Int.reduceEq, Int.reduceNe, Int.reduceTDiv, Int.reduceTMod, implies_true, putL, appN, appX, appC, Eng.Fi, reduceCtorEq, exists_eq_left', exists_eq_left, if_true, if_false, List.replicate, Nat.reduceAdd, Nat.reduceSub, Nat.reduceMul, Nat.reduceLeDiff, Nat.reduceLT, Nat.reduceEqDiff]
    refine Cor.seq (Cor.run (noC_good _) hg hm ?_)
    simp +contextual -implicitDefEqProofs (maxSteps := 2000000) only [h0, eThen_normal, ruH, ruB, Int.reduceLT, Int.reduceLE, Int.reduceAdd, Int.reduceSub, Int.reduceMul, Int.reduceNeg, Int.reduceToNat, Int.reduceEq, Int.reduceNe, Int.reduceTDiv, Int.reduceTMod, implies_true, putL, appN, appX, appC, Eng.Fi, reduceCtorEq, exists_eq_left', exists_eq_left, if_true, if_false, List.replicate, Nat.reduceAdd, Nat.reduceSub, Nat.reduceMul, Nat.reduceLeDiff, Nat.reduceLT, Nat.reduceEqDiff]
    refine Cor.seq (Cor.run (noC_good _) hg hm ?_)
    simp +contextual -implicitDefEqProofs (maxSteps := 2000000) only [eThen_normal, ruH, ruB, Int.reduceLT, Int.reduceLE, Int.reduceAdd, Int.reduceSub, Int.reduceMul, Int.reduceNeg, Int.reduceToNat, Int.reduceEq, Int.reduceNe, Int.reduceTDiv, Int.reduceTMod, implies_true, putL, appN, appX, appC, Eng.Fi, reduceCtorEq, exists_eq_left', exists_eq_left, if_true, if_false, List.replicate, Nat.reduceAdd, Nat.reduceSub, Nat.reduceMul, Nat.reduceLeDiff, Nat.reduceLT, Nat.reduceEqDiff]
    refine Cor.seq (Cor.run (noC_good _) hg hm ?_)
    simp +contextual -implicitDefEqProofs (maxSteps := 2000000) only [eThen_normal, ruH, ruB, Int.reduceLT, Int.reduceLE, Int.reduceAdd, Int.reduceSub, Int.reduceMul, Int.reduceNeg, Int.reduceToNat, Int.reduceEq, Int.reduceNe, Int.reduceTDiv, Int.reduceTMod, implies_true, putL, appN, appX, appC, Eng.Fi, reduceCtorEq, exists_eq_left', exists_eq_left, if_true, if_false, List.replicate, Nat.reduceAdd, Nat.reduceSub, Nat.reduceMul, Nat.reduceLeDiff, Nat.reduceLT, Nat.reduceEqDiff]
    refine Cor.wk (s2 := S57 ⟨h, l⟩) (Wkn.to ⟨0, [(3, 0), (4, 1)], [1], 2, [7, 9, 10]⟩ rfl rfl (by simp [Wk.st, keepT, memN, Wk.fate, Wk.fate0, assoc, getE, Wk.hp, ABlk.sub, sub1, subs, free_Se, free_Dr, S57, Jb])) ?_
    refine Cor.run (addC_good g_unless (noC_good _)) hg hm ?_
    cases ob with
    | none =>
      simp only [Jb] at yp
      simp +contextual -implicitDefEqProofs (maxSteps := 2000000) only [S57, yp, Jb, x_unlessN, x_unlessB, en_nn, en_vs, uF, uT, ruH, ruB, Int.reduceLT, Int.reduceLE, Int.reduceAdd, Int.reduceSub, Int.reduceMul, Int.reduceNeg, Int.reduceToNat, Int.reduceEq, Int.reduceNe, Int.reduceTDiv, Int.reduceTMod, implies_true, putL, appN, appX, appC, Eng.Fi, reduceCtorEq, exists_eq_left', exists_eq_left, if_true, if_false, List.replicate, Nat.reduceAdd, Nat.reduceSub, Nat.reduceMul, Nat.reduceLeDiff, Nat.reduceLT, Nat.reduceEqDiff]
    | some q =>
      obtain ⟨b, t⟩ := q
      cases b with
      | nil => exact absurd rfl hr2
      | cons b0 br =>
        simp only [Jb, List.map_cons] at yp
        simp +contextual -implicitDefEqProofs (maxSteps := 2000000) only [S57, yp, Jb, x_unlessN, x_unlessB, en_nn, en_vs, List.map_cons, uF, uT, free_I, ruH, ruB, Int.reduceLT, Int.reduceLE, Int.reduceAdd, Int.reduceSub, Int.reduceMul, Int.reduceNeg, Int.reduceToNat, Int.reduceEq, Int.reduceNe, Int.reduceTDiv, Int.reduceTMod, implies_true, putL, appN, appX, appC, Eng.Fi, reduceCtorEq, exists_eq_left', exists_eq_left, if_true, if_false, List.replicate, Nat.reduceAdd, Nat.reduceSub, Nat.reduceMul, Nat.reduceLeDiff, Nat.reduceLT, Nat.reduceEqDiff]
  · have hv : ooV h l = .tup [.vs [], I 0, I (opE h l)] := if_neg h0
    rw [hv]
    refine c57.fok (by simp only [free_Hs, subs, sub1, free_Se, free_Dr]) (Cor.run (addC_good g_openOrder (noC_good _)) (noHx_good _) hm ?_)
    simp +contextual -implicitDefEqProofs (maxSteps := 2000000) only [bg_eq, a57, y, h0, not_false_eq_true, free_Se, free_Dr, ruB, rh_no, Int.reduceLT, Int.reduceLE, Int.reduceAdd, Int.reduceSub, Int.reduceMul, Int.reduceNeg, Int.reduceToNat, Int.reduceEq, Int.reduceNe, Int.reduceTDiv, Int.reduceTMod, implies_true, putL, appN, appX, appC, Eng.Fi, reduceCtorEq, exists_eq_left', exists_eq_left, if_true, if_false, List.replicate, Nat.reduceAdd, Nat.reduceSub, Nat.reduceMul, Nat.reduceLeDiff, Nat.reduceLT, Nat.reduceEqDiff]
def cf_OrderOfF : List AV → Option AV
  | [h_v, .vs l_v] => onH h_v fun h => onL dDr l_v fun l => if h.res.length ≤ 1099511627776 ∧ l.length ≤ 1099511627776 then some (ooV h l) else none
  | _ => none
theorem g_OrderOfF : Fn P 57 cf_OrderOfF := fun args v hh => by
  unfold cf_OrderOfF at hh; split at hh
  · obtain ⟨h, rfl, hh1⟩ := onH_inv hh
    obtain ⟨l, rfl, hh2⟩ := onL_inv dDr_inv hh1
    split at hh2
    · rename_i hc; have hk := Option.some.inj hh2; subst hk; exact k_OrderOfF _ _ hc
    · cases hh2
  · cases hh
theorem x_OrderOfF (h : Hd) (l : List Dr) (hc : (h.res.length ≤ 1099511627776 ∧ l.length ≤ 1099511627776) = True) : cf_OrderOfF [eHd h, .vs (l.map eDr)] = some (ooV h l) := by
  simp only [cf_OrderOfF, onH_e, onL_map dDr_e]
  exact if_pos (by rw [hc]; trivial)
end Sc
