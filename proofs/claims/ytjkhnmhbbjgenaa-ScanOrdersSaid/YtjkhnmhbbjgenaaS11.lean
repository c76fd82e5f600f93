import Derived.Test.YtjkhnmhbbjgenaaEngS9
import Derived.Test.YtjkhnmhbbjgenaaS10
open Go Go.Proofs Eng
set_option maxRecDepth 100000
set_option linter.unusedSimpArgs false
set_option linter.unusedVariables false
def a105 : AC := .seq (.ops false [] [⟨some 3, .box 142 8 1 true, [.t 0], none⟩, ⟨some 6, .p (.mov), [.c (.bool false)], none⟩]) (.seq (.seq (.ops false [] [⟨some 8, .p (.mov), [.t 1], none⟩, ⟨some 9, .p (.lenS), [.t 8], none⟩, ⟨some 10, .p (.faddr 7), [.t 3], none⟩, ⟨some 11, .load 1 false, [.t 10], none⟩, ⟨some 12, .p (.lenS), [.t 11], none⟩, ⟨some 13, .p (.binI .eql), [.t 9, .t 12], none⟩]) (.cond (.t 13) (.seq (.ops false [] [⟨some 14, .p (.mov), [.t 2], none⟩, ⟨some 15, .p (.mov), [.t 1], none⟩, ⟨some 16, .callv, [.t 14, .t 15], none⟩, ⟨some 6, .p (.mov), [.t 16], none⟩]) (.ret)) (.skip))) (.seq (.seq (.ops false [] [⟨some 17, .p (.faddr 7), [.t 3], none⟩, ⟨some 18, .load 1 false, [.t 17], none⟩, ⟨some 19, .p (.lenS), [.t 18], none⟩, ⟨some 20, .p (.mov), [.c (.int .i64 0)], none⟩]) (.block 0 (.loop (.seq (.ops false [] [⟨some 21, .p (.binI .lss), [.t 20, .t 19], none⟩]) (.seq (.cond (.t 21) (.skip) (.exit 0)) (.seq (.block 1 (.seq (.ops false [] [⟨some 22, .p (.mov), [.t 20], none⟩, ⟨some 7, .p (.mov), [.t 22], none⟩]) (.seq (.ops true [(5, 10)] [⟨some 23, .p (.mov), [.t 1], none⟩, ⟨some 24, .p (.mov), [.t 7], none⟩, ⟨some 25, .call 109, [.t 23, .t 24], none⟩, ⟨some 26, .p (.notB), [.t 25], none⟩, ⟨some 27, .p (.mov), [.t 26], none⟩, ⟨some 28, .load 8 true, [.t 3], some (27, true)⟩, ⟨some 29, .p (.mov), [.t 1], some (27, true)⟩, ⟨some 30, .call 127, [.t 29], some (27, true)⟩, ⟨some 31, .p (.mov), [.t 7], some (27, true)⟩, ⟨some 32, .fbs 1, [.t 31], some (27, true)⟩, ⟨some 33, .app 3 1 8, [.t 30, .t 32], some (27, true)⟩, ⟨some 34, .p (.mov), [.t 2], some (27, true)⟩, ⟨some 35, .call 105, [.t 28, .t 33, .t 34], some (27, true)⟩, ⟨some 36, .p (.notB), [.t 35], some (27, true)⟩, ⟨some 37, .p (.pick), [.t 27, .t 36, .c (.bool false)], none⟩]) (.cond (.t 37) (.seq (.ops false [] [⟨some 6, .p (.mov), [.c (.bool false)], none⟩]) (.ret)) (.skip))))) (.ops false [] [⟨some 38, .p (.binI .add), [.t 20, .c (.int .i64 1)], none⟩, ⟨some 20, .p (.mov), [.t 38], none⟩]))))))) (.seq (.ops false [] [⟨some 6, .p (.mov), [.c (.bool true)], none⟩]) (.ret))))
theorem c105 : FnC Try.prog 105 39 a105 [.tmp 6] := ⟨Try.call105, _, _, Try.func105, rfl, by kernel_rfl, by kernel_rfl, rfl⟩
namespace Sc
def runG {γ β : Type} (st : γ → β → γ × Bool) : γ → List β → γ × Bool
  | x, [] => (x, true)
  | x, s :: r => if (st x s).2 then runG st (st x s).1 r else ((st x s).1, false)
theorem runG_app {γ β : Type} (st : γ → β → γ × Bool) : ∀ (a b : List β) (x : γ), runG st x (a ++ b) = if (runG st x a).2 then runG st (runG st x a).1 b else runG st x a
  | [], b, x => by simp [runG]
  | s :: a, b, x => by
    rw [List.cons_append, runG, runG]
    cases h : (st x s).2 with
    | true => simp only [if_true]; exact runG_app st a b _
    | false => simp
def runGk {γ β : Type} (st : γ → β → γ × Bool) (lim : γ → β → Prop) : γ → List β → Prop
  | _, [] => True
  | x, s :: r => lim x s ∧ ((st x s).2 = true → runGk st lim (st x s).1 r)
theorem runGk_app {γ β : Type} {st : γ → β → γ × Bool} {lim : γ → β → Prop} : ∀ {a b : List β} {x : γ}, runGk st lim x (a ++ b) → runGk st lim x a ∧ ((runG st x a).2 = true → runGk st lim (runG st x a).1 b)
  | [], b, x, h => ⟨trivial, fun _ => h⟩
  | s :: a, b, x, h => by
    obtain ⟨h1, h2⟩ := h
    refine ⟨⟨h1, fun hc => (runGk_app (h2 hc)).1⟩, fun hc => ?_⟩
    rw [runG] at hc ⊢
    split at hc
    · rename_i hb; rw [if_pos hb]; exact (runGk_app (h2 hb)).2 hc
    · cases hc
/-- all orders that begin with p, f longer -/
def permG (N : Nat) : Nat → List Int → List (List Int)
  | 0, p => [p]
  | f + 1, p => (List.range N).flatMap fun (k : Nat) => if ((k : Nat) : Int) ∈ p then [] else permG N f (p ++ [((k : Nat) : Int)])
def permO (N f : Nat) (p : List Int) (k : Nat) : List (List Int) := if ((k : Nat) : Int) ∈ p then [] else permG N f (p ++ [((k : Nat) : Int)])
def permD (N f : Nat) (p : List Int) (k : Nat) : List (List Int) := ((List.range N).drop k).flatMap (permO N f p)
theorem permD_0 (N f : Nat) (p : List Int) : permG N (f + 1) p = permD N f p 0 := rfl
theorem permD_c {N f k : Nat} {p : List Int} (h : k < N) : permD N f p k = permO N f p k ++ permD N f p (k + 1) := by
  unfold permD
  rw [List.drop_eq_getElem_cons (by simpa using h), List.flatMap_cons, List.getElem_range]
theorem permD_n {N f k : Nat} {p : List Int} (h : N ≤ k) : permD N f p k = [] := by
  unfold permD
  rw [List.drop_eq_nil_of_le (by simpa using h)]; rfl
/-- a consumer of orders -/
structure MachP (γ : Type) where
  f : Nat
  first : List AV
  cap : List AV
  J : γ → List HEnt
  nx : γ → Nat
  st : γ → List Int → γ × Bool
  hy : List AV → List HEnt → Nat → Option (AV × List HEnt × Nat)
  hn : Hn P f hy
  lim : γ → List Int → Prop
  hyE : ∀ x p, lim x p → hy (first ++ [.vs (p.map eI)] ++ cap) (J x) (nx x) = some (.bool (st x p).2, J (st x p).1, nx (st x p).1)
  mono : ∀ x p, lim x p → nx x ≤ nx (st x p).1
  low : ∀ x, Low (nx x) (J x)
  sub : ∀ x, ∀ φ : Nat → Fate, (∀ t, t < nx x → φ t = .as t) → subs φ first = first ∧ subs φ cap = cap
  inj : ∀ a b, J a = J b → a = b
  ne : (f = 987654321) = False
  ne2 : (105 = f) = False
theorem runG_mono {γ : Type} (M : MachP γ) : ∀ {ss : List (List Int)} {x : γ}, runGk M.st M.lim x ss → M.nx x ≤ M.nx (runG M.st x ss).1
  | [], x, _ => Nat.le_refl _
  | s :: r, x, h => by
    obtain ⟨h1, h2⟩ := h
    have h3 := M.mono x s h1
    rw [runG]
    split
    · rename_i hb; exact Nat.le_trans h3 (runG_mono M (h2 hb))
    · exact h3
abbrev MachP.fv {γ : Type} (M : MachP γ) : AV := .fn M.f M.first M.cap
def S105 {γ : Type} (M : MachP γ) (o : Od) (p : List Int) (x : γ) : AState := ⟨[.any, .vs (p.map eI), .fn M.f M.first M.cap, .vp [eOd o] 0 0, .any, .any, .any, .any, .any, .any, .any, .any, .any, .any, .any, .any, .any, .any, .any, .any, .any, .any, .any, .any, .any, .any, .any, .any, .any, .any, .any, .any, .any, .any, .any, .any, .any, .any, .any], M.J x, M.nx x⟩
def S105l {γ : Type} (M : MachP γ) (o : Od) (p : List Int) (q : Nat × γ) : AState := ⟨[.any, .vs (p.map eI), .fn M.f M.first M.cap, .vp [eOd o] 0 0, .any, .any, .any, .any, .any, .any, .any, .any, .any, .any, .any, .any, .any, .any, .any, I o.ds.length, I q.1, .any, .any, .any, .any, .any, .any, .any, .any, .any, .any, .any, .any, .any, .any, .any, .any, .any, .any], M.J q.2, M.nx q.2⟩
def S105n {γ : Type} (M : MachP γ) (o : Od) (p : List Int) (k : Nat) (x : γ) : AState := ⟨[.any, .vs (p.map eI), .fn M.f M.first M.cap, .vp [eOd o] 0 0, .any, .any, .any, I k, .any, .any, .any, .any, .any, .any, .any, .any, .any, .any, .any, I o.ds.length, I k, .any, .any, .any, .any, .any, .any, .bool true, eOd o, .any, .any, .any, .any, .vs ((p ++ [(k : Int)]).map eI), .fn M.f M.first M.cap, .any, .any, .any, .any], M.J x, M.nx x⟩
theorem k_perms {γ : Type} (M : MachP γ) (o : Od) (f : Nat) (hr : List AV → List HEnt → Nat → Option (AV × List HEnt × Nat)) (hhr : Hn P 105 hr)
    (hre : ∀ m, f = m + 1 → ∀ p x, p.length + m = o.ds.length → runGk M.st M.lim x (permG o.ds.length m p) → hr [eOd o, .vs (p.map eI), M.fv] (M.J x) (M.nx x) = some (.bool (runG M.st x (permG o.ds.length m p)).2, M.J (runG M.st x (permG o.ds.length m p)).1, M.nx (runG M.st x (permG o.ds.length m p)).1))
    (p : List Int) (x0 : γ) (h6 : o.ds.length ≤ 6) (hpf : p.length + f = o.ds.length) (hro : runGk M.st M.lim x0 (permG o.ds.length f p)) :
    LOk P 105 [eOd o, .vs (p.map eI), M.fv] (M.J x0) (M.nx x0) (.bool (runG M.st x0 (permG o.ds.length f p)).2) (M.J (runG M.st x0 (permG o.ds.length f p)).1) (M.nx (runG M.st x0 (permG o.ds.length f p)).1) := by
  have hsb : ∀ x k, Eng.setB (M.J x) (M.nx x) (M.nx x) k = M.J x := fun x k => setB_free fun e he => by have := (M.low x e he).1.2; omega
  have hg := addH_good M.hn (addH_good hhr (noHx_good P))
  refine c105.lokS sufP (y := YH P (addH M.f M.hy (addH 105 hr noHx))) (CorS.seq (CorS.of (Cor.run (noC_good _) hg hm ?_))) ?_
  · simp +contextual -implicitDefEqProofs (maxSteps := 2000000) only [bg_eq, eThen_normal, ruH, ruB, Int.reduceLT, Int.reduceLE, Int.reduceAdd, Int.reduceSub, Int.reduceMul, Int.reduceNeg, Int.reduceToNat, Int.reduceEq, Int.reduceNe, Int.reduceTDiv, Int.reduceTMod, implies_true, putL, appN, appX, appC, Eng.Fi, reduceCtorEq, exists_eq_left', exists_eq_left, if_true, if_false, List.replicate, Nat.reduceAdd, Nat.reduceSub, Nat.reduceMul, Nat.reduceLeDiff, Nat.reduceLT, Nat.reduceEqDiff]
    refine CorS.wk (s2 := S105 M o p x0) ?_ ?_
    · refine Wkn.lowle (Nat.le_refl _) (A := [⟨M.nx x0, M.nx x0, .rows 142 8 [eOd o]⟩]) [M.nx x0] [1, 2, 3] ?_ (M.low x0) ?_
      · simp
      · have hsu := M.sub x0 _ (fun t ht => fate_low ⟨M.nx x0, [], [M.nx x0], M.nx x0, [1, 2, 3]⟩ ([⟨M.nx x0, M.nx x0, .rows 142 8 [eOd o]⟩] ++ M.J x0) t ht)
        have hfz : (⟨M.nx x0, [], [M.nx x0], M.nx x0, [1, 2, 3]⟩ : Wk).fate ([⟨M.nx x0, M.nx x0, .rows 142 8 [eOd o]⟩] ++ M.J x0) (M.nx x0) = .froz 8 [eOd o] := by
          simp [Wk.fate, memN, getE, subs, sub1, free_Se, free_Dr]
        simp only [List.cons_append, List.nil_append] at hsu hfz
        simp [keepT, memN, sub1, subs, hsu.1, hsu.2, free_I, hfz]
    · cases f with
      | zero =>
        have hN : p.length = o.ds.length := by omega
        obtain ⟨hlim, _⟩ := hro
        have yx := M.hyE x0 p hlim
        simp only [permG, runG]
        generalize M.st x0 p = q at *
        obtain ⟨x', bb⟩ := q
        simp only at yx
        refine CorS.of (Cor.run (noC_good _) hg hm ?_)
        have e1 : decide ((p.length : Int) = (o.ds.length : Int)) = true := by simp [hN]
        cases bb with
        | true => simp +contextual -implicitDefEqProofs (maxSteps := 2000000) only [S105, M.ne, M.ne2, yx, List.length_map, e1, FinL, ruH, ruB, Int.reduceLT, Int.reduceLE, Int.reduceAdd, Int.reduceSub, Int.reduceMul, Int.reduceNeg, Int.reduceToNat, Int.reduceEq, Int.reduceNe, Int.reduceTDiv, Int.reduceTMod, implies_true, putL, appN, appX, appC, Eng.Fi, reduceCtorEq, exists_eq_left', exists_eq_left, if_true, if_false, List.replicate, Nat.reduceAdd, Nat.reduceSub, Nat.reduceMul, Nat.reduceLeDiff, Nat.reduceLT, Nat.reduceEqDiff]
        | false => simp +contextual -implicitDefEqProofs (maxSteps := 2000000) only [S105, M.ne, M.ne2, yx, List.length_map, e1, FinL, ruH, ruB, Int.reduceLT, Int.reduceLE, Int.reduceAdd, Int.reduceSub, Int.reduceMul, Int.reduceNeg, Int.reduceToNat, Int.reduceEq, Int.reduceNe, Int.reduceTDiv, Int.reduceTMod, implies_true, putL, appN, appX, appC, Eng.Fi, reduceCtorEq, exists_eq_left', exists_eq_left, if_true, if_false, List.replicate, Nat.reduceAdd, Nat.reduceSub, Nat.reduceMul, Nat.reduceLeDiff, Nat.reduceLT, Nat.reduceEqDiff]
      | succ f =>
        have hN : ¬ p.length = o.ds.length := by omega
        have hNi : ((p.length : Int) = (o.ds.length : Int)) = False := by simp only [eq_iff_iff, iff_false]; omega
        refine CorS.seq (CorS.of (Cor.run (noC_good _) hg hm ?_))
        simp +contextual -implicitDefEqProofs (maxSteps := 2000000) only [S105, List.length_map, hNi, eThen_normal, ruH, ruB, Int.reduceLT, Int.reduceLE, Int.reduceAdd, Int.reduceSub, Int.reduceMul, Int.reduceNeg, Int.reduceToNat, Int.reduceEq, Int.reduceNe, Int.reduceTDiv, Int.reduceTMod, implies_true, putL, appN, appX, appC, Eng.Fi, reduceCtorEq, exists_eq_left', exists_eq_left, if_true, if_false, List.replicate, Nat.reduceAdd, Nat.reduceSub, Nat.reduceMul, Nat.reduceLeDiff, Nat.reduceLT, Nat.reduceEqDiff]
        refine CorS.seq (CorS.seq (CorS.of (Cor.run (noC_good _) hg hm ?_)))
        simp +contextual -implicitDefEqProofs (maxSteps := 2000000) only [List.length_map, eThen_normal, ruH, ruB, Int.reduceLT, Int.reduceLE, Int.reduceAdd, Int.reduceSub, Int.reduceMul, Int.reduceNeg, Int.reduceToNat, Int.reduceEq, Int.reduceNe, Int.reduceTDiv, Int.reduceTMod, implies_true, putL, appN, appX, appC, Eng.Fi, reduceCtorEq, exists_eq_left', exists_eq_left, if_true, if_false, List.replicate, Nat.reduceAdd, Nat.reduceSub, Nat.reduceMul, Nat.reduceLeDiff, Nat.reduceLT, Nat.reduceEqDiff]
        rw [permD_0] at hro ⊢
        generalize htot : runG M.st x0 (permD o.ds.length f p 0) = tot at *
        refine CorS.block (CorS.loopC (S105l M o p) (fun q => q.1 ≤ o.ds.length ∧ M.nx x0 ≤ M.nx q.2 ∧ tot = runG M.st q.2 (permD o.ds.length f p q.1) ∧ runGk M.st M.lim q.2 (permD o.ds.length f p q.1)) (fun q => o.ds.length - q.1) (a := (0, x0)) ?_ ⟨Nat.zero_le _, Nat.le_refl _, htot.symm, hro⟩ (Wkn.keep [1, 2, 3, 19, 20] rfl))
        rintro ⟨k, x⟩ ⟨hk, hnx, hf, hok⟩
        simp only at hk hnx hf hok
        rcases Nat.lt_or_ge k o.ds.length with h | h
        · have e1 : decide ((k : Int) < (o.ds.length : Int)) = true := lt_t h
          have e3 : IntKind.wrap .i64 ((k : Int) + 1) = ((k + 1 : Nat) : Int) := suc_w (by omega)
          have yc := x_ContainsI p (k : Int) (by simp only [eq_iff_iff, iff_true]; omega)
          have ycl := x_ClipI p (by simp only [eq_iff_iff, iff_true]; omega)
          rw [permD_c h] at hf hok
          refine CorS.seq (CorS.of (Cor.run (noC_good _) hg hm ?_))
          simp +contextual -implicitDefEqProofs (maxSteps := 2000000) only [S105l, e1, eThen_normal, ruH, ruB, Int.reduceLT, Int.reduceLE, Int.reduceAdd, Int.reduceSub, Int.reduceMul, Int.reduceNeg, Int.reduceToNat, Int.reduceEq, Int.reduceNe, Int.reduceTDiv, Int.reduceTMod, implies_true, putL, appN, appX, appC, Eng.Fi, reduceCtorEq, exists_eq_left', exists_eq_left, if_true, if_false, List.replicate, Nat.reduceAdd, Nat.reduceSub, Nat.reduceMul, Nat.reduceLeDiff, Nat.reduceLT, Nat.reduceEqDiff]
          refine CorS.seq (CorS.of (Cor.run (noC_good _) hg hm ?_))
          simp +contextual -implicitDefEqProofs (maxSteps := 2000000) only [eThen_normal, ruH, ruB, Int.reduceLT, Int.reduceLE, Int.reduceAdd, Int.reduceSub, Int.reduceMul, Int.reduceNeg, Int.reduceToNat, Int.reduceEq, Int.reduceNe, Int.reduceTDiv, Int.reduceTMod, implies_true, putL, appN, appX, appC, Eng.Fi, reduceCtorEq, exists_eq_left', exists_eq_left, if_true, if_false, List.replicate, Nat.reduceAdd, Nat.reduceSub, Nat.reduceMul, Nat.reduceLeDiff, Nat.reduceLT, Nat.reduceEqDiff]
          refine CorS.seq (CorS.block (CorS.seq (CorS.of (Cor.run (noC_good _) hg hm ?_))))
          simp +contextual -implicitDefEqProofs (maxSteps := 2000000) only [eThen_normal, ruH, ruB, Int.reduceLT, Int.reduceLE, Int.reduceAdd, Int.reduceSub, Int.reduceMul, Int.reduceNeg, Int.reduceToNat, Int.reduceEq, Int.reduceNe, Int.reduceTDiv, Int.reduceTMod, implies_true, putL, appN, appX, appC, Eng.Fi, reduceCtorEq, exists_eq_left', exists_eq_left, if_true, if_false, List.replicate, Nat.reduceAdd, Nat.reduceSub, Nat.reduceMul, Nat.reduceLeDiff, Nat.reduceLT, Nat.reduceEqDiff]
          by_cases hin : (k : Int) ∈ p
          · rw [permO, if_pos hin, List.nil_append] at hf hok
            rw [decide_eq_true hin] at yc
            refine CorS.seq (CorS.opsD ((addC_good g_ClipI (addC_good g_ContainsI (noC_good _))) : Good P _) hg hm rfl (by decide) ?_)
            simp +contextual -implicitDefEqProofs (maxSteps := 2000000) only [List.filter_cons, List.filter_nil, yc, av_t, ga_f, gb_b, okN, ruH, ruB, Int.reduceLT, Int.reduceLE, Int.reduceAdd, Int.reduceSub, Int.reduceMul, Int.reduceNeg, Int.reduceToNat, Int.reduceEq, Int.reduceNe, Int.reduceTDiv, Int.reduceTMod, implies_true, putL, appN, appX, appC, Eng.Fi, reduceCtorEq, exists_eq_left', exists_eq_left, if_true, if_false, List.replicate, Nat.reduceAdd, Nat.reduceSub, Nat.reduceMul, Nat.reduceLeDiff, Nat.reduceLT, Nat.reduceEqDiff]
            refine ⟨_, Wkn.rfl, ?_⟩
            simp +contextual -implicitDefEqProofs (maxSteps := 2000000) only [hg_cons, hg_nil, hg_n, hg_p, hg_skip, gb_b, eThen_normal, ruH, ruB, Int.reduceLT, Int.reduceLE, Int.reduceAdd, Int.reduceSub, Int.reduceMul, Int.reduceNeg, Int.reduceToNat, Int.reduceEq, Int.reduceNe, Int.reduceTDiv, Int.reduceTMod, implies_true, putL, appN, appX, appC, Eng.Fi, reduceCtorEq, exists_eq_left', exists_eq_left, if_true, if_false, List.replicate, Nat.reduceAdd, Nat.reduceSub, Nat.reduceMul, Nat.reduceLeDiff, Nat.reduceLT, Nat.reduceEqDiff]
            refine CorS.of (Cor.run (noC_good _) hg hm ?_)
            simp +contextual -implicitDefEqProofs (maxSteps := 2000000) only [eBlk_normal, eThen_normal, ruH, ruB, Int.reduceLT, Int.reduceLE, Int.reduceAdd, Int.reduceSub, Int.reduceMul, Int.reduceNeg, Int.reduceToNat, Int.reduceEq, Int.reduceNe, Int.reduceTDiv, Int.reduceTMod, implies_true, putL, appN, appX, appC, Eng.Fi, reduceCtorEq, exists_eq_left', exists_eq_left, if_true, if_false, List.replicate, Nat.reduceAdd, Nat.reduceSub, Nat.reduceMul, Nat.reduceLeDiff, Nat.reduceLT, Nat.reduceEqDiff]
            refine CorS.of (Cor.run (noC_good _) hg hm ?_)
            simp +contextual -implicitDefEqProofs (maxSteps := 2000000) only [e3, eThen_normal, ruH, ruB, Int.reduceLT, Int.reduceLE, Int.reduceAdd, Int.reduceSub, Int.reduceMul, Int.reduceNeg, Int.reduceToNat, Int.reduceEq, Int.reduceNe, Int.reduceTDiv, Int.reduceTMod, implies_true, putL, appN, appX, appC, Eng.Fi, reduceCtorEq, exists_eq_left', exists_eq_left, if_true, if_false, List.replicate, Nat.reduceAdd, Nat.reduceSub, Nat.reduceMul, Nat.reduceLeDiff, Nat.reduceLT, Nat.reduceEqDiff]
            exact ⟨(k + 1, x), ⟨h, hnx, hf, hok⟩, by simp only; omega, Wkn.keep [1, 2, 3, 19, 20] rfl⟩
          · rw [permO, if_neg hin] at hf hok
            rw [decide_eq_false hin] at yc
            refine CorS.seq (CorS.opsD ((addC_good g_ClipI (addC_good g_ContainsI (noC_good _))) : Good P _) hg hm rfl (by decide) ?_)
            have m1 : (p.length + 1 ≤ maxLen) = True := mx (by omega)
            have m2 : ((p.length + 1) * 8 ≤ 140737488355328) = True := by simp only [eq_iff_iff, iff_true]; omega
            have al : (p.map eI).all (fun v => decide (v.cells.length = 1)) = true := by simp [List.all_map, AV.cells]
            have lm : (p.map eI).length = p.length := by simp
            simp +contextual -implicitDefEqProofs (maxSteps := 2000000) only [List.filter_cons, List.filter_nil, yc, ycl, ga_t, gb_b, al, lm, m1, m2, okN, ruH, ruB, Int.reduceLT, Int.reduceLE, Int.reduceAdd, Int.reduceSub, Int.reduceMul, Int.reduceNeg, Int.reduceToNat, Int.reduceEq, Int.reduceNe, Int.reduceTDiv, Int.reduceTMod, implies_true, putL, appN, appX, appC, Eng.Fi, reduceCtorEq, exists_eq_left', exists_eq_left, if_true, if_false, List.replicate, Nat.reduceAdd, Nat.reduceSub, Nat.reduceMul, Nat.reduceLeDiff, Nat.reduceLT, Nat.reduceEqDiff]
            refine ⟨S105n M o p k x, ?_, ?_⟩
            · refine Wkn.lowle hnx (A := [⟨M.nx x, M.nx x, .rows 3 1 (p.map eI ++ [I (k : Int)])⟩]) [M.nx x] [1, 2, 3, 7, 19, 20, 27, 28, 33, 34] ?_ (M.low x) ?_
              · simp
              · have hsu := M.sub x _ (fun t ht => fate_low ⟨M.nx x, [], [M.nx x], M.nx x, [1, 2, 3, 7, 19, 20, 27, 28, 33, 34]⟩ ([⟨M.nx x, M.nx x, .rows 3 1 (p.map eI ++ [I (k : Int)])⟩] ++ M.J x) t ht)
                have hpk : ∀ φ, subs φ (p.map eI ++ [I (k : Int)]) = p.map eI ++ [I (k : Int)] := fun φ => by
                  have := free_I φ (p ++ [(k : Int)])
                  rwa [List.map_append] at this
                have hfz : (⟨M.nx x, [], [M.nx x], M.nx x, [1, 2, 3, 7, 19, 20, 27, 28, 33, 34]⟩ : Wk).fate ([⟨M.nx x, M.nx x, .rows 3 1 (p.map eI ++ [I (k : Int)])⟩] ++ M.J x) (M.nx x) = .froz 1 (p.map eI ++ [I (k : Int)]) := by
                  simp only [Wk.fate, memN, getE, List.cons_append, List.nil_append, if_true, Nat.lt_irrefl, if_false, hpk]
                simp only [List.cons_append, List.nil_append] at hsu hfz
                simp [keepT, memN, sub1, subs, hsu.1, hsu.2, free_I, free_Se, free_Dr, hfz, S105n]
                exact List.take_of_length_le (by simp)
            · obtain ⟨hk1, hk2⟩ := runGk_app hok
              have yr := hre f rfl (p ++ [(k : Int)]) x (by simp only [List.length_append, List.length_cons, List.length_nil]; omega) hk1
              rw [runG_app] at hf
              have hmo := runG_mono M hk1
              generalize runG M.st x (permG o.ds.length f (p ++ [(k : Int)])) = q at *
              obtain ⟨x', bb⟩ := q
              simp only at yr hf hk2 hmo
              cases bb with
              | true =>
                simp only [if_true] at hf
                simp +contextual -implicitDefEqProofs (maxSteps := 2000000) only [S105n, hg_cons, hg_nil, hg_n, hg_p, hg_call, gb_b, eThen_normal, M.ne, M.ne2, yr, ruH, ruB, Int.reduceLT, Int.reduceLE, Int.reduceAdd, Int.reduceSub, Int.reduceMul, Int.reduceNeg, Int.reduceToNat, Int.reduceEq, Int.reduceNe, Int.reduceTDiv, Int.reduceTMod, implies_true, putL, appN, appX, appC, Eng.Fi, reduceCtorEq, exists_eq_left', exists_eq_left, if_true, if_false, List.replicate, Nat.reduceAdd, Nat.reduceSub, Nat.reduceMul, Nat.reduceLeDiff, Nat.reduceLT, Nat.reduceEqDiff]
                refine CorS.of (Cor.run (noC_good _) hg hm ?_)
                simp +contextual -implicitDefEqProofs (maxSteps := 2000000) only [eBlk_normal, eThen_normal, ruH, ruB, Int.reduceLT, Int.reduceLE, Int.reduceAdd, Int.reduceSub, Int.reduceMul, Int.reduceNeg, Int.reduceToNat, Int.reduceEq, Int.reduceNe, Int.reduceTDiv, Int.reduceTMod, implies_true, putL, appN, appX, appC, Eng.Fi, reduceCtorEq, exists_eq_left', exists_eq_left, if_true, if_false, List.replicate, Nat.reduceAdd, Nat.reduceSub, Nat.reduceMul, Nat.reduceLeDiff, Nat.reduceLT, Nat.reduceEqDiff]
                refine CorS.of (Cor.run (noC_good _) hg hm ?_)
                simp +contextual -implicitDefEqProofs (maxSteps := 2000000) only [e3, eThen_normal, ruH, ruB, Int.reduceLT, Int.reduceLE, Int.reduceAdd, Int.reduceSub, Int.reduceMul, Int.reduceNeg, Int.reduceToNat, Int.reduceEq, Int.reduceNe, Int.reduceTDiv, Int.reduceTMod, implies_true, putL, appN, appX, appC, Eng.Fi, reduceCtorEq, exists_eq_left', exists_eq_left, if_true, if_false, List.replicate, Nat.reduceAdd, Nat.reduceSub, Nat.reduceMul, Nat.reduceLeDiff, Nat.reduceLT, Nat.reduceEqDiff]
                exact ⟨(k + 1, x'), ⟨h, Nat.le_trans hnx hmo, hf, hk2 rfl⟩, by simp only; omega, Wkn.keep [1, 2, 3, 19, 20] rfl⟩
              | false =>
                simp only [Bool.false_eq_true, if_false] at hf
                simp +contextual -implicitDefEqProofs (maxSteps := 2000000) only [S105n, hg_cons, hg_nil, hg_n, hg_p, hg_call, gb_b, eThen_normal, M.ne, M.ne2, yr, ruH, ruB, Int.reduceLT, Int.reduceLE, Int.reduceAdd, Int.reduceSub, Int.reduceMul, Int.reduceNeg, Int.reduceToNat, Int.reduceEq, Int.reduceNe, Int.reduceTDiv, Int.reduceTMod, implies_true, putL, appN, appX, appC, Eng.Fi, reduceCtorEq, exists_eq_left', exists_eq_left, if_true, if_false, List.replicate, Nat.reduceAdd, Nat.reduceSub, Nat.reduceMul, Nat.reduceLeDiff, Nat.reduceLT, Nat.reduceEqDiff]
                rw [hf]
                refine CorS.of (Cor.run (noC_good _) hg hm ?_)
                simp +contextual -implicitDefEqProofs (maxSteps := 2000000) only [eBlk_ret, eThen_ret, FinL, ruH, ruB, Int.reduceLT, Int.reduceLE, Int.reduceAdd, Int.reduceSub, Int.reduceMul, Int.reduceNeg, Int.reduceToNat, Int.reduceEq, Int.reduceNe, Int.reduceTDiv, Int.reduceTMod, implies_true, putL, appN, appX, appC, Eng.Fi, reduceCtorEq, exists_eq_left', exists_eq_left, if_true, if_false, List.replicate, Nat.reduceAdd, Nat.reduceSub, Nat.reduceMul, Nat.reduceLeDiff, Nat.reduceLT, Nat.reduceEqDiff]
        · have e1 : decide ((k : Int) < (o.ds.length : Int)) = false := lt_f h
          rw [permD_n h] at hf
          have hf : tot = (x, true) := hf
          rw [hf]
          refine CorS.of (Cor.run (noC_good _) hg hm ?_)
          simp +contextual -implicitDefEqProofs (maxSteps := 2000000) only [S105l, e1, eThen_exit, eBlk_exit, eThen_normal, ruH, ruB, Int.reduceLT, Int.reduceLE, Int.reduceAdd, Int.reduceSub, Int.reduceMul, Int.reduceNeg, Int.reduceToNat, Int.reduceEq, Int.reduceNe, Int.reduceTDiv, Int.reduceTMod, implies_true, putL, appN, appX, appC, Eng.Fi, reduceCtorEq, exists_eq_left', exists_eq_left, if_true, if_false, List.replicate, Nat.reduceAdd, Nat.reduceSub, Nat.reduceMul, Nat.reduceLeDiff, Nat.reduceLT, Nat.reduceEqDiff]
          refine CorS.of (Cor.run (noC_good _) hg hm ?_)
          simp +contextual -implicitDefEqProofs (maxSteps := 2000000) only [FinL, ruH, ruB, Int.reduceLT, Int.reduceLE, Int.reduceAdd, Int.reduceSub, Int.reduceMul, Int.reduceNeg, Int.reduceToNat, Int.reduceEq, Int.reduceNe, Int.reduceTDiv, Int.reduceTMod, implies_true, putL, appN, appX, appC, Eng.Fi, reduceCtorEq, exists_eq_left', exists_eq_left, if_true, if_false, List.replicate, Nat.reduceAdd, Nat.reduceSub, Nat.reduceMul, Nat.reduceLeDiff, Nat.reduceLT, Nat.reduceEqDiff]
  · exact fun G => YH_add (fun e => by have := M.ne; rw [← e] at this; simp [yld] at this) (YH_add (by decide) (YH_no _ G))
section
open Classical
noncomputable def permsH {γ : Type} (M : MachP γ) (n : Nat) : List AV → List HEnt → Nat → Option (AV × List HEnt × Nat) := fun args H nx =>
  if h : ∃ q : Od × List Int × γ, args = [eOd q.1, .vs (q.2.1.map eI), M.fv] ∧ H = M.J q.2.2 ∧ nx = M.nx q.2.2 ∧ (q.1.ds.length ≤ 6 ∧ q.2.1.length + n = q.1.ds.length) ∧ runGk M.st M.lim q.2.2 (permG q.1.ds.length n q.2.1) then
    some (.bool (runG M.st (Classical.choose h).2.2 (permG (Classical.choose h).1.ds.length n (Classical.choose h).2.1)).2, M.J (runG M.st (Classical.choose h).2.2 (permG (Classical.choose h).1.ds.length n (Classical.choose h).2.1)).1, M.nx (runG M.st (Classical.choose h).2.2 (permG (Classical.choose h).1.ds.length n (Classical.choose h).2.1)).1) else none
theorem permsH_e {γ : Type} (M : MachP γ) (n : Nat) (o : Od) (p : List Int) (x : γ) (h1 : o.ds.length ≤ 6) (h2 : p.length + n = o.ds.length) (h3 : runGk M.st M.lim x (permG o.ds.length n p)) :
    permsH M n [eOd o, .vs (p.map eI), M.fv] (M.J x) (M.nx x) = some (.bool (runG M.st x (permG o.ds.length n p)).2, M.J (runG M.st x (permG o.ds.length n p)).1, M.nx (runG M.st x (permG o.ds.length n p)).1) := by
  have h : ∃ q : Od × List Int × γ, [eOd o, .vs (p.map eI), M.fv] = [eOd q.1, .vs (q.2.1.map eI), M.fv] ∧ M.J x = M.J q.2.2 ∧ M.nx x = M.nx q.2.2 ∧ (q.1.ds.length ≤ 6 ∧ q.2.1.length + n = q.1.ds.length) ∧ runGk M.st M.lim q.2.2 (permG q.1.ds.length n q.2.1) := ⟨(o, p, x), rfl, rfl, rfl, ⟨h1, h2⟩, h3⟩
  unfold permsH
  rw [dif_pos h]
  have hs := Classical.choose_spec h
  have e1 : (Classical.choose h).2.2 = x := (M.inj _ _ hs.2.1).symm
  have e2 : (Classical.choose h).1 = o := (eOd_inj _ _ (List.cons.inj hs.1).1).symm
  have e3 : (Classical.choose h).2.1 = p := (map_inj (e := eI) (fun a b hab => by simpa using hab) _ _ (AV.vs.inj (List.cons.inj (List.cons.inj hs.1).2).1)).symm
  rw [e1, e2, e3]
theorem permsH_inv {γ : Type} (M : MachP γ) (n : Nat) {args : List AV} {H : List HEnt} {nx : Nat} {v : AV} {hp' : List HEnt} {nx' : Nat} (h : permsH M n args H nx = some (v, hp', nx')) :
    ∃ (o : Od) (p : List Int) (x : γ), args = [eOd o, .vs (p.map eI), M.fv] ∧ H = M.J x ∧ nx = M.nx x ∧ (o.ds.length ≤ 6 ∧ p.length + n = o.ds.length) ∧ runGk M.st M.lim x (permG o.ds.length n p) ∧ v = .bool (runG M.st x (permG o.ds.length n p)).2 ∧ hp' = M.J (runG M.st x (permG o.ds.length n p)).1 ∧ nx' = M.nx (runG M.st x (permG o.ds.length n p)).1 := by
  unfold permsH at h
  split at h
  · rename_i hc
    have hs := Classical.choose_spec hc
    cases h
    exact ⟨_, _, _, hs.1, hs.2.1, hs.2.2.1, hs.2.2.2.1, hs.2.2.2.2, rfl, rfl, rfl⟩
  · cases h
end
theorem h_perms {γ : Type} (M : MachP γ) : ∀ n, Hn P 105 (permsH M n)
  | 0 => fun args H nx v hp' nx' h => by
    obtain ⟨o, p, x, rfl, rfl, rfl, ⟨h1, h2⟩, h3, rfl, rfl, rfl⟩ := permsH_inv M 0 h
    exact k_perms M o 0 (fun _ _ _ => none) (fun _ _ _ _ _ _ h => by cases h) (fun m e => by omega) p x h1 h2 h3
  | n + 1 => fun args H nx v hp' nx' h => by
    obtain ⟨o, p, x, rfl, rfl, rfl, ⟨h1, h2⟩, h3, rfl, rfl, rfl⟩ := permsH_inv M (n + 1) h
    refine k_perms M o (n + 1) (permsH M n) (h_perms M n) (fun m e q y a b => ?_) p x h1 h2 h3
    obtain rfl : n = m := by omega
    exact permsH_e M n o q y h1 a b
end Sc
