import Derived.Test.YtjkhnmhbbjgenaaEngS9
import Derived.Test.YtjkhnmhbbjgenaaS5
open Go Go.Proofs Eng
set_option maxRecDepth 100000
set_option linter.unusedSimpArgs false
set_option linter.unusedVariables false
def a77 : AC := .seq (.ops false [] [⟨some 4, .p (.mov), [.c (.bool false)], none⟩]) (.seq (.seq (.ops false [] [⟨some 9, .p (.mov), [.t 0], none⟩, ⟨some 10, .p (.lenS), [.t 9], none⟩, ⟨some 11, .p (.mov), [.c (.int .i64 0)], none⟩]) (.block 0 (.loop (.seq (.ops false [] [⟨some 12, .p (.binI .lss), [.t 11, .t 10], none⟩]) (.seq (.cond (.t 12) (.skip) (.exit 0)) (.seq (.block 1 (.seq (.ops false [] [⟨some 13, .p (.iaddrS 8), [.t 9, .t 11], none⟩, ⟨some 14, .load 8 true, [.t 13], none⟩, ⟨some 6, .alloc 73 8 [.agg [.int .i64 0, .int .i64 0, .int .i64 0, .int .i64 0, .int .i64 0, .int .i64 0, .int .i64 0, .nilslice]], [], none⟩, ⟨none, .store 8 true, [.t 6, .t 14], none⟩]) (.seq (.ops false [] [⟨some 15, .p (.faddr 0), [.t 6], none⟩, ⟨some 16, .load 1 false, [.t 15], none⟩]) (.block 2 (.seq (.ops false [] [⟨some 18, .p (.binI .eql), [.t 16, .c (.int .i64 0)], none⟩, ⟨some 17, .p (.mov), [.t 18], none⟩]) (.cond (.t 17) (.seq (.ops false [] [⟨some 19, .p (.mov), [.t 1], none⟩, ⟨some 20, .p (.faddr 1), [.t 6], none⟩, ⟨some 21, .load 2 true, [.t 20], none⟩, ⟨some 22, .p (.faddr 5), [.t 6], none⟩, ⟨some 23, .load 1 false, [.t 22], none⟩, ⟨some 24, .p (.build [.int .i64 0, .int .i64 0, .int .i64 0] [(0, 2), (2, 1)]), [.t 21, .t 23], none⟩, ⟨some 25, .callv, [.t 19, .t 24], none⟩, ⟨some 26, .p (.notB), [.t 25], none⟩]) (.cond (.t 26) (.seq (.ops false [] [⟨some 4, .p (.mov), [.c (.bool false)], none⟩]) (.ret)) (.skip))) (.seq (.ops false [] [⟨some 28, .p (.binI .eql), [.t 16, .c (.int .i64 1)], none⟩, ⟨some 27, .p (.mov), [.t 28], none⟩]) (.cond (.t 27) (.seq (.ops false [] [⟨some 7, .p (.mov), [.c (.int .i64 0)], none⟩]) (.block 3 (.loop (.seq (.seq (.ops false [] [⟨some 29, .p (.mov), [.t 7], none⟩, ⟨some 30, .p (.faddr 1), [.t 6], none⟩, ⟨some 31, .p (.faddr 0), [.t 30], none⟩, ⟨some 32, .load 1 false, [.t 31], none⟩, ⟨some 33, .p (.faddr 3), [.t 6], none⟩, ⟨some 34, .load 1 false, [.t 33], none⟩, ⟨some 35, .call 118, [.t 32, .t 34], none⟩, ⟨some 36, .p (.binI .leq), [.t 29, .t 35], none⟩]) (.cond (.t 36) (.skip) (.exit 3))) (.seq (.block 4 (.seq (.ops true [(2, 10), (5, 10), (8, 10)] [⟨some 41, .p (.faddr 1), [.t 6], none⟩, ⟨some 42, .p (.faddr 0), [.t 41], none⟩, ⟨some 43, .load 1 false, [.t 42], none⟩, ⟨some 44, .p (.mov), [.t 7], none⟩, ⟨some 45, .p (.binI .add), [.t 43, .t 44], none⟩, ⟨some 46, .call 118, [.c (.int .i64 0), .t 45], none⟩, ⟨some 47, .p (.faddr 1), [.t 6], none⟩, ⟨some 48, .p (.faddr 1), [.t 47], none⟩, ⟨some 49, .load 1 false, [.t 48], none⟩, ⟨some 50, .p (.build [.int .i64 0, .int .i64 0] [(0, 1), (1, 1)]), [.t 46, .t 49], none⟩, ⟨some 8, .alloc 37 2 [.agg [.int .i64 0, .int .i64 0]], [], none⟩, ⟨none, .store 2 true, [.t 8, .t 50], none⟩]) (.seq (.ops false [] [⟨some 51, .p (.mov), [.t 1], none⟩, ⟨some 52, .load 2 true, [.t 8], none⟩, ⟨some 53, .p (.faddr 5), [.t 6], none⟩, ⟨some 54, .load 1 false, [.t 53], none⟩, ⟨some 55, .p (.build [.int .i64 0, .int .i64 0, .int .i64 0] [(0, 2), (2, 1)]), [.t 52, .t 54], none⟩, ⟨some 56, .callv, [.t 51, .t 55], none⟩, ⟨some 57, .p (.notB), [.t 56], none⟩]) (.cond (.t 57) (.seq (.ops false [] [⟨some 4, .p (.mov), [.c (.bool false)], none⟩]) (.ret)) (.skip))))) (.ops false [] [⟨some 37, .p (.mov), [.t 7], none⟩, ⟨some 38, .p (.faddr 4), [.t 6], none⟩, ⟨some 39, .load 1 false, [.t 38], none⟩, ⟨some 40, .p (.binI .add), [.t 37, .t 39], none⟩, ⟨some 7, .p (.mov), [.t 40], none⟩])))))) (.seq (.ops false [] [⟨some 59, .p (.binI .eql), [.t 16, .c (.int .i64 2)], none⟩, ⟨some 58, .p (.mov), [.t 59], none⟩]) (.cond (.t 58) (.seq (.ops false [] [⟨some 60, .p (.faddr 6), [.t 6], none⟩, ⟨some 61, .load 1 false, [.t 60], none⟩, ⟨some 62, .p (.mov), [.c (.int .i64 0)], none⟩]) (.block 5 (.loop (.seq (.ops false [] [⟨some 63, .p (.binI .lss), [.t 62, .t 61], none⟩]) (.seq (.cond (.t 63) (.skip) (.exit 5)) (.seq (.block 6 (.seq (.ops false [] [⟨some 64, .p (.faddr 7), [.t 6], none⟩, ⟨some 65, .load 1 false, [.t 64], none⟩, ⟨some 66, .p (.mov), [.t 1], none⟩, ⟨some 67, .call 77, [.t 65, .t 66], none⟩, ⟨some 68, .p (.notB), [.t 67], none⟩]) (.cond (.t 68) (.seq (.ops false [] [⟨some 4, .p (.mov), [.c (.bool false)], none⟩]) (.ret)) (.skip)))) (.ops false [] [⟨some 69, .p (.binI .add), [.t 62, .c (.int .i64 1)], none⟩, ⟨some 62, .p (.mov), [.t 69], none⟩]))))))) (.skip))))))))))) (.ops false [] [⟨some 70, .p (.binI .add), [.t 11, .c (.int .i64 1)], none⟩, ⟨some 11, .p (.mov), [.t 70], none⟩]))))))) (.seq (.ops false [] [⟨some 4, .p (.mov), [.c (.bool true)], none⟩]) (.ret)))
theorem c77 : FnC Try.prog 77 71 a77 [.tmp 4] := ⟨Try.call77, _, _, Try.func77, rfl, by kernel_rfl, by kernel_rfl, rfl⟩
namespace Sc
structure St where
  az : Int
  el : Int
  tk : Int
  deriving DecidableEq
abbrev eSt (x : St) : AV := .agg [I x.az, I x.el, I x.tk]
theorem free_St (φ : Nat → Fate) (l : List St) : subs φ (l.map eSt) = l.map eSt := subs_mapE φ _ (fun _ => rfl) l
/-- the stops of a sweep from offset o on, at most f of them -/
def swL (az el tk w d : Int) : Nat → Int → List St
  | 0, _ => []
  | f + 1, o => if o ≤ w then ⟨upw 0 (az + o), el, tk⟩ :: swL az el tk w d f (o + d) else []
def repL (l : List St) : Nat → List St
  | 0 => []
  | k + 1 => l ++ repL l k
def oneS (s : Sp) : List St := if s.k = 0 then [⟨s.at'.az, s.at'.el, s.x4⟩] else swL s.at'.az s.at'.el s.x4 (upw s.at'.az s.x2) s.x3 361 0
def stopsOf : Nat → Sp → List St
  | 0, s => oneS s
  | n + 1, s => if s.k = 2 then repL (s.body.flatMap (stopsOf n)) s.x5.toNat else oneS s
def stopsAll (n : Nat) (l : List Sp) : List St := l.flatMap (stopsOf n)
/-- right steps, n deeper -/
def okP (n : Nat) (l : Sps) : Prop := (stCh (stE n) l).2 = 0
theorem stCg_zero {f : Sp → Int} : ∀ {l : Sps} {i : Nat}, (stCg f i l).2 = 0 → ∀ s ∈ l, f s = 0
  | [], _, _, s, hs => by simp at hs
  | x :: l, i, h, s, hs => by
    rw [stCg] at h
    split at h
    · rename_i h0
      rcases List.mem_cons.1 hs with rfl | hs
      · exact h0
      · exact stCg_zero h s hs
    · rename_i h0; exact absurd h h0
theorem okP_e {n : Nat} {l : Sps} (h : okP n l) : l.length ≤ 10 ∧ ∀ s ∈ l, stE n s = 0 := by
  unfold okP stCh at h
  split at h
  · rename_i h0
    unfold stCe at h0
    have h10 := unl_zero (firstE_zero h0 (unl ((l.length : Int) ≤ 10) 8) (by simp)) (by decide)
    exact ⟨by omega, stCg_zero h⟩
  · rename_i h0; exact absurd h h0
theorem stE_frE : ∀ {n : Nat} {s : Sp}, stE n s = 0 → (0 ≤ s.k ∧ s.k ≤ 2) ∧ frE s = 0
  | 0, s, h => by
    rw [stE] at h
    split at h
    · rename_i h0
      split at h
      · cases h
      · exact ⟨h0, h⟩
    · cases h
  | n + 1, s, h => by
    rw [stE] at h
    split at h
    · rename_i h0
      split at h
      · rename_i h1; exact ⟨h0, h1.1⟩
      · exact ⟨h0, h⟩
    · cases h
theorem stE_rep {n : Nat} {s : Sp} (h : stE n s = 0) (h2 : s.k = 2) : (1 ≤ s.x5 ∧ s.x5 ≤ 10) ∧ ∃ m, n = m + 1 ∧ okP m s.body := by
  obtain ⟨h0, h1⟩ := stE_frE h
  have hr := firstE_zero h1 (rgE s) (by simp)
  rw [rgE, if_pos h2] at hr
  refine ⟨unl_zero hr (by decide), ?_⟩
  cases n with
  | zero => rw [stE, if_pos h0, if_pos ⟨h1, h2⟩] at h; cases h
  | succ m => rw [stE, if_pos h0, if_pos ⟨h1, h2⟩] at h; exact ⟨m, rfl, h⟩
theorem stE_one {n : Nat} {s : Sp} (h : stE n s = 0) (h2 : ¬ s.k = 2) : drR s.at' ∧ (0 ≤ s.x4 ∧ s.x4 ≤ 1000) ∧ (s.k = 1 → azR s.x2 ∧ 1 ≤ s.x3 ∧ s.x3 ≤ 360) := by
  obtain ⟨h0, h1⟩ := stE_frE h
  have hr := firstE_zero h1 (rgE s) (by simp)
  rw [rgE, if_neg h2] at hr
  split at hr
  · have := unl_zero hr (by decide)
    exact ⟨drE_zero this.1.1.1, this.1.1.2, fun _ => ⟨this.1.2, this.2⟩⟩
  · rename_i h3
    have := unl_zero hr (by decide)
    exact ⟨drE_zero this.1, this.2, fun e => absurd e h3⟩
/-- a consumer of stops: its state x is what lies in the blocks J x -/
structure Mach (γ : Type) where
  f : Nat
  first : List AV
  cap : List AV
  J : γ → List HEnt
  nx : γ → Nat
  st : γ → St → γ × Bool
  hy : List AV → List HEnt → Nat → Option (AV × List HEnt × Nat)
  hn : Hn P f hy
  lim : γ → Prop
  hyE : ∀ x s, lim x → hy (first ++ [eSt s] ++ cap) (J x) (nx x) = some (.bool (st x s).2, J (st x s).1, nx (st x s).1)
  mono : ∀ x s, lim x → nx x ≤ nx (st x s).1
  low : ∀ x, Low (nx x) (J x)
  sub : ∀ x, ∀ φ : Nat → Fate, (∀ t, t < nx x → φ t = .as t) → subs φ first = first ∧ subs φ cap = cap
  inj : ∀ a b, J a = J b → a = b
  ne : (f = 987654321) = False
  ne2 : (77 = f) = False
  ne3 : (118 = f) = False
def runS {γ : Type} (st : γ → St → γ × Bool) : γ → List St → γ × Bool
  | x, [] => (x, true)
  | x, s :: r => if (st x s).2 then runS st (st x s).1 r else ((st x s).1, false)
theorem runS_app {γ : Type} (st : γ → St → γ × Bool) : ∀ (a b : List St) (x : γ), runS st x (a ++ b) = if (runS st x a).2 then runS st (runS st x a).1 b else runS st x a
  | [], b, x => by simp [runS]
  | s :: a, b, x => by
    rw [List.cons_append, runS, runS]
    cases h : (st x s).2 with
    | true => simp only [if_true]; exact runS_app st a b _
    | false => simp
/-- as long as the run goes on the states are within the limit -/
def runOk {γ : Type} (st : γ → St → γ × Bool) (lim : γ → Prop) : γ → List St → Prop
  | _, [] => True
  | x, s :: r => lim x ∧ ((st x s).2 = true → runOk st lim (st x s).1 r)
theorem runOk_app {γ : Type} {st : γ → St → γ × Bool} {lim : γ → Prop} : ∀ {a b : List St} {x : γ}, runOk st lim x (a ++ b) → runOk st lim x a ∧ ((runS st x a).2 = true → runOk st lim (runS st x a).1 b)
  | [], b, x, h => ⟨trivial, fun _ => h⟩
  | s :: a, b, x, h => by
    obtain ⟨h1, h2⟩ := h
    refine ⟨⟨h1, fun hc => (runOk_app (h2 hc)).1⟩, fun hc => ?_⟩
    rw [runS] at hc ⊢
    split at hc
    · rename_i hb; rw [if_pos hb]; exact (runOk_app (h2 hb)).2 hc
    · cases hc
theorem runS_mono {γ : Type} (M : Mach γ) : ∀ {ss : List St} {x : γ}, runOk M.st M.lim x ss → M.nx x ≤ M.nx (runS M.st x ss).1
  | [], x, _ => Nat.le_refl _
  | s :: r, x, h => by
    obtain ⟨h1, h2⟩ := h
    have h3 := M.mono x s h1
    rw [runS]
    split
    · rename_i hb; exact Nat.le_trans h3 (runS_mono M (h2 hb))
    · exact h3
abbrev Mach.fv {γ : Type} (M : Mach γ) : AV := .fn M.f M.first M.cap
def S77 {γ : Type} (M : Mach γ) (l : Sps) (p : Nat × γ) : AState := ⟨[.vs (eSps l), .fn M.f M.first M.cap, .any, .any, .any, .any, .any, .any, .any, .vs (eSps l), I l.length, I p.1, .any, .any, .any, .any, .any, .any, .any, .any, .any, .any, .any, .any, .any, .any, .any, .any, .any, .any, .any, .any, .any, .any, .any, .any, .any, .any, .any, .any, .any, .any, .any, .any, .any, .any, .any, .any, .any, .any, .any, .any, .any, .any, .any, .any, .any, .any, .any, .any, .any, .any, .any, .any, .any, .any, .any, .any, .any, .any, .any], M.J p.2, M.nx p.2⟩
def S77b {γ : Type} (M : Mach γ) (l : Sps) (s : Sp) (i : Nat) (x : γ) : AState := ⟨[.vs (eSps l), .fn M.f M.first M.cap, .any, .any, .any, .any, .vp [eSp s] 0 0, .any, .any, .vs (eSps l), I l.length, I i, .any, .any, .any, .any, .any, .any, .any, .any, .any, .any, .any, .any, .any, .any, .any, .any, .any, .any, .any, .any, .any, .any, .any, .any, .any, .any, .any, .any, .any, .any, .any, .any, .any, .any, .any, .any, .any, .any, .any, .any, .any, .any, .any, .any, .any, .any, .any, .any, .any, .any, .any, .any, .any, .any, .any, .any, .any, .any, .any], M.J x, M.nx x⟩
def S77c {γ : Type} (M : Mach γ) (l : Sps) (s : Sp) (i : Nat) (p : Int × γ) : AState := ⟨[.vs (eSps l), .fn M.f M.first M.cap, .any, .any, .any, .any, .vp [eSp s] 0 0, I p.1, .any, .vs (eSps l), I l.length, I i, .any, .any, .any, .any, .any, .any, .any, .any, .any, .any, .any, .any, .any, .any, .any, .any, .any, .any, .any, .any, .any, .any, .any, .any, .any, .any, .any, .any, .any, .any, .any, .any, .any, .any, .any, .any, .any, .any, .any, .any, .any, .any, .any, .any, .any, .any, .any, .any, .any, .any, .any, .any, .any, .any, .any, .any, .any, .any, .any], M.J p.2, M.nx p.2⟩
def S77d {γ : Type} (M : Mach γ) (l : Sps) (s : Sp) (i : Nat) (o : Int) (d : Dr) (x : γ) : AState := ⟨[.vs (eSps l), .fn M.f M.first M.cap, .any, .any, .any, .any, .vp [eSp s] 0 0, I o, .vp [eDr d] 0 0, .vs (eSps l), I l.length, I i, .any, .any, .any, .any, .any, .any, .any, .any, .any, .any, .any, .any, .any, .any, .any, .any, .any, .any, .any, .any, .any, .any, .any, .any, .any, .any, .any, .any, .any, .any, .any, .any, .any, .any, .any, .any, .any, .any, .any, .any, .any, .any, .any, .any, .any, .any, .any, .any, .any, .any, .any, .any, .any, .any, .any, .any, .any, .any, .any], M.J x, M.nx x⟩
def S77e {γ : Type} (M : Mach γ) (l : Sps) (s : Sp) (i : Nat) (x5 : Int) (p : Nat × γ) : AState := ⟨[.vs (eSps l), .fn M.f M.first M.cap, .any, .any, .any, .any, .vp [eSp s] 0 0, .any, .any, .vs (eSps l), I l.length, I i, .any, .any, .any, .any, .any, .any, .any, .any, .any, .any, .any, .any, .any, .any, .any, .any, .any, .any, .any, .any, .any, .any, .any, .any, .any, .any, .any, .any, .any, .any, .any, .any, .any, .any, .any, .any, .any, .any, .any, .any, .any, .any, .any, .any, .any, .any, .any, .any, .any, I x5, I p.1, .any, .any, .any, .any, .any, .any, .any, .any], M.J p.2, M.nx p.2⟩
theorem k_stops {γ : Type} (M : Mach γ) (n : Nat) (hr : List AV → List HEnt → Nat → Option (AV × List HEnt × Nat)) (hhr : Hn P 77 hr)
    (hre : ∀ m, n = m + 1 → ∀ l x, okP m l → runOk M.st M.lim x (stopsAll m l) → hr [.vs (eSps l), M.fv] (M.J x) (M.nx x) = some (.bool (runS M.st x (stopsAll m l)).2, M.J (runS M.st x (stopsAll m l)).1, M.nx (runS M.st x (stopsAll m l)).1))
    (l : Sps) (x0 : γ) (hv : okP n l) (hro : runOk M.st M.lim x0 (stopsAll n l)) : LOk P 77 [.vs (eSps l), M.fv] (M.J x0) (M.nx x0) (.bool (runS M.st x0 (stopsAll n l)).2) (M.J (runS M.st x0 (stopsAll n l)).1) (M.nx (runS M.st x0 (stopsAll n l)).1) := by
  obtain ⟨h10, hs⟩ := okP_e hv
  have hsb : ∀ x k, Eng.setB (M.J x) (M.nx x) (M.nx x) k = M.J x := fun x k => setB_free fun e he => by have := (M.low x e he).1.2; omega
  have hg := addH_good M.hn (addH_good hhr (noHx_good P))
  refine c77.lok (Cor.run (addC_good g_upwards (noC_good _)) hg hm ?_) ?_
  · simp +contextual -implicitDefEqProofs (maxSteps := 2000000) only [bg_eq, a77, eSps_len, ruH, ruB, Int.reduceLT, Int.reduceLE, Int.reduceAdd, Int.reduceSub, Int.reduceMul, Int.reduceNeg, Int.reduceToNat, Int.reduceEq, Int.reduceNe, Int.reduceTDiv, Int.reduceTMod, implies_true, putL, appN, appX, appC, Eng.Fi, reduceCtorEq, exists_eq_left', exists_eq_left, if_true, if_false, List.replicate, Nat.reduceAdd, Nat.reduceSub, Nat.reduceMul, Nat.reduceLeDiff, Nat.reduceLT, Nat.reduceEqDiff]
    refine Cor.loopC (S77 M l) (fun p => p.1 ≤ l.length ∧ M.nx x0 ≤ M.nx p.2 ∧ runS M.st x0 (stopsAll n l) = runS M.st p.2 (stopsAll n (l.drop p.1)) ∧ runOk M.st M.lim p.2 (stopsAll n (l.drop p.1))) (fun p => l.length - p.1) (a := (0, x0)) ?_ ⟨Nat.zero_le _, Nat.le_refl _, rfl, hro⟩ (Wkn.keep [0, 1, 9, 10, 11] rfl)
    rintro ⟨i, x⟩ ⟨hi, hnx, hf, hok⟩
    simp only at hi hnx hf hok
    rcases Nat.lt_or_ge i l.length with h | h
    · have e1 : decide ((i : Int) < (l.length : Int)) = true := lt_t h
      have e2 := eSps_get l h
      have e3 : IntKind.wrap .i64 ((i : Int) + 1) = ((i + 1 : Nat) : Int) := suc_w (by omega)
      have hse := hs l[i] (by simp)
      rw [List.drop_eq_getElem_cons h] at hf hok
      have hsa : stopsAll n (l[i] :: l.drop (i + 1)) = stopsOf n l[i] ++ stopsAll n (l.drop (i + 1)) := List.flatMap_cons
      rw [hsa] at hf hok
      clear hsa
      generalize l[i] = s at *
      refine Cor.seq (Cor.run (addC_good g_upwards (noC_good _)) hg hm ?_)
      simp +contextual -implicitDefEqProofs (maxSteps := 2000000) only [S77, e1, eThen_normal, ruH, ruB, Int.reduceLT, Int.reduceLE, Int.reduceAdd, Int.reduceSub, Int.reduceMul, Int.reduceNeg, Int.reduceToNat, Int.reduceEq, Int.reduceNe, Int.reduceTDiv, Int.reduceTMod, implies_true, putL, appN, appX, appC, Eng.Fi, reduceCtorEq, exists_eq_left', exists_eq_left, if_true, if_false, List.replicate, Nat.reduceAdd, Nat.reduceSub, Nat.reduceMul, Nat.reduceLeDiff, Nat.reduceLT, Nat.reduceEqDiff]
      refine Cor.seq (Cor.run (addC_good g_upwards (noC_good _)) hg hm ?_)
      simp +contextual -implicitDefEqProofs (maxSteps := 2000000) only [eThen_normal, ruH, ruB, Int.reduceLT, Int.reduceLE, Int.reduceAdd, Int.reduceSub, Int.reduceMul, Int.reduceNeg, Int.reduceToNat, Int.reduceEq, Int.reduceNe, Int.reduceTDiv, Int.reduceTMod, implies_true, putL, appN, appX, appC, Eng.Fi, reduceCtorEq, exists_eq_left', exists_eq_left, if_true, if_false, List.replicate, Nat.reduceAdd, Nat.reduceSub, Nat.reduceMul, Nat.reduceLeDiff, Nat.reduceLT, Nat.reduceEqDiff]
      refine Cor.seq (Cor.block (Cor.seq (Cor.run (addC_good g_upwards (noC_good _)) hg hm ?_)))
      obtain ⟨k, ⟨az, el⟩, x2, x3, x4, x5, b⟩ := s
      simp only [eSp] at e2
      simp +contextual -implicitDefEqProofs (maxSteps := 2000000) only [e2, eThen_normal, hsb, ruH, ruB, Int.reduceLT, Int.reduceLE, Int.reduceAdd, Int.reduceSub, Int.reduceMul, Int.reduceNeg, Int.reduceToNat, Int.reduceEq, Int.reduceNe, Int.reduceTDiv, Int.reduceTMod, implies_true, putL, appN, appX, appC, Eng.Fi, reduceCtorEq, exists_eq_left', exists_eq_left, if_true, if_false, List.replicate, Nat.reduceAdd, Nat.reduceSub, Nat.reduceMul, Nat.reduceLeDiff, Nat.reduceLT, Nat.reduceEqDiff]
      refine Cor.wk (s2 := S77b M l (.mk k ⟨az, el⟩ x2 x3 x4 x5 b) i x) ?_ ?_
      · refine Wkn.lowle hnx (A := [⟨M.nx x, M.nx x, .rows 73 8 [eSp (.mk k ⟨az, el⟩ x2 x3 x4 x5 b)]⟩]) [M.nx x] [0, 1, 6, 9, 10, 11] ?_ (M.low x) ?_
        · simp
        · have hsu := M.sub x _ (fun t ht => fate_low ⟨M.nx x, [], [M.nx x], M.nx x, [0, 1, 6, 9, 10, 11]⟩ ([⟨M.nx x, M.nx x, .rows 73 8 [eSp (.mk k ⟨az, el⟩ x2 x3 x4 x5 b)]⟩] ++ M.J x) t ht)
          have hfz : (⟨M.nx x, [], [M.nx x], M.nx x, [0, 1, 6, 9, 10, 11]⟩ : Wk).fate ([⟨M.nx x, M.nx x, .rows 73 8 [eSp (.mk k ⟨az, el⟩ x2 x3 x4 x5 b)]⟩] ++ M.J x) (M.nx x) = .froz 8 [eSp (.mk k ⟨az, el⟩ x2 x3 x4 x5 b)] := by
            simp [Wk.fate, memN, getE, subs, free_Sp]
          simp only [List.cons_append, List.nil_append] at hsu hfz
          simp [keepT, memN, sub1, subs, hsu.1, hsu.2, free_Sps, hfz]
      · have hx1 := hf
        refine Cor.run (addC_good g_upwards (noC_good _)) hg hm ?_
        by_cases h0 : k = 0
        · have hso : stopsOf n (.mk k ⟨az, el⟩ x2 x3 x4 x5 b) = [⟨az, el, x4⟩] := by
            cases n with
            | zero => simp only [stopsOf, oneS, Sp.k, h0]; rfl
            | succ m => simp only [stopsOf, oneS, Sp.k, h0]; rfl
          rw [hso, List.cons_append, List.nil_append] at hx1 hok
          rw [runS] at hx1
          obtain ⟨hlim, hok⟩ := hok
          have yx := M.hyE x ⟨az, el, x4⟩ hlim
          have hmo := M.mono x ⟨az, el, x4⟩ hlim
          generalize M.st x ⟨az, el, x4⟩ = q at *
          obtain ⟨x', bb⟩ := q
          simp only at yx hx1 hok hmo
          cases bb with
          | true =>
            simp only [if_true] at hx1
            simp +contextual -implicitDefEqProofs (maxSteps := 2000000) only [S77b, eSp, h0, M.ne, M.ne2, yx, eBlk_normal, eThen_normal, ruH, ruB, Int.reduceLT, Int.reduceLE, Int.reduceAdd, Int.reduceSub, Int.reduceMul, Int.reduceNeg, Int.reduceToNat, Int.reduceEq, Int.reduceNe, Int.reduceTDiv, Int.reduceTMod, implies_true, putL, appN, appX, appC, Eng.Fi, reduceCtorEq, exists_eq_left', exists_eq_left, if_true, if_false, List.replicate, Nat.reduceAdd, Nat.reduceSub, Nat.reduceMul, Nat.reduceLeDiff, Nat.reduceLT, Nat.reduceEqDiff]
            refine Cor.run (addC_good g_upwards (noC_good _)) hg hm ?_
            simp +contextual -implicitDefEqProofs (maxSteps := 2000000) only [e3, eThen_normal, ruH, ruB, Int.reduceLT, Int.reduceLE, Int.reduceAdd, Int.reduceSub, Int.reduceMul, Int.reduceNeg, Int.reduceToNat, Int.reduceEq, Int.reduceNe, Int.reduceTDiv, Int.reduceTMod, implies_true, putL, appN, appX, appC, Eng.Fi, reduceCtorEq, exists_eq_left', exists_eq_left, if_true, if_false, List.replicate, Nat.reduceAdd, Nat.reduceSub, Nat.reduceMul, Nat.reduceLeDiff, Nat.reduceLT, Nat.reduceEqDiff]
            exact ⟨(i + 1, x'), ⟨h, Nat.le_trans hnx hmo, hx1, hok rfl⟩, by simp only; omega, Wkn.keep [0, 1, 9, 10, 11] rfl⟩
          | false =>
            simp only [Bool.false_eq_true, if_false] at hx1
            rw [hx1]
            simp +contextual -implicitDefEqProofs (maxSteps := 2000000) only [S77b, eSp, h0, M.ne, M.ne2, yx, eBlk_ret, eThen_ret, unw_R, FinL, ruH, ruB, Int.reduceLT, Int.reduceLE, Int.reduceAdd, Int.reduceSub, Int.reduceMul, Int.reduceNeg, Int.reduceToNat, Int.reduceEq, Int.reduceNe, Int.reduceTDiv, Int.reduceTMod, implies_true, putL, appN, appX, appC, Eng.Fi, reduceCtorEq, exists_eq_left', exists_eq_left, if_true, if_false, List.replicate, Nat.reduceAdd, Nat.reduceSub, Nat.reduceMul, Nat.reduceLeDiff, Nat.reduceLT, Nat.reduceEqDiff]
        · by_cases h1 : k = 1
          · have hso : stopsOf n (.mk k ⟨az, el⟩ x2 x3 x4 x5 b) = swL az el x4 (upw az x2) x3 361 0 := by
              cases n with
              | zero => simp only [stopsOf, oneS, Sp.k, h1]; rfl
              | succ m => simp only [stopsOf, oneS, Sp.k, h1]; rfl
            obtain ⟨⟨v1, v2⟩, v3, v4⟩ := stE_one hse (by simp only [Sp.k, h1]; decide)
            obtain ⟨v4, v5⟩ := v4 h1
            simp only [Sp.at', Sp.x2, Sp.x3, Sp.x4] at v1 v2 v3 v4 v5
            unfold azR at v1 v4
            have u1 : upB az x2 = True := by unfold upB; simp only [eq_iff_iff, iff_true]; omega
            have hw := upw_bd az x2
            rw [hso] at hx1 hok
            simp +contextual -implicitDefEqProofs (maxSteps := 2000000) only [S77b, eSp, h0, h1, ruH, ruB, Int.reduceLT, Int.reduceLE, Int.reduceAdd, Int.reduceSub, Int.reduceMul, Int.reduceNeg, Int.reduceToNat, Int.reduceEq, Int.reduceNe, Int.reduceTDiv, Int.reduceTMod, implies_true, putL, appN, appX, appC, Eng.Fi, reduceCtorEq, exists_eq_left', exists_eq_left, if_true, if_false, List.replicate, Nat.reduceAdd, Nat.reduceSub, Nat.reduceMul, Nat.reduceLeDiff, Nat.reduceLT, Nat.reduceEqDiff]
            generalize hrest : stopsAll n (l.drop (i + 1)) = rest at hx1 hok
            refine Cor.loopC (S77c M l (.mk 1 ⟨az, el⟩ x2 x3 x4 x5 b) i) (fun p => (0 ≤ p.1 ∧ p.1 ≤ 1000) ∧ M.nx x0 ≤ M.nx p.2 ∧ ∃ f : Nat, 361 ≤ p.1 + f ∧ runS M.st x0 (stopsAll n l) = runS M.st p.2 (swL az el x4 (upw az x2) x3 f p.1 ++ rest) ∧ runOk M.st M.lim p.2 (swL az el x4 (upw az x2) x3 f p.1 ++ rest)) (fun p => (1000 - p.1).toNat) (a := (0, x)) ?_ ⟨by simp, hnx, 361, by simp, hx1, hok⟩ (Wkn.keep [0, 1, 6, 7, 9, 10, 11] rfl)
            rintro ⟨o, x'⟩ ⟨⟨o1, o2⟩, hnx2, fu, hfu, hx2, hok2⟩
            simp only at o1 o2 hnx2 hfu hx2 hok2
            by_cases hle : o ≤ upw az x2
            · obtain ⟨f', rfl⟩ : ∃ f', fu = f' + 1 := ⟨fu - 1, by omega⟩
              rw [swL, if_pos hle, List.cons_append] at hx2 hok2
              rw [runS] at hx2
              obtain ⟨hlim, hok2⟩ := hok2
              have yx := M.hyE x' ⟨upw 0 (az + o), el, x4⟩ hlim
              have hmo := M.mono x' ⟨upw 0 (az + o), el, x4⟩ hlim
              generalize M.st x' ⟨upw 0 (az + o), el, x4⟩ = q at *
              obtain ⟨x'', bb⟩ := q
              simp only at yx hx2 hok2 hmo
              have w1 : IntKind.wrap .i64 (az + o) = az + o := wrap64 (by omega) (by omega)
              have w2 : IntKind.wrap .i64 (o + x3) = o + x3 := wrap64 (by omega) (by omega)
              have u2 : upB 0 (az + o) = True := by unfold upB; simp only [eq_iff_iff, iff_true]; omega
              refine Cor.seq (Cor.run (addC_good g_upwards (noC_good _)) hg hm ?_)
              simp +contextual -implicitDefEqProofs (maxSteps := 2000000) only [S77c, eSp, x_upwards, u1, hle, eThen_normal, M.ne3, ruH, ruB, Int.reduceLT, Int.reduceLE, Int.reduceAdd, Int.reduceSub, Int.reduceMul, Int.reduceNeg, Int.reduceToNat, Int.reduceEq, Int.reduceNe, Int.reduceTDiv, Int.reduceTMod, implies_true, putL, appN, appX, appC, Eng.Fi, reduceCtorEq, exists_eq_left', exists_eq_left, if_true, if_false, List.replicate, Nat.reduceAdd, Nat.reduceSub, Nat.reduceMul, Nat.reduceLeDiff, Nat.reduceLT, Nat.reduceEqDiff]
              refine Cor.seq (Cor.block (Cor.seq (Cor.run (addC_good g_upwards (noC_good _)) hg hm ?_)))
              simp +contextual -implicitDefEqProofs (maxSteps := 2000000) only [x_upwards, u2, w1, eThen_normal, hsb, ruH, ruB, Int.reduceLT, Int.reduceLE, Int.reduceAdd, Int.reduceSub, Int.reduceMul, Int.reduceNeg, Int.reduceToNat, Int.reduceEq, Int.reduceNe, Int.reduceTDiv, Int.reduceTMod, implies_true, putL, appN, appX, appC, Eng.Fi, reduceCtorEq, exists_eq_left', exists_eq_left, if_true, if_false, List.replicate, Nat.reduceAdd, Nat.reduceSub, Nat.reduceMul, Nat.reduceLeDiff, Nat.reduceLT, Nat.reduceEqDiff]
              refine Cor.wk (s2 := S77d M l (.mk 1 ⟨az, el⟩ x2 x3 x4 x5 b) i o ⟨upw 0 (az + o), el⟩ x') ?_ ?_
              · refine Wkn.lowle hnx2 (A := [⟨M.nx x', M.nx x', .rows 37 2 [eDr ⟨upw 0 (az + o), el⟩]⟩]) [M.nx x'] [0, 1, 6, 7, 8, 9, 10, 11] ?_ (M.low x') ?_
                · simp
                · have hsu := M.sub x' _ (fun t ht => fate_low ⟨M.nx x', [], [M.nx x'], M.nx x', [0, 1, 6, 7, 8, 9, 10, 11]⟩ ([⟨M.nx x', M.nx x', .rows 37 2 [eDr ⟨upw 0 (az + o), el⟩]⟩] ++ M.J x') t ht)
                  have hfz : (⟨M.nx x', [], [M.nx x'], M.nx x', [0, 1, 6, 7, 8, 9, 10, 11]⟩ : Wk).fate ([⟨M.nx x', M.nx x', .rows 37 2 [eDr ⟨upw 0 (az + o), el⟩]⟩] ++ M.J x') (M.nx x') = .froz 2 [eDr ⟨upw 0 (az + o), el⟩] := by
                    simp [Wk.fate, memN, getE, subs, sub1]
                  simp only [List.cons_append, List.nil_append] at hsu hfz
                  simp [keepT, memN, sub1, subs, hsu.1, hsu.2, free_Sps, hfz, eSp]
              · refine Cor.run (addC_good g_upwards (noC_good _)) hg hm ?_
                cases bb with
                | true =>
                  simp only [if_true] at hx2
                  simp +contextual -implicitDefEqProofs (maxSteps := 2000000) only [S77d, eSp, M.ne, M.ne2, yx, eBlk_normal, eThen_normal, ruH, ruB, Int.reduceLT, Int.reduceLE, Int.reduceAdd, Int.reduceSub, Int.reduceMul, Int.reduceNeg, Int.reduceToNat, Int.reduceEq, Int.reduceNe, Int.reduceTDiv, Int.reduceTMod, implies_true, putL, appN, appX, appC, Eng.Fi, reduceCtorEq, exists_eq_left', exists_eq_left, if_true, if_false, List.replicate, Nat.reduceAdd, Nat.reduceSub, Nat.reduceMul, Nat.reduceLeDiff, Nat.reduceLT, Nat.reduceEqDiff]
                  refine Cor.run (addC_good g_upwards (noC_good _)) hg hm ?_
                  simp +contextual -implicitDefEqProofs (maxSteps := 2000000) only [w2, eThen_normal, ruH, ruB, Int.reduceLT, Int.reduceLE, Int.reduceAdd, Int.reduceSub, Int.reduceMul, Int.reduceNeg, Int.reduceToNat, Int.reduceEq, Int.reduceNe, Int.reduceTDiv, Int.reduceTMod, implies_true, putL, appN, appX, appC, Eng.Fi, reduceCtorEq, exists_eq_left', exists_eq_left, if_true, if_false, List.replicate, Nat.reduceAdd, Nat.reduceSub, Nat.reduceMul, Nat.reduceLeDiff, Nat.reduceLT, Nat.reduceEqDiff]
                  exact ⟨(o + x3, x''), ⟨⟨by simp only; omega, by simp only; omega⟩, Nat.le_trans hnx2 hmo, f', by simp only; omega, hx2, hok2 rfl⟩, by simp only; omega, Wkn.keep [0, 1, 6, 7, 9, 10, 11] rfl⟩
                | false =>
                  simp only [Bool.false_eq_true, if_false] at hx2
                  rw [hx2]
                  simp +contextual -implicitDefEqProofs (maxSteps := 2000000) only [S77d, eSp, M.ne, M.ne2, yx, eBlk_ret, eThen_ret, unw_R, FinL, ruH, ruB, Int.reduceLT, Int.reduceLE, Int.reduceAdd, Int.reduceSub, Int.reduceMul, Int.reduceNeg, Int.reduceToNat, Int.reduceEq, Int.reduceNe, Int.reduceTDiv, Int.reduceTMod, implies_true, putL, appN, appX, appC, Eng.Fi, reduceCtorEq, exists_eq_left', exists_eq_left, if_true, if_false, List.replicate, Nat.reduceAdd, Nat.reduceSub, Nat.reduceMul, Nat.reduceLeDiff, Nat.reduceLT, Nat.reduceEqDiff]
            · have hx3 : runS M.st x0 (stopsAll n l) = runS M.st x' rest ∧ runOk M.st M.lim x' rest := by
                cases fu with
                | zero => exact ⟨hx2, hok2⟩
                | succ f' => rw [swL, if_neg hle] at hx2 hok2; exact ⟨hx2, hok2⟩
              refine Cor.run (addC_good g_upwards (noC_good _)) hg hm ?_
              simp +contextual -implicitDefEqProofs (maxSteps := 2000000) only [S77c, eSp, x_upwards, u1, hle, M.ne3, eThen_exit, eThen_normal, eBlk_exit, eBlk_normal, unw_R, ruH, ruB, Int.reduceLT, Int.reduceLE, Int.reduceAdd, Int.reduceSub, Int.reduceMul, Int.reduceNeg, Int.reduceToNat, Int.reduceEq, Int.reduceNe, Int.reduceTDiv, Int.reduceTMod, implies_true, putL, appN, appX, appC, Eng.Fi, reduceCtorEq, exists_eq_left', exists_eq_left, if_true, if_false, List.replicate, Nat.reduceAdd, Nat.reduceSub, Nat.reduceMul, Nat.reduceLeDiff, Nat.reduceLT, Nat.reduceEqDiff]
              refine Cor.run (addC_good g_upwards (noC_good _)) hg hm ?_
              simp +contextual -implicitDefEqProofs (maxSteps := 2000000) only [e3, eThen_normal, ruH, ruB, Int.reduceLT, Int.reduceLE, Int.reduceAdd, Int.reduceSub, Int.reduceMul, Int.reduceNeg, Int.reduceToNat, Int.reduceEq, Int.reduceNe, Int.reduceTDiv, Int.reduceTMod, implies_true, putL, appN, appX, appC, Eng.Fi, reduceCtorEq, exists_eq_left', exists_eq_left, if_true, if_false, List.replicate, Nat.reduceAdd, Nat.reduceSub, Nat.reduceMul, Nat.reduceLeDiff, Nat.reduceLT, Nat.reduceEqDiff]
              exact ⟨(i + 1, x'), ⟨h, hnx2, by simp only; rw [hrest]; exact hx3.1, by simp only; rw [hrest]; exact hx3.2⟩, by simp only; omega, Wkn.keep [0, 1, 9, 10, 11] rfl⟩
          · obtain ⟨k1, k2⟩ := (stE_frE hse).1
            simp only [Sp.k] at k1 k2
            obtain rfl : k = 2 := by omega
            obtain ⟨⟨v1, v2⟩, m, rfl, hm1⟩ := stE_rep hse rfl
            simp only [Sp.x5, Sp.body] at v1 v2 hm1
            have hso : stopsOf (m + 1) (.mk 2 ⟨az, el⟩ x2 x3 x4 x5 b) = repL (stopsAll m b) x5.toNat := rfl
            rw [hso] at hx1 hok
            simp +contextual -implicitDefEqProofs (maxSteps := 2000000) only [S77b, eSp, ruH, ruB, Int.reduceLT, Int.reduceLE, Int.reduceAdd, Int.reduceSub, Int.reduceMul, Int.reduceNeg, Int.reduceToNat, Int.reduceEq, Int.reduceNe, Int.reduceTDiv, Int.reduceTMod, implies_true, putL, appN, appX, appC, Eng.Fi, reduceCtorEq, exists_eq_left', exists_eq_left, if_true, if_false, List.replicate, Nat.reduceAdd, Nat.reduceSub, Nat.reduceMul, Nat.reduceLeDiff, Nat.reduceLT, Nat.reduceEqDiff]
            generalize hrest : stopsAll (m + 1) (l.drop (i + 1)) = rest at hx1 hok
            refine Cor.loopC (S77e M l (.mk 2 ⟨az, el⟩ x2 x3 x4 x5 b) i x5) (fun p => (p.1 : Int) ≤ x5 ∧ M.nx x0 ≤ M.nx p.2 ∧ runS M.st x0 (stopsAll (m + 1) l) = runS M.st p.2 (repL (stopsAll m b) (x5.toNat - p.1) ++ rest) ∧ runOk M.st M.lim p.2 (repL (stopsAll m b) (x5.toNat - p.1) ++ rest)) (fun p => x5.toNat - p.1) (a := (0, x)) ?_ ⟨by simp only; omega, hnx, hx1, hok⟩ (Wkn.keep [0, 1, 6, 9, 10, 11, 61, 62] rfl)
            rintro ⟨o, x'⟩ ⟨o1, hnx2, hx2, hok2⟩
            simp only at o1 hnx2 hx2 hok2
            by_cases hlt : (o : Int) < x5
            · obtain ⟨f', hf'⟩ : ∃ f', x5.toNat - o = f' + 1 := ⟨x5.toNat - o - 1, by omega⟩
              rw [hf', repL, List.append_assoc] at hx2 hok2
              rw [runS_app] at hx2
              obtain ⟨hok3, hok2⟩ := runOk_app hok2
              have yx := hre m rfl b x' hm1 hok3
              have hmo := runS_mono M hok3
              generalize runS M.st x' (stopsAll m b) = q at *
              obtain ⟨x'', bb⟩ := q
              simp only at yx hx2 hok2 hmo
              have w1 : IntKind.wrap .i64 ((o : Int) + 1) = ((o + 1 : Nat) : Int) := suc_w (by omega)
              refine Cor.run (addC_good g_upwards (noC_good _)) hg hm ?_
              cases bb with
              | true =>
                simp only [if_true] at hx2
                simp +contextual -implicitDefEqProofs (maxSteps := 2000000) only [S77e, eSp, hlt, w1, M.ne, M.ne2, yx, eBlk_normal, eThen_normal, ruH, ruB, Int.reduceLT, Int.reduceLE, Int.reduceAdd, Int.reduceSub, Int.reduceMul, Int.reduceNeg, Int.reduceToNat, Int.reduceEq, Int.reduceNe, Int.reduceTDiv, Int.reduceTMod, implies_true, putL, appN, appX, appC, Eng.Fi, reduceCtorEq, exists_eq_left', exists_eq_left, if_true, if_false, List.replicate, Nat.reduceAdd, Nat.reduceSub, Nat.reduceMul, Nat.reduceLeDiff, Nat.reduceLT, Nat.reduceEqDiff]
                exact ⟨(o + 1, x''), ⟨by simp only; omega, Nat.le_trans hnx2 hmo, by simp only; rw [show x5.toNat - (o + 1) = f' by omega]; exact hx2, by simp only; rw [show x5.toNat - (o + 1) = f' by omega]; exact hok2 rfl⟩, by simp only; omega, Wkn.keep [0, 1, 6, 9, 10, 11, 61, 62] rfl⟩
              | false =>
                simp only [Bool.false_eq_true, if_false] at hx2
                rw [hx2]
                simp +contextual -implicitDefEqProofs (maxSteps := 2000000) only [S77e, eSp, hlt, w1, M.ne, M.ne2, yx, eBlk_ret, eThen_ret, unw_R, FinL, ruH, ruB, Int.reduceLT, Int.reduceLE, Int.reduceAdd, Int.reduceSub, Int.reduceMul, Int.reduceNeg, Int.reduceToNat, Int.reduceEq, Int.reduceNe, Int.reduceTDiv, Int.reduceTMod, implies_true, putL, appN, appX, appC, Eng.Fi, reduceCtorEq, exists_eq_left', exists_eq_left, if_true, if_false, List.replicate, Nat.reduceAdd, Nat.reduceSub, Nat.reduceMul, Nat.reduceLeDiff, Nat.reduceLT, Nat.reduceEqDiff]
            · have hx3 : runS M.st x0 (stopsAll (m + 1) l) = runS M.st x' rest ∧ runOk M.st M.lim x' rest := by
                rw [show x5.toNat - o = 0 by omega] at hx2 hok2; exact ⟨hx2, hok2⟩
              refine Cor.run (addC_good g_upwards (noC_good _)) hg hm ?_
              simp +contextual -implicitDefEqProofs (maxSteps := 2000000) only [S77e, eSp, hlt, eThen_exit, eThen_normal, eBlk_exit, eBlk_normal, unw_R, ruH, ruB, Int.reduceLT, Int.reduceLE, Int.reduceAdd, Int.reduceSub, Int.reduceMul, Int.reduceNeg, Int.reduceToNat, Int.reduceEq, Int.reduceNe, Int.reduceTDiv, Int.reduceTMod, implies_true, putL, appN, appX, appC, Eng.Fi, reduceCtorEq, exists_eq_left', exists_eq_left, if_true, if_false, List.replicate, Nat.reduceAdd, Nat.reduceSub, Nat.reduceMul, Nat.reduceLeDiff, Nat.reduceLT, Nat.reduceEqDiff]
              refine Cor.run (addC_good g_upwards (noC_good _)) hg hm ?_
              simp +contextual -implicitDefEqProofs (maxSteps := 2000000) only [e3, eThen_normal, ruH, ruB, Int.reduceLT, Int.reduceLE, Int.reduceAdd, Int.reduceSub, Int.reduceMul, Int.reduceNeg, Int.reduceToNat, Int.reduceEq, Int.reduceNe, Int.reduceTDiv, Int.reduceTMod, implies_true, putL, appN, appX, appC, Eng.Fi, reduceCtorEq, exists_eq_left', exists_eq_left, if_true, if_false, List.replicate, Nat.reduceAdd, Nat.reduceSub, Nat.reduceMul, Nat.reduceLeDiff, Nat.reduceLT, Nat.reduceEqDiff]
              exact ⟨(i + 1, x'), ⟨h, hnx2, by simp only; rw [hrest]; exact hx3.1, by simp only; rw [hrest]; exact hx3.2⟩, by simp only; omega, Wkn.keep [0, 1, 9, 10, 11] rfl⟩
    · have e1 : decide ((i : Int) < (l.length : Int)) = false := lt_f h
      rw [List.drop_eq_nil_of_le h] at hf
      have hf : runS M.st x0 (stopsAll n l) = (x, true) := hf
      rw [hf]
      refine Cor.run (addC_good g_upwards (noC_good _)) hg hm ?_
      simp +contextual -implicitDefEqProofs (maxSteps := 2000000) only [S77, e1, eThen_exit, eBlk_exit, eThen_normal, unw_R, FinL, ruH, ruB, Int.reduceLT, Int.reduceLE, Int.reduceAdd, Int.reduceSub, Int.reduceMul, Int.reduceNeg, Int.reduceToNat, Int.reduceEq, Int.reduceNe, Int.reduceTDiv, Int.reduceTMod, implies_true, putL, appN, appX, appC, Eng.Fi, reduceCtorEq, exists_eq_left', exists_eq_left, if_true, if_false, List.replicate, Nat.reduceAdd, Nat.reduceSub, Nat.reduceMul, Nat.reduceLeDiff, Nat.reduceLT, Nat.reduceEqDiff]
  · exact fun G => YH_add (fun e => by have := M.ne; rw [← e] at this; simp [yld] at this) (YH_add (by decide) (YH_no _ G))
section
open Classical
noncomputable def stopsH {γ : Type} (M : Mach γ) (n : Nat) : List AV → List HEnt → Nat → Option (AV × List HEnt × Nat) := fun args H nx =>
  if h : ∃ p : Sps × γ, args = [.vs (eSps p.1), M.fv] ∧ H = M.J p.2 ∧ nx = M.nx p.2 ∧ okP n p.1 ∧ runOk M.st M.lim p.2 (stopsAll n p.1) then
    some (.bool (runS M.st (Classical.choose h).2 (stopsAll n (Classical.choose h).1)).2, M.J (runS M.st (Classical.choose h).2 (stopsAll n (Classical.choose h).1)).1, M.nx (runS M.st (Classical.choose h).2 (stopsAll n (Classical.choose h).1)).1) else none
theorem stopsH_e {γ : Type} (M : Mach γ) (n : Nat) (l : Sps) (x : γ) (h1 : okP n l) (h2 : runOk M.st M.lim x (stopsAll n l)) :
    stopsH M n [.vs (eSps l), M.fv] (M.J x) (M.nx x) = some (.bool (runS M.st x (stopsAll n l)).2, M.J (runS M.st x (stopsAll n l)).1, M.nx (runS M.st x (stopsAll n l)).1) := by
  have h : ∃ p : Sps × γ, [AV.vs (eSps l), M.fv] = [.vs (eSps p.1), M.fv] ∧ M.J x = M.J p.2 ∧ M.nx x = M.nx p.2 ∧ okP n p.1 ∧ runOk M.st M.lim p.2 (stopsAll n p.1) := ⟨(l, x), rfl, rfl, rfl, h1, h2⟩
  unfold stopsH
  rw [dif_pos h]
  have hs := Classical.choose_spec h
  have e1 : (Classical.choose h).2 = x := (M.inj _ _ hs.2.1).symm
  have e2 : (Classical.choose h).1 = l := by
    exact (eSps_inj _ _ (AV.vs.inj (List.cons.inj hs.1).1)).symm
  rw [e1, e2]
theorem stopsH_inv {γ : Type} (M : Mach γ) (n : Nat) {args : List AV} {H : List HEnt} {nx : Nat} {v : AV} {hp' : List HEnt} {nx' : Nat} (h : stopsH M n args H nx = some (v, hp', nx')) :
    ∃ l x, args = [.vs (eSps l), M.fv] ∧ H = M.J x ∧ nx = M.nx x ∧ okP n l ∧ runOk M.st M.lim x (stopsAll n l) ∧ v = .bool (runS M.st x (stopsAll n l)).2 ∧ hp' = M.J (runS M.st x (stopsAll n l)).1 ∧ nx' = M.nx (runS M.st x (stopsAll n l)).1 := by
  unfold stopsH at h
  split at h
  · rename_i hc
    have hs := Classical.choose_spec hc
    cases h
    exact ⟨_, _, hs.1, hs.2.1, hs.2.2.1, hs.2.2.2.1, hs.2.2.2.2, rfl, rfl, rfl⟩
  · cases h
end
theorem h_stops {γ : Type} (M : Mach γ) : ∀ n, Hn P 77 (stopsH M n)
  | 0 => fun args H nx v hp' nx' h => by
    obtain ⟨l, x, rfl, rfl, rfl, h1, h2, rfl, rfl, rfl⟩ := stopsH_inv M 0 h
    exact k_stops M 0 (fun _ _ _ => none) (fun _ _ _ _ _ _ h => by cases h) (fun m e => by omega) l x h1 h2
  | n + 1 => fun args H nx v hp' nx' h => by
    obtain ⟨l, x, rfl, rfl, rfl, h1, h2, rfl, rfl, rfl⟩ := stopsH_inv M (n + 1) h
    refine k_stops M (n + 1) (stopsH M n) (h_stops M n) (fun m e l x a b => ?_) l x h1 h2
    obtain rfl : n = m := by omega
    exact stopsH_e M n l x a b
end Sc
