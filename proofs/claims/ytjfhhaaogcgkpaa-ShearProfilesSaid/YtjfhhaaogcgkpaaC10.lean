import Derived.Test.YtjfhhaaogcgkpaaEngS9
import Derived.Test.YtjfhhaaogcgkpaaC9
open Go Go.Proofs Eng
set_option maxRecDepth 100000
set_option linter.unusedSimpArgs false
set_option linter.unusedVariables false
def a25 : AC := .seq (.ops false [] [⟨some 2, .box 40 4 1 true, [.t 0], none⟩, ⟨some 4, .p (.mov), [.c (.nilslice)], none⟩, ⟨some 5, .p (.mov), [.c (.int .i64 0)], none⟩]) (.seq (.seq (.ops false [] [⟨some 12, .load 4 true, [.t 2], none⟩, ⟨some 13, .p (.mov), [.t 1], none⟩, ⟨some 14, .call 90, [.t 12, .t 13], none⟩, ⟨some 6, .p (.mov), [.t 14], none⟩]) (.seq (.ops false [] [⟨some 15, .p (.mov), [.t 6], none⟩, ⟨some 16, .p (.binI .neq), [.t 15, .c (.int .i64 0)], none⟩]) (.cond (.t 16) (.seq (.ops false [] [⟨some 17, .p (.mov), [.t 6], none⟩, ⟨some 4, .p (.mov), [.c (.nilslice)], none⟩, ⟨some 5, .p (.mov), [.t 17], none⟩]) (.ret)) (.skip)))) (.seq (.ops false [] [⟨some 7, .p (.mov), [.c (.nilslice)], none⟩]) (.seq (.ops false [] [⟨some 18, .load 4 true, [.t 2], none⟩, ⟨some 19, .call 92, [.t 18], none⟩, ⟨some 8, .p (.mov), [.t 19], none⟩]) (.seq (.seq (.ops false [] [⟨some 20, .p (.mov), [.t 1], none⟩, ⟨some 21, .p (.lenS), [.t 20], none⟩, ⟨some 22, .p (.mov), [.c (.int .i64 0)], none⟩]) (.block 0 (.loop (.seq (.ops false [] [⟨some 23, .p (.binI .lss), [.t 22, .t 21], none⟩]) (.seq (.cond (.t 23) (.skip) (.exit 0)) (.seq (.block 1 (.seq (.ops false [] [⟨some 24, .p (.iaddrS 3), [.t 20, .t 22], none⟩, ⟨some 25, .load 3 true, [.t 24], none⟩, ⟨some 10, .alloc 66 3 [.agg [.int .i64 0, .int .i64 0, .int .i64 0]], [], none⟩, ⟨none, .store 3 true, [.t 10, .t 25], none⟩]) (.seq (.ops false [] [⟨some 26, .p (.mov), [.t 8], none⟩, ⟨some 27, .p (.nilck), [.t 26], none⟩, ⟨some 28, .p (.faddr 4), [.t 27], none⟩, ⟨some 29, .load 5 true, [.t 28], none⟩, ⟨some 11, .alloc 47 5 [.agg [.bool false, .int .i64 0, .int .i64 0, .int .i64 0, .int .i64 0]], [], none⟩, ⟨none, .store 5 true, [.t 11, .t 29], none⟩]) (.seq (.ops false [] [⟨some 30, .p (.mov), [.t 8], none⟩, ⟨some 31, .load 3 true, [.t 10], none⟩, ⟨some 32, .call 93, [.t 30, .t 31], none⟩]) (.seq (.seq (.ops false [] [⟨some 33, .p (.faddr 0), [.t 11], none⟩, ⟨some 34, .load 1 false, [.t 33], none⟩]) (.cond (.t 34) (.ops false [] [⟨some 35, .p (.mov), [.t 7], none⟩, ⟨some 36, .p (.mov), [.t 7], none⟩, ⟨some 37, .p (.lenS), [.t 36], none⟩, ⟨some 38, .p (.binI .sub), [.t 37, .c (.int .i64 1)], none⟩, ⟨some 39, .p (.faddr 0), [.t 10], none⟩, ⟨some 40, .load 1 false, [.t 39], none⟩, ⟨some 41, .p (.binI .sub), [.t 40, .c (.int .i64 1)], none⟩, ⟨some 42, .p (.faddr 3), [.t 11], none⟩, ⟨some 43, .load 1 false, [.t 42], none⟩, ⟨some 44, .p (.faddr 3), [.t 2], none⟩, ⟨some 45, .load 1 false, [.t 44], none⟩, ⟨some 46, .p (.binI .add), [.t 43, .t 45], none⟩, ⟨some 47, .p (.mm false), [.t 41, .t 46], none⟩, ⟨some 48, .p (.iaddrS 3), [.t 35, .t 38], none⟩, ⟨some 49, .p (.faddr 2), [.t 48], none⟩, ⟨none, .store 1 false, [.t 49, .t 47], none⟩]) (.skip))) (.seq (.seq (.ops true [] [⟨some 50, .p (.mov), [.t 8], none⟩, ⟨some 51, .p (.nilck), [.t 50], none⟩, ⟨some 52, .p (.faddr 4), [.t 51], none⟩, ⟨some 53, .p (.faddr 1), [.t 52], none⟩, ⟨some 54, .load 1 false, [.t 53], none⟩, ⟨some 55, .p (.faddr 1), [.t 11], none⟩, ⟨some 56, .load 1 false, [.t 55], none⟩, ⟨some 57, .p (.binI .gtr), [.t 54, .t 56], none⟩]) (.cond (.t 57) (.ops true [] [⟨some 58, .p (.mov), [.t 7], none⟩, ⟨some 59, .p (.mov), [.t 8], none⟩, ⟨some 60, .p (.nilck), [.t 59], none⟩, ⟨some 61, .p (.faddr 4), [.t 60], none⟩, ⟨some 62, .p (.faddr 1), [.t 61], none⟩, ⟨some 63, .load 1 false, [.t 62], none⟩, ⟨some 64, .p (.mov), [.t 8], none⟩, ⟨some 65, .p (.nilck), [.t 64], none⟩, ⟨some 66, .p (.faddr 4), [.t 65], none⟩, ⟨some 67, .p (.faddr 2), [.t 66], none⟩, ⟨some 68, .load 1 false, [.t 67], none⟩, ⟨some 69, .p (.build [.int .i64 0, .int .i64 0, .int .i64 0] [(0, 1), (1, 1)]), [.t 63, .t 68], none⟩, ⟨some 70, .fbs 3, [.t 69], none⟩, ⟨some 71, .app 69 3 24, [.t 58, .t 70], none⟩, ⟨some 7, .p (.mov), [.t 71], none⟩]) (.skip))) (.seq (.ops false [] [⟨some 72, .p (.mov), [.t 8], none⟩, ⟨some 73, .p (.nilck), [.t 72], none⟩, ⟨some 74, .p (.faddr 4), [.t 73], none⟩, ⟨some 75, .p (.faddr 0), [.t 74], none⟩, ⟨some 76, .load 1 false, [.t 75], none⟩]) (.cond (.t 76) (.ops false [] [⟨some 77, .p (.mov), [.t 7], none⟩, ⟨some 78, .p (.mov), [.t 7], none⟩, ⟨some 79, .p (.lenS), [.t 78], none⟩, ⟨some 80, .p (.binI .sub), [.t 79, .c (.int .i64 1)], none⟩, ⟨some 81, .p (.faddr 0), [.t 10], none⟩, ⟨some 82, .load 1 false, [.t 81], none⟩, ⟨some 83, .p (.faddr 3), [.t 2], none⟩, ⟨some 84, .load 1 false, [.t 83], none⟩, ⟨some 85, .p (.binI .add), [.t 82, .t 84], none⟩, ⟨some 86, .p (.iaddrS 3), [.t 77, .t 80], none⟩, ⟨some 87, .p (.faddr 2), [.t 86], none⟩, ⟨none, .store 1 false, [.t 87, .t 85], none⟩]) (.skip))))))))) (.ops false [] [⟨some 88, .p (.binI .add), [.t 22, .c (.int .i64 1)], none⟩, ⟨some 22, .p (.mov), [.t 88], none⟩]))))))) (.seq (.ops false [] [⟨some 89, .p (.mov), [.t 7], none⟩, ⟨some 4, .p (.mov), [.t 89], none⟩, ⟨some 5, .p (.mov), [.c (.int .i64 0)], none⟩]) (.ret))))))
theorem c25 : FnC Try.prog 25 90 a25 [.tmp 4, .tmp 5] := ⟨Try.call25, _, _, Try.func25, rfl, by kernel_rfl, by kernel_rfl, rfl⟩
def a90 : AC := .seq (.ops false [] [⟨some 2, .box 40 4 1 true, [.t 0], none⟩, ⟨some 4, .p (.mov), [.c (.int .i64 0)], none⟩]) (.seq (.ops false [] [⟨some 8, .p (.mov), [.t 1], none⟩, ⟨some 9, .call 22, [.t 8], none⟩, ⟨some 7, .p (.mov), [.t 9], none⟩, ⟨some 10, .p (.ext 0), [.t 7], none⟩, ⟨some 11, .p (.ext 1), [.t 7], none⟩, ⟨some 5, .p (.mov), [.t 10], none⟩, ⟨some 6, .p (.mov), [.t 11], none⟩]) (.seq (.ops false [] [⟨some 12, .load 4 true, [.t 2], none⟩, ⟨some 13, .call 48, [.t 12], none⟩, ⟨some 14, .p (.mov), [.t 6], none⟩, ⟨some 15, .fbs 1, [.t 13, .t 14], none⟩, ⟨some 16, .call 84, [.t 15], none⟩, ⟨some 4, .p (.mov), [.t 16], none⟩]) (.ret)))
theorem c90 : FnC Try.prog 90 17 a90 [.tmp 4] := ⟨Try.call90, _, _, Try.func90, rfl, by kernel_rfl, by kernel_rfl, rfl⟩
namespace Sh

def evsE (r : Rl) (l : List Gt) : Int := firstE [rlE r, (chkX l).2]
theorem k90 (l : List Gt) (r : Rl) (hl : l.length ≤ 1099511627776) : FOk P 90 [eR r, .vs (l.map eG)] (I (evsE r l)) := by
  have h' : (l.length ≤ 1099511627776) = True := by simp [hl]
  refine c90.fok (by simp only [subs, sub1, free_G]) (Cor.run (addC_good g84 (addC_good g48 (addC_good g22 (noC_good _)))) (noHx_good _) hm ?_)
  simp +contextual -implicitDefEqProofs (maxSteps := 2000000) only [bg_eq, a90, x22, x48, x84, r84s, h', evsE, Lmax, ruB, rh_no, Int.reduceLT, Int.reduceLE, Int.reduceAdd, Int.reduceSub, Int.reduceMul, Int.reduceNeg, Int.reduceToNat, Int.reduceEq, Int.reduceNe, Int.reduceTDiv, Int.reduceTMod, implies_true, putL, appN, appX, appC, Eng.Fi, reduceCtorEq, exists_eq_left', exists_eq_left, if_true, if_false, List.replicate, Nat.reduceAdd, Nat.reduceSub, Nat.reduceMul, Nat.reduceLeDiff, Nat.reduceLT, Nat.reduceEqDiff]
def c90f : List AV → Option AV
  | [.agg [.int .i64 a, .int .i64 b, .int .i64 c, .int .i64 d], .vs vals] => onL dG vals fun l => if l.length ≤ 1099511627776 then some (I (evsE ⟨a, b, c, d⟩ l)) else none
  | _ => none
theorem g90 : Fn P 90 c90f := fun args v h => by
  unfold c90f at h; split at h
  · obtain ⟨l, rfl, h2⟩ := onL_inv dG_inv h
    split at h2
    · rename_i hc; cases h2; exact k90 l ⟨_, _, _, _⟩ hc
    · cases h2
  · cases h
theorem x90 (l : List Gt) (r : Rl) (h : (l.length ≤ 1099511627776) = True) : c90f [.agg [I r.raise, I r.clear, I r.hold, I r.tmo], .vs (l.map eG)] = some (.int .i64 (evsE r l)) := by
  simp only [c90f, onL_map dG_e, h, if_true]

/-! alerts -/
@[ext] structure Al where
  num : Int
  fr : Int
  to : Int
  deriving DecidableEq
abbrev eA (a : Al) : AV := .agg [I a.num, I a.fr, I a.to]
abbrev Ou := Option (List Al × Al)
def Ou.l : Ou → List Al
  | none => []
  | some (m, a) => m ++ [a]
def setO (v : Int) : Ou → Ou
  | none => none
  | some (m, a) => some (m, ⟨a.num, a.fr, v⟩)
def appO (b : Al) : Ou → Ou
  | none => some ([], b)
  | some (m, a) => some (m ++ [a], b)
def stA (r : Rl) (p : St × Ou) (e : Gt) : St × Ou :=
  let s' := (hearS r p.1 e).1
  let o1 := if p.1.up = true then setO (min (e.at' - 1) (p.1.heard + r.tmo)) p.2 else p.2
  let o2 := if p.1.num < s'.num then appO ⟨s'.num, s'.since, 0⟩ o1 else o1
  (s', if s'.up = true then setO (e.at' + r.tmo) o2 else o2)
def alertsL (r : Rl) (l : List Gt) : List Al × Int :=
  if evsE r l = 0 then ((l.foldl (stA r) (st0, none)).2.l, 0) else ([], evsE r l)

theorem hear_inv {r : Rl} {s : St} {e : Gt} (he : 0 ≤ e.at' ∧ e.at' ≤ 1000000000000) (hq : -1 ≤ s.quiet ∧ s.quiet ≤ 1000000000000) (hn : s.num < 62500) :
    (hearS r s e).1.heard = e.at' ∧ (-1 ≤ (hearS r s e).1.quiet ∧ (hearS r s e).1.quiet ≤ 1000000000000) ∧ s.num ≤ (hearS r s e).1.num ∧ (hearS r s e).1.num ≤ s.num + 1 ∧ ((hearS r s e).1.up = true → s.up = true ∨ s.num < (hearS r s e).1.num) ∧ (hearS r s e).2 = 0 := by
  have h1 : (expS r s e.at').num = s.num ∧ (-1 ≤ (expS r s e.at').quiet ∧ (expS r s e.at').quiet ≤ 1000000000000) ∧ ((expS r s e.at').up = true → s.up = true) := by
    unfold expS endS
    split
    · exact ⟨rfl, ⟨by simp, by simp⟩, by simp⟩
    · exact ⟨rfl, hq, id⟩
  have hh : hearS r s e = finS r (midS r (expS r s e.at') e) e := rfl
  generalize expS r s e.at' = s1 at *
  have h2 : (midS r s1 e).num = s.num ∧ (-1 ≤ (midS r s1 e).quiet ∧ (midS r s1 e).quiet ≤ 1000000000000) ∧ ((midS r s1 e).up = true → s.up = true) := by
    obtain ⟨h3, h4, h5⟩ := h1
    have key : ∀ s' : St, s'.num = s1.num → (-1 ≤ s'.quiet ∧ s'.quiet ≤ 1000000000000) → s'.up = s1.up →
        (if ¬ s'.quiet = -1 ∧ r.hold ≤ e.at' - s'.quiet then endS s' else s').num = s.num ∧ (-1 ≤ (if ¬ s'.quiet = -1 ∧ r.hold ≤ e.at' - s'.quiet then endS s' else s').quiet ∧ (if ¬ s'.quiet = -1 ∧ r.hold ≤ e.at' - s'.quiet then endS s' else s').quiet ≤ 1000000000000) ∧ ((if ¬ s'.quiet = -1 ∧ r.hold ≤ e.at' - s'.quiet then endS s' else s').up = true → s.up = true) := by
      intro s' g1 g2 g3
      split
      · exact ⟨g1.trans h3, ⟨by simp [endS], by simp [endS]⟩, by simp [endS]⟩
      · exact ⟨g1.trans h3, g2, fun x => h5 (g3 ▸ x)⟩
    unfold midS
    split
    · refine key _ ?_ ?_ ?_
      · split
        · rfl
        · split <;> rfl
      · split
        · simp
        · split
          · simp only; omega
          · exact h4
      · split
        · rfl
        · split <;> rfl
    · exact ⟨h3, h4, h5⟩
  rw [hh]
  generalize midS r s1 e = s2 at *
  obtain ⟨h3, h4, h5⟩ := h2
  unfold finS
  split
  · split
    · omega
    · exact ⟨rfl, h4, by simp only; omega, by simp only; omega, fun _ => .inr (by simp only; omega), rfl⟩
  · exact ⟨rfl, h4, by simp only; omega, by simp only; omega, fun x => .inl (h5 x), rfl⟩

def outv : Ou → AV
  | none => .nilslice
  | some (m, _) => .slice 2 3 0 (m.length + 1)
def outh : Ou → List HEnt → List HEnt
  | none, h => h
  | some (m, a), h => ⟨2, 2, .rows 69 3 (m.map eA ++ [eA a])⟩ :: h
def S25 (l : List Gt) (r : Rl) (p : Nat × St × Ou) : AState := ⟨[.any, .any, .ptr 0 4 0 0, .any, .any, .any, .any, outv p.2.2, .ptr 1 9 0 0, .any, .any, .any, .any, .any, .any, .any, .any, .any, .any, .any, .vs (l.map eG), I l.length, I p.1, .any, .any, .any, .any, .any, .any, .any, .any, .any, .any, .any, .any, .any, .any, .any, .any, .any, .any, .any, .any, .any, .any, .any, .any, .any, .any, .any, .any, .any, .any, .any, .any, .any, .any, .any, .any, .any, .any, .any, .any, .any, .any, .any, .any, .any, .any, .any, .any, .any, .any, .any, .any, .any, .any, .any, .any, .any, .any, .any, .any, .any, .any, .any, .any, .any, .any, .any], outh p.2.2 [⟨1, 1, .rows 160 9 [eW r p.2.1]⟩, ⟨0, 0, .rows 40 4 [eR r]⟩], 3⟩
theorem evE_zero {e : Gt} (h : evE e = 0) : (0 ≤ e.at' ∧ e.at' ≤ 1000000000000) ∧ ((-20000 ≤ e.lo ∧ e.lo ≤ 20000) ∧ (-20000 ≤ e.hi ∧ e.hi ≤ 20000)) ∧ e.lo ≤ e.hi := by
  have h := firstE_zero h
  have h1 := h (unl ((0 ≤ e.at' ∧ e.at' ≤ 1000000000000) ∧ ((-20000 ≤ e.lo ∧ e.lo ≤ 20000) ∧ (-20000 ≤ e.hi ∧ e.hi ≤ 20000))) 2) (by simp)
  have h1 := unl_zero h1 (by decide)
  exact ⟨h1.1, h1.2, unl_zero (h (unl (e.lo ≤ e.hi) 9) (by simp)) (by decide)⟩
theorem eachX_zero : ∀ {l : List Gt} {i last : Int}, (eachX i last l).2 = 0 → ∀ g ∈ l, ∃ last, xErr last g = 0
  | [], _, _, _, g, hg => by simp at hg
  | x :: l, i, last, h, g, hg => by
    simp only [eachX] at h
    split at h
    · rename_i hx
      rcases List.mem_cons.1 hg with rfl | hg
      · exact ⟨last, hx⟩
      · exact eachX_zero h g hg
    · rename_i hx; exact absurd h hx
theorem chkX_zero {l : List Gt} (h : (chkX l).2 = 0) : l.length ≤ 40 ∧ ∀ g ∈ l, evE g = 0 := by
  unfold chkX at h
  split at h
  · refine ⟨‹_›, fun g hg => ?_⟩
    obtain ⟨last, h2⟩ := eachX_zero h g hg
    exact firstE_zero h2 _ (by simp)
  · simp at h
theorem rlE_zero {r : Rl} (h : rlE r = 0) : (1 ≤ r.raise ∧ r.raise ≤ 20000) ∧ (0 ≤ r.clear ∧ r.clear ≤ 20000) ∧ (0 ≤ r.hold ∧ r.hold ≤ 100000) ∧ (1 ≤ r.tmo ∧ r.tmo ≤ 100000) ∧ r.clear ≤ r.raise := by
  have h := firstE_zero h
  have h1 := h (unl ((((1 ≤ r.raise ∧ r.raise ≤ 20000) ∧ (0 ≤ r.clear ∧ r.clear ≤ 20000)) ∧ (0 ≤ r.hold ∧ r.hold ≤ 100000)) ∧ (1 ≤ r.tmo ∧ r.tmo ≤ 100000)) 2) (by simp)
  have h1 := unl_zero h1 (by decide)
  exact ⟨h1.1.1.1, h1.1.1.2, h1.1.2, h1.2, unl_zero (h (unl (r.clear ≤ r.raise) 9) (by simp)) (by decide)⟩
theorem evsE_zero {r : Rl} {l : List Gt} (h : evsE r l = 0) : rlE r = 0 ∧ (chkX l).2 = 0 := by
  have h := firstE_zero h
  exact ⟨h _ (by simp), h _ (by simp)⟩

theorem wrap1 : IntKind.wrap .i64 (((1 : Nat) : Int) - 1) = 0 := by decide
theorem wrap0 : IntKind.wrap .i64 0 = 0 := by decide
theorem end_get {α : Type} (m : List α) (x : α) : (m ++ [x])[m.length]? = some x := by simp
theorem end_set {α : Type} (m : List α) (x y : α) : (m ++ [x]).set m.length y = m ++ [y] := by simp
theorem endm_get {α : Type} (m : List α) (f : α → AV) (x : AV) : (m.map f ++ [x])[m.length]? = some x := by simp
theorem endm_set {α : Type} (m : List α) (f : α → AV) (x y : AV) : (m.map f ++ [x]).set m.length y = m.map f ++ [y] := by
  simp
theorem endm_get2 {α : Type} (m : List α) (f : α → AV) (x z : AV) : (m.map f ++ [z] ++ [x])[m.length + 1]? = some x := by simp
theorem endm_set2 {α : Type} (m : List α) (f : α → AV) (x y z : AV) : (m.map f ++ [z] ++ [x]).set (m.length + 1) y = m.map f ++ [z] ++ [y] := by
  simp
theorem subs_app (φ : Nat → Fate) (a b : List AV) : subs φ (a ++ b) = subs φ a ++ subs φ b := by simp only [subs_map, List.map_append]
theorem mx (k : Nat) (h : k ≤ 1000) : (k ≤ maxLen) = True := by
  simp only [eq_iff_iff, iff_true]
  exact Nat.le_trans h (by decide)
theorem free_A (φ : Nat → Fate) (l : List Al) : subs φ (l.map eA) = l.map eA := subs_mapE φ _ (fun _ => rfl) l
theorem free_A1 (φ : Nat → Fate) (m : List Al) (a : AV) : subs φ (m.map eA ++ [a]) = m.map eA ++ [sub1 φ a] := by
  rw [subs_map, List.map_append, ← subs_map, free_A]; rfl

theorem k25 (l : List Gt) (r : Rl) (hl : l.length ≤ 1099511627776) : FOk P 25 [eR r, .vs (l.map eG)] (.tup [.vs ((alertsL r l).1.map eA), I (alertsL r l).2]) := by
  have h' : (l.length ≤ 1099511627776) = True := by simp [hl]
  refine c25.fok (by simp only [subs, sub1, free_G]) (Cor.run (addC_good g90 (noC_good _)) (addH_good o92.hn (addH_good o93.hn (noHx_good _))) hm ?_) (fun G => YH_add (by decide) (YH_add (by decide) (YH_no _ _)))
  by_cases h0 : evsE r l = 0
  · simp +contextual -implicitDefEqProofs (maxSteps := 2000000) only [bg_eq, a25, x90, y92, h', h0, List.length_map, ruH, ruB, Int.reduceLT, Int.reduceLE, Int.reduceAdd, Int.reduceSub, Int.reduceMul, Int.reduceNeg, Int.reduceToNat, Int.reduceEq, Int.reduceNe, Int.reduceTDiv, Int.reduceTMod, implies_true, putL, appN, appX, appC, Eng.Fi, reduceCtorEq, exists_eq_left', exists_eq_left, if_true, if_false, List.replicate, Nat.reduceAdd, Nat.reduceSub, Nat.reduceMul, Nat.reduceLeDiff, Nat.reduceLT, Nat.reduceEqDiff]
    obtain ⟨hr0, hx0⟩ := evsE_zero h0
    obtain ⟨hlen, hev⟩ := chkX_zero hx0
    have hrl := rlE_zero hr0
    have hres : alertsL r l = ((l.foldl (stA r) (st0, none)).2.l, 0) := by simp only [alertsL, h0, if_true]
    rw [hres]
    refine Cor.lp (addC_good g90 (noC_good _)) (addH_good o92.hn (addH_good o93.hn (noHx_good _))) hm (S25 l r) (fun p => p.1 ≤ l.length ∧ l.foldl (stA r) (st0, none) = (l.drop p.1).foldl (stA r) (p.2.1, p.2.2) ∧ (p.2.1.up = true → p.2.2.isSome = true) ∧ (-1 ≤ p.2.1.heard ∧ p.2.1.heard ≤ 1000000000000) ∧ (-1 ≤ p.2.1.quiet ∧ p.2.1.quiet ≤ 1000000000000) ∧ (0 ≤ p.2.1.num ∧ p.2.1.num ≤ p.1) ∧ p.2.2.l.length ≤ p.1) (fun p => l.length - p.1) (a := (0, st0, none)) ⟨Nat.zero_le _, by simp, by simp [st0], by simp [st0], by simp [st0], by simp [st0], by simp [Ou.l]⟩ (Wkn.to ⟨0, [(0, 0), (1, 1)], [], 3, [2, 7, 8, 20, 21, 22]⟩ rfl rfl (by simp only [Wk.st, keepT, sub1, subs, Wk.hp, ABlk.sub, free_G]; try rfl)) ?_
    rintro f ⟨n, s, o⟩ ⟨hn, hf, hu, hh, hq, hnum, hol⟩ go
    simp only at hn hf hu hh hq hnum hol
    rcases Nat.lt_or_ge n l.length with h | h
    · have e1 : decide ((n : Int) < (l.length : Int)) = true := by simp; omega
      have e2 : (l.map eG)[n]? = some (eG l[n]) := by simp [h]
      have e3 : IntKind.wrap .i64 ((n : Int) + 1) = ((n + 1 : Nat) : Int) := by rw [wrap64 (by omega) (by omega)]; rfl
      have e4 : l.drop n = l[n] :: l.drop (n + 1) := List.drop_eq_getElem_cons h
      have hev := evE_zero (hev l[n] (by simp))
      generalize l[n] = e at *
      have hi := hear_inv (r := r) hev.1 hq (by omega)
      have ys : (sm e.at' ∧ sm s.heard ∧ sm s.quiet ∧ sm s.num) = True := by simp only [eq_iff_iff, iff_true]; omega
      have y := y93 r s e ys
      rw [e4, List.foldl_cons] at hf
      have hst : stA r (s, o) e = ((hearS r s e).1, if (hearS r s e).1.up = true then setO (e.at' + r.tmo) (if s.num < (hearS r s e).1.num then appO ⟨(hearS r s e).1.num, (hearS r s e).1.since, 0⟩ (if s.up = true then setO (min (e.at' - 1) (s.heard + r.tmo)) o else o) else (if s.up = true then setO (min (e.at' - 1) (s.heard + r.tmo)) o else o)) else (if s.num < (hearS r s e).1.num then appO ⟨(hearS r s e).1.num, (hearS r s e).1.since, 0⟩ (if s.up = true then setO (min (e.at' - 1) (s.heard + r.tmo)) o else o) else (if s.up = true then setO (min (e.at' - 1) (s.heard + r.tmo)) o else o))) := rfl
      generalize hearS r s e = he at *
      obtain ⟨s', er⟩ := he
      simp only at hi hst y
      obtain ⟨hi1, hi2, hi3, hi4, hi5, -⟩ := hi
      have w1 : IntKind.wrap .i64 (e.at' - 1) = e.at' - 1 := wrap64 (by omega) (by omega)
      have w2 : IntKind.wrap .i64 (s.heard + r.tmo) = s.heard + r.tmo := wrap64 (by omega) (by omega)
      have w3 : IntKind.wrap .i64 (e.at' + r.tmo) = e.at' + r.tmo := wrap64 (by omega) (by omega)
      have inv : ∀ o', stA r (s, o) e = (s', o') → (s'.up = true → o'.isSome = true) → o'.l.length ≤ n + 1 → (n + 1 ≤ l.length ∧ l.foldl (stA r) (st0, none) = (l.drop (n + 1)).foldl (stA r) (s', o') ∧ (s'.up = true → o'.isSome = true) ∧ (-1 ≤ s'.heard ∧ s'.heard ≤ 1000000000000) ∧ (-1 ≤ s'.quiet ∧ s'.quiet ≤ 1000000000000) ∧ (0 ≤ s'.num ∧ s'.num ≤ ((n + 1 : Nat) : Int)) ∧ o'.l.length ≤ n + 1) := fun o' g1 g2 g3 => ⟨h, by rw [← g1]; exact hf, g2, by omega, hi2, by omega, g3⟩
      have hrup : s'.up = true ∨ s'.up = false := by cases s'.up <;> simp
      have hsup : s.up = true ∨ s.up = false := by cases s.up <;> simp
      cases o with
      | none =>
        have hs0 : s.up = false := hsup.elim (fun x => by have := hu x; simp at this) id
        rcases Int.lt_or_le s.num s'.num with hlt | hle
        · rcases hrup with hup | hup
          · simp +contextual -implicitDefEqProofs (maxSteps := 2000000) only [S25, outv, outh, e1, e2, e3, y, w1, w2, w3, hs0, hlt, hup, mx, wrap1, ruH, ruB, Int.reduceLT, Int.reduceLE, Int.reduceAdd, Int.reduceSub, Int.reduceMul, Int.reduceNeg, Int.reduceToNat, Int.reduceEq, Int.reduceNe, Int.reduceTDiv, Int.reduceTMod, implies_true, putL, appN, appX, appC, Eng.Fi, reduceCtorEq, exists_eq_left', exists_eq_left, if_true, if_false, List.replicate, Nat.reduceAdd, Nat.reduceSub, Nat.reduceMul, Nat.reduceLeDiff, Nat.reduceLT, Nat.reduceEqDiff]
            refine go _ (n + 1, s', some ([], ⟨s'.num, s'.since, e.at' + r.tmo⟩)) (inv _ ?_ (fun _ => rfl) (by simp [Ou.l])) (by simp only; omega) (Wkn.to ⟨0, [(0, 0), (1, 1), (7, 2)], [], 3, [2, 7, 8, 20, 21, 22]⟩ rfl rfl (by simp only [Wk.st, keepT, sub1, subs, Wk.hp, ABlk.sub, free_G]; try rfl))
            rw [hst]; simp [hs0, hlt, hup, appO, setO]
          · simp +contextual -implicitDefEqProofs (maxSteps := 2000000) only [S25, outv, outh, e1, e2, e3, y, w1, w2, w3, hs0, hlt, hup, mx, ruH, ruB, Int.reduceLT, Int.reduceLE, Int.reduceAdd, Int.reduceSub, Int.reduceMul, Int.reduceNeg, Int.reduceToNat, Int.reduceEq, Int.reduceNe, Int.reduceTDiv, Int.reduceTMod, implies_true, putL, appN, appX, appC, Eng.Fi, reduceCtorEq, exists_eq_left', exists_eq_left, if_true, if_false, List.replicate, Nat.reduceAdd, Nat.reduceSub, Nat.reduceMul, Nat.reduceLeDiff, Nat.reduceLT, Nat.reduceEqDiff]
            refine go _ (n + 1, s', some ([], ⟨s'.num, s'.since, 0⟩)) (inv _ ?_ (fun _ => rfl) (by simp [Ou.l])) (by simp only; omega) (Wkn.to ⟨0, [(0, 0), (1, 1), (7, 2)], [], 3, [2, 7, 8, 20, 21, 22]⟩ rfl rfl (by simp only [Wk.st, keepT, sub1, subs, Wk.hp, ABlk.sub, free_G]; try rfl))
            rw [hst]; simp [hs0, hlt, hup, appO]
        · have hnl : (s.num < s'.num) = False := by simp only [eq_iff_iff, iff_false]; omega
          rcases hrup with hup | hup
          · exact absurd (hi5 hup) (by simp [hs0]; omega)
          · simp +contextual -implicitDefEqProofs (maxSteps := 2000000) only [S25, outv, outh, e1, e2, e3, y, w1, w2, w3, hs0, hnl, hup, ruH, ruB, Int.reduceLT, Int.reduceLE, Int.reduceAdd, Int.reduceSub, Int.reduceMul, Int.reduceNeg, Int.reduceToNat, Int.reduceEq, Int.reduceNe, Int.reduceTDiv, Int.reduceTMod, implies_true, putL, appN, appX, appC, Eng.Fi, reduceCtorEq, exists_eq_left', exists_eq_left, if_true, if_false, List.replicate, Nat.reduceAdd, Nat.reduceSub, Nat.reduceMul, Nat.reduceLeDiff, Nat.reduceLT, Nat.reduceEqDiff]
            refine go _ (n + 1, s', none) (inv _ ?_ (fun x => by rw [hup] at x; cases x) (by simp [Ou.l])) (by simp only; omega) (Wkn.to ⟨0, [(0, 0), (1, 1)], [], 3, [2, 7, 8, 20, 21, 22]⟩ rfl rfl (by simp only [Wk.st, keepT, sub1, subs, Wk.hp, ABlk.sub, free_G]; try rfl))
            rw [hst]; simp [hs0, hnl, hup]
      | some p =>
        obtain ⟨m, a⟩ := p
        have hml : m.length ≤ 39 := by simp [Ou.l] at hol; omega
        have w4 : IntKind.wrap .i64 (((m.length + 1 : Nat) : Int) - 1) = (m.length : Int) := by rw [wrap64 (by omega) (by omega)]; omega
        have w5 : IntKind.wrap .i64 (((m.length + 1 + 1 : Nat) : Int) - 1) = ((m.length + 1 : Nat) : Int) := by rw [wrap64 (by omega) (by omega)]; omega
        have hmx : (m.length + 1 + 1 ≤ maxLen) = True := mx _ (by omega)
        have hmx2 : ((m.length + 1 + 1) * 24 ≤ 140737488355328) = True := by simp only [eq_iff_iff, iff_true]; omega
        have hol1 : m.length + 1 ≤ n := by simpa [Ou.l] using hol
        rcases Int.lt_or_le s.num s'.num with hlt | hle
        · rcases hrup with hup | hup <;> rcases hsup with hs0 | hs0
          · simp +contextual -implicitDefEqProofs (maxSteps := 2000000) only [S25, outv, outh, e1, e2, e3, y, w1, w2, w3, w4, w5, hs0, hlt, hup, hmx, hmx2, endm_get, endm_set, endm_get2, endm_set2, Nat.lt_add_one, List.length_map, ruH, ruB, Int.reduceLT, Int.reduceLE, Int.reduceAdd, Int.reduceSub, Int.reduceMul, Int.reduceNeg, Int.reduceToNat, Int.reduceEq, Int.reduceNe, Int.reduceTDiv, Int.reduceTMod, implies_true, putL, appN, appX, appC, Eng.Fi, reduceCtorEq, exists_eq_left', exists_eq_left, if_true, if_false, List.replicate, Nat.reduceAdd, Nat.reduceSub, Nat.reduceMul, Nat.reduceLeDiff, Nat.reduceLT, Nat.reduceEqDiff]
            refine go _ (n + 1, s', some (m ++ [⟨a.num, a.fr, min (e.at' - 1) (s.heard + r.tmo)⟩], ⟨s'.num, s'.since, e.at' + r.tmo⟩)) (inv _ ?_ (fun _ => rfl) (by simp [Ou.l]; omega)) (by simp only; omega) (Wkn.to ⟨0, [(0, 0), (1, 1), (8, 2)], [], 3, [2, 7, 8, 20, 21, 22]⟩ rfl rfl (by simp only [Wk.st, keepT, sub1, subs, Wk.hp, ABlk.sub, free_G, subs_app, free_A, S25, outv, outh, List.map_append, List.map_cons, List.map_nil, List.length_append, List.length_cons, List.length_nil, Nat.zero_add]; try rfl))
            rw [hst]; simp [hs0, hlt, hup, appO, setO]
          · simp +contextual -implicitDefEqProofs (maxSteps := 2000000) only [S25, outv, outh, e1, e2, e3, y, w1, w2, w3, w4, w5, hs0, hlt, hup, hmx, hmx2, endm_get, endm_set, endm_get2, endm_set2, Nat.lt_add_one, List.length_map, ruH, ruB, Int.reduceLT, Int.reduceLE, Int.reduceAdd, Int.reduceSub, Int.reduceMul, Int.reduceNeg, Int.reduceToNat, Int.reduceEq, Int.reduceNe, Int.reduceTDiv, Int.reduceTMod, implies_true, putL, appN, appX, appC, Eng.Fi, reduceCtorEq, exists_eq_left', exists_eq_left, if_true, if_false, List.replicate, Nat.reduceAdd, Nat.reduceSub, Nat.reduceMul, Nat.reduceLeDiff, Nat.reduceLT, Nat.reduceEqDiff]
            refine go _ (n + 1, s', some (m ++ [a], ⟨s'.num, s'.since, e.at' + r.tmo⟩)) (inv _ ?_ (fun _ => rfl) (by simp [Ou.l]; omega)) (by simp only; omega) (Wkn.to ⟨0, [(0, 0), (1, 1), (7, 2)], [], 3, [2, 7, 8, 20, 21, 22]⟩ rfl rfl (by simp only [Wk.st, keepT, sub1, subs, Wk.hp, ABlk.sub, free_G, subs_app, free_A, S25, outv, outh, List.map_append, List.map_cons, List.map_nil, List.length_append, List.length_cons, List.length_nil, Nat.zero_add]; try rfl))
            rw [hst]; simp [hs0, hlt, hup, appO, setO]
          · simp +contextual -implicitDefEqProofs (maxSteps := 2000000) only [S25, outv, outh, e1, e2, e3, y, w1, w2, w3, w4, w5, hs0, hlt, hup, hmx, hmx2, endm_get, endm_set, endm_get2, endm_set2, Nat.lt_add_one, List.length_map, ruH, ruB, Int.reduceLT, Int.reduceLE, Int.reduceAdd, Int.reduceSub, Int.reduceMul, Int.reduceNeg, Int.reduceToNat, Int.reduceEq, Int.reduceNe, Int.reduceTDiv, Int.reduceTMod, implies_true, putL, appN, appX, appC, Eng.Fi, reduceCtorEq, exists_eq_left', exists_eq_left, if_true, if_false, List.replicate, Nat.reduceAdd, Nat.reduceSub, Nat.reduceMul, Nat.reduceLeDiff, Nat.reduceLT, Nat.reduceEqDiff]
            refine go _ (n + 1, s', some (m ++ [⟨a.num, a.fr, min (e.at' - 1) (s.heard + r.tmo)⟩], ⟨s'.num, s'.since, 0⟩)) (inv _ ?_ (fun _ => rfl) (by simp [Ou.l]; omega)) (by simp only; omega) (Wkn.to ⟨0, [(0, 0), (1, 1), (8, 2)], [], 3, [2, 7, 8, 20, 21, 22]⟩ rfl rfl (by simp only [Wk.st, keepT, sub1, subs, Wk.hp, ABlk.sub, free_G, subs_app, free_A, S25, outv, outh, List.map_append, List.map_cons, List.map_nil, List.length_append, List.length_cons, List.length_nil, Nat.zero_add]; try rfl))
            rw [hst]; simp [hs0, hlt, hup, appO, setO]
          · simp +contextual -implicitDefEqProofs (maxSteps := 2000000) only [S25, outv, outh, e1, e2, e3, y, w1, w2, w3, w4, w5, hs0, hlt, hup, hmx, hmx2, endm_get, endm_set, endm_get2, endm_set2, Nat.lt_add_one, List.length_map, ruH, ruB, Int.reduceLT, Int.reduceLE, Int.reduceAdd, Int.reduceSub, Int.reduceMul, Int.reduceNeg, Int.reduceToNat, Int.reduceEq, Int.reduceNe, Int.reduceTDiv, Int.reduceTMod, implies_true, putL, appN, appX, appC, Eng.Fi, reduceCtorEq, exists_eq_left', exists_eq_left, if_true, if_false, List.replicate, Nat.reduceAdd, Nat.reduceSub, Nat.reduceMul, Nat.reduceLeDiff, Nat.reduceLT, Nat.reduceEqDiff]
            refine go _ (n + 1, s', some (m ++ [a], ⟨s'.num, s'.since, 0⟩)) (inv _ ?_ (fun _ => rfl) (by simp [Ou.l]; omega)) (by simp only; omega) (Wkn.to ⟨0, [(0, 0), (1, 1), (7, 2)], [], 3, [2, 7, 8, 20, 21, 22]⟩ rfl rfl (by simp only [Wk.st, keepT, sub1, subs, Wk.hp, ABlk.sub, free_G, subs_app, free_A, S25, outv, outh, List.map_append, List.map_cons, List.map_nil, List.length_append, List.length_cons, List.length_nil, Nat.zero_add]; try rfl))
            rw [hst]; simp [hs0, hlt, hup, appO, setO]
        · have hnl : (s.num < s'.num) = False := by simp only [eq_iff_iff, iff_false]; omega
          rcases hrup with hup | hup <;> rcases hsup with hs0 | hs0
          · simp +contextual -implicitDefEqProofs (maxSteps := 2000000) only [S25, outv, outh, e1, e2, e3, y, w1, w2, w3, w4, w5, hs0, hnl, hup, hmx, hmx2, endm_get, endm_set, endm_get2, endm_set2, Nat.lt_add_one, List.length_map, ruH, ruB, Int.reduceLT, Int.reduceLE, Int.reduceAdd, Int.reduceSub, Int.reduceMul, Int.reduceNeg, Int.reduceToNat, Int.reduceEq, Int.reduceNe, Int.reduceTDiv, Int.reduceTMod, implies_true, putL, appN, appX, appC, Eng.Fi, reduceCtorEq, exists_eq_left', exists_eq_left, if_true, if_false, List.replicate, Nat.reduceAdd, Nat.reduceSub, Nat.reduceMul, Nat.reduceLeDiff, Nat.reduceLT, Nat.reduceEqDiff]
            refine go _ (n + 1, s', some (m, ⟨a.num, a.fr, e.at' + r.tmo⟩)) (inv _ ?_ (fun _ => rfl) (by simp [Ou.l]; omega)) (by simp only; omega) (Wkn.to ⟨0, [(0, 0), (1, 1), (2, 2)], [], 3, [2, 7, 8, 20, 21, 22]⟩ rfl rfl (by simp only [Wk.st, keepT, sub1, subs, Wk.hp, ABlk.sub, free_G, subs_app, free_A, S25, outv, outh, List.map_append, List.map_cons, List.map_nil, List.length_append, List.length_cons, List.length_nil, Nat.zero_add]; try rfl))
            rw [hst]; simp [hs0, hnl, hup, appO, setO]
          · exact absurd (hi5 hup) (by simp [hs0]; omega)
          · simp +contextual -implicitDefEqProofs (maxSteps := 2000000) only [S25, outv, outh, e1, e2, e3, y, w1, w2, w3, w4, w5, hs0, hnl, hup, hmx, hmx2, endm_get, endm_set, endm_get2, endm_set2, Nat.lt_add_one, List.length_map, ruH, ruB, Int.reduceLT, Int.reduceLE, Int.reduceAdd, Int.reduceSub, Int.reduceMul, Int.reduceNeg, Int.reduceToNat, Int.reduceEq, Int.reduceNe, Int.reduceTDiv, Int.reduceTMod, implies_true, putL, appN, appX, appC, Eng.Fi, reduceCtorEq, exists_eq_left', exists_eq_left, if_true, if_false, List.replicate, Nat.reduceAdd, Nat.reduceSub, Nat.reduceMul, Nat.reduceLeDiff, Nat.reduceLT, Nat.reduceEqDiff]
            refine go _ (n + 1, s', some (m, ⟨a.num, a.fr, min (e.at' - 1) (s.heard + r.tmo)⟩)) (inv _ ?_ (fun _ => rfl) (by simp [Ou.l]; omega)) (by simp only; omega) (Wkn.to ⟨0, [(0, 0), (1, 1), (2, 2)], [], 3, [2, 7, 8, 20, 21, 22]⟩ rfl rfl (by simp only [Wk.st, keepT, sub1, subs, Wk.hp, ABlk.sub, free_G, subs_app, free_A, S25, outv, outh, List.map_append, List.map_cons, List.map_nil, List.length_append, List.length_cons, List.length_nil, Nat.zero_add]; try rfl))
            rw [hst]; simp [hs0, hnl, hup, appO, setO]
          · simp +contextual -implicitDefEqProofs (maxSteps := 2000000) only [S25, outv, outh, e1, e2, e3, y, w1, w2, w3, w4, w5, hs0, hnl, hup, hmx, hmx2, endm_get, endm_set, endm_get2, endm_set2, Nat.lt_add_one, List.length_map, ruH, ruB, Int.reduceLT, Int.reduceLE, Int.reduceAdd, Int.reduceSub, Int.reduceMul, Int.reduceNeg, Int.reduceToNat, Int.reduceEq, Int.reduceNe, Int.reduceTDiv, Int.reduceTMod, implies_true, putL, appN, appX, appC, Eng.Fi, reduceCtorEq, exists_eq_left', exists_eq_left, if_true, if_false, List.replicate, Nat.reduceAdd, Nat.reduceSub, Nat.reduceMul, Nat.reduceLeDiff, Nat.reduceLT, Nat.reduceEqDiff]
            refine go _ (n + 1, s', some (m, a)) (inv _ ?_ (fun _ => rfl) (by simp [Ou.l]; omega)) (by simp only; omega) (Wkn.to ⟨0, [(0, 0), (1, 1), (2, 2)], [], 3, [2, 7, 8, 20, 21, 22]⟩ rfl rfl (by simp only [Wk.st, keepT, sub1, subs, Wk.hp, ABlk.sub, free_G, subs_app, free_A, S25, outv, outh, List.map_append, List.map_cons, List.map_nil, List.length_append, List.length_cons, List.length_nil, Nat.zero_add]; try rfl))
            rw [hst]; simp [hs0, hnl, hup, appO, setO]
    · have e1 : decide ((n : Int) < (l.length : Int)) = false := by simp; omega
      rw [List.drop_eq_nil_of_le h] at hf
      rw [hf]
      cases o with
      | none =>
        simp +contextual -implicitDefEqProofs (maxSteps := 2000000) only [S25, e1, outv, outh, ruH, ruB, Int.reduceLT, Int.reduceLE, Int.reduceAdd, Int.reduceSub, Int.reduceMul, Int.reduceNeg, Int.reduceToNat, Int.reduceEq, Int.reduceNe, Int.reduceTDiv, Int.reduceTMod, implies_true, putL, appN, appX, appC, Eng.Fi, reduceCtorEq, exists_eq_left', exists_eq_left, if_true, if_false, List.replicate, Nat.reduceAdd, Nat.reduceSub, Nat.reduceMul, Nat.reduceLeDiff, Nat.reduceLT, Nat.reduceEqDiff]
        exact ⟨rfl, rfl⟩
      | some p =>
        obtain ⟨m, a⟩ := p
        have t1 : (m.length ≤ (m.map eA).length) = True := by simp
        have t2 : (m.map eA ++ [eA a]).take (m.length + 1) = m.map eA ++ [eA a] := by rw [List.take_of_length_le]; simp
        simp +contextual -implicitDefEqProofs (maxSteps := 2000000) only [S25, e1, outv, outh, t1, t2, ruH, ruB, Int.reduceLT, Int.reduceLE, Int.reduceAdd, Int.reduceSub, Int.reduceMul, Int.reduceNeg, Int.reduceToNat, Int.reduceEq, Int.reduceNe, Int.reduceTDiv, Int.reduceTMod, implies_true, putL, appN, appX, appC, Eng.Fi, reduceCtorEq, exists_eq_left', exists_eq_left, if_true, if_false, List.replicate, Nat.reduceAdd, Nat.reduceSub, Nat.reduceMul, Nat.reduceLeDiff, Nat.reduceLT, Nat.reduceEqDiff]
        simp [Ou.l, free_A, subs_app, subs, sub1]
  · simp +contextual -implicitDefEqProofs (maxSteps := 2000000) only [bg_eq, a25, x90, y92, h', h0, alertsL, not_false_eq_true, ruH, ruB, Int.reduceLT, Int.reduceLE, Int.reduceAdd, Int.reduceSub, Int.reduceMul, Int.reduceNeg, Int.reduceToNat, Int.reduceEq, Int.reduceNe, Int.reduceTDiv, Int.reduceTMod, implies_true, putL, appN, appX, appC, Eng.Fi, reduceCtorEq, exists_eq_left', exists_eq_left, if_true, if_false, List.replicate, Nat.reduceAdd, Nat.reduceSub, Nat.reduceMul, Nat.reduceLeDiff, Nat.reduceLT, Nat.reduceEqDiff]
    exact ⟨rfl, rfl⟩
end Sh
