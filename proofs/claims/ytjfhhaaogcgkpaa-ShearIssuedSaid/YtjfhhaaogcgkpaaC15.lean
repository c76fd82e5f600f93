import Derived.Test.YtjfhhaaogcgkpaaEngS9
import Derived.Test.YtjfhhaaogcgkpaaC14
open Go Go.Proofs Eng
set_option maxRecDepth 100000
set_option linter.unusedSimpArgs false
set_option linter.unusedVariables false
def a24 : AC := .seq (.ops false [] [⟨some 3, .box 40 4 1 true, [.t 0], none⟩, ⟨some 6, .alloc 47 5 [.agg [.bool false, .int .i64 0, .int .i64 0, .int .i64 0, .int .i64 0]], [], none⟩, ⟨some 7, .p (.mov), [.c (.int .i64 0)], none⟩]) (.seq (.seq (.ops false [] [⟨some 12, .load 4 true, [.t 3], none⟩, ⟨some 13, .p (.mov), [.t 1], none⟩, ⟨some 14, .call 90, [.t 12, .t 13], none⟩, ⟨some 15, .p (.mov), [.t 2], none⟩, ⟨some 16, .call 91, [.t 15], none⟩, ⟨some 17, .call 85, [.t 16, .c (.int .i64 2)], none⟩, ⟨some 18, .fbs 1, [.t 14, .t 17], none⟩, ⟨some 19, .call 84, [.t 18], none⟩, ⟨some 8, .p (.mov), [.t 19], none⟩]) (.seq (.ops false [] [⟨some 20, .p (.mov), [.t 8], none⟩, ⟨some 21, .p (.binI .neq), [.t 20, .c (.int .i64 0)], none⟩]) (.cond (.t 21) (.seq (.ops false [] [⟨some 22, .p (.build [.bool false, .int .i64 0, .int .i64 0, .int .i64 0, .int .i64 0] []), [], none⟩, ⟨some 23, .p (.mov), [.t 8], none⟩, ⟨none, .store 5 true, [.t 6, .t 22], none⟩, ⟨some 7, .p (.mov), [.t 23], none⟩]) (.ret)) (.skip)))) (.seq (.ops false [] [⟨some 24, .load 4 true, [.t 3], none⟩, ⟨some 25, .call 92, [.t 24], none⟩, ⟨some 9, .p (.mov), [.t 25], none⟩]) (.seq (.seq (.ops false [] [⟨some 26, .p (.mov), [.t 1], none⟩, ⟨some 27, .p (.lenS), [.t 26], none⟩, ⟨some 28, .p (.mov), [.c (.int .i64 0)], none⟩]) (.block 0 (.loop (.seq (.ops false [] [⟨some 29, .p (.binI .lss), [.t 28, .t 27], none⟩]) (.seq (.cond (.t 29) (.skip) (.exit 0)) (.seq (.block 1 (.seq (.ops false [] [⟨some 30, .p (.iaddrS 3), [.t 26, .t 28], none⟩, ⟨some 31, .load 3 true, [.t 30], none⟩, ⟨some 11, .alloc 66 3 [.agg [.int .i64 0, .int .i64 0, .int .i64 0]], [], none⟩, ⟨none, .store 3 true, [.t 11, .t 31], none⟩]) (.seq (.seq (.ops false [] [⟨some 32, .p (.faddr 0), [.t 11], none⟩, ⟨some 33, .load 1 false, [.t 32], none⟩, ⟨some 34, .p (.mov), [.t 2], none⟩, ⟨some 35, .p (.binI .gtr), [.t 33, .t 34], none⟩]) (.cond (.t 35) (.exit 0) (.skip))) (.ops false [] [⟨some 36, .p (.mov), [.t 9], none⟩, ⟨some 37, .load 3 true, [.t 11], none⟩, ⟨some 38, .call 93, [.t 36, .t 37], none⟩])))) (.ops false [] [⟨some 39, .p (.binI .add), [.t 28, .c (.int .i64 1)], none⟩, ⟨some 28, .p (.mov), [.t 39], none⟩]))))))) (.seq (.ops false [] [⟨some 40, .p (.mov), [.t 9], none⟩, ⟨some 41, .p (.mov), [.t 2], none⟩, ⟨some 42, .call 94, [.t 40, .t 41], none⟩]) (.seq (.ops false [] [⟨some 43, .p (.mov), [.t 9], none⟩, ⟨some 44, .p (.nilck), [.t 43], none⟩, ⟨some 45, .p (.faddr 4), [.t 44], none⟩, ⟨some 46, .load 5 true, [.t 45], none⟩, ⟨none, .store 5 true, [.t 6, .t 46], none⟩, ⟨some 7, .p (.mov), [.c (.int .i64 0)], none⟩]) (.ret))))))
theorem c24 : FnC Try.prog 24 47 a24 [.cell 6 5 true, .tmp 7] := ⟨Try.call24, _, _, Try.func24, rfl, by kernel_rfl, by kernel_rfl, rfl⟩
namespace Sh

/-! events that ascend -/
def Va : Int → List Gt → Prop
  | _, [] => True
  | last, g :: r => evE g = 0 ∧ last < g.at' ∧ Va g.at' r
theorem eachX_Va : ∀ {l : List Gt} {i last : Int}, (eachX i last l).2 = 0 → Va last l
  | [], _, _, _ => trivial
  | g :: r, i, last, h => by
    simp only [eachX] at h
    split at h
    · rename_i hx
      have hz := firstE_zero hx
      exact ⟨hz _ (by simp), unl_zero (hz (unl (last < g.at') 9) (by simp)) (by decide), eachX_Va h⟩
    · rename_i hx; exact absurd h hx
theorem chkX_Va {l : List Gt} (h : (chkX l).2 = 0) : Va (-1) l := by
  have h40 := (chkX_zero h).1
  simp only [chkX, h40, if_true] at h
  exact eachX_Va h
/-- the state after all events up to a tick -/
def walkS (r : Rl) (tick : Int) : St → List Gt → St
  | s, [] => s
  | s, g :: l => if tick < g.at' then s else walkS r tick (hearS r s g).1 l
theorem walkS_stop {r : Rl} {tick p : Int} {s : St} : ∀ {l : List Gt}, Va p l → tick < p → walkS r tick s l = s
  | [], _, _ => rfl
  | g :: l, h, ht => by
    obtain ⟨_, h2, _⟩ := h
    simp only [walkS]
    rw [if_pos (by omega)]
theorem nextR_hear {r : Rl} {s : St} {e : Gt} (h : s.heard < e.at') (h0 : (hearS r s e).2 = 0) : nextR r s e = hearS r s e := by
  unfold nextR
  rw [if_neg (by omega), if_pos h0]

/-! the state at a tick -/
def staE (r : Rl) (l : List Gt) (tick : Int) : Int := firstE [evsE r l, unl (0 ≤ tick ∧ tick ≤ 1000000000000) 2]
def stateL (r : Rl) (l : List Gt) (tick : Int) : St × Int := if staE r l tick = 0 then (expS r (walkS r tick st0 l) tick, 0) else (zS, staE r l tick)
def S24 (l : List Gt) (r : Rl) (tick : Int) (p : Nat × St) : AState := ⟨[.any, .any, I tick, .ptr 0 4 0 0, .any, .any, .ptr 1 5 0 0, I 0, .any, .ptr 2 9 0 0, .any, .any, .any, .any, .any, .any, .any, .any, .any, .any, .any, .any, .any, .any, .any, .any, .vs (l.map eG), I l.length, I p.1, .any, .any, .any, .any, .any, .any, .any, .any, .any, .any, .any, .any, .any, .any, .any, .any, .any, .any], [⟨2, 2, .rows 160 9 [eW r p.2]⟩, ⟨1, 1, .rows 47 5 [eS zS]⟩, ⟨0, 0, .rows 40 4 [eR r]⟩], 3⟩
/-- what is known of a state along events -/
def Inv (n : Nat) (s : St) : Prop := (-1 ≤ s.heard ∧ s.heard ≤ 1000000000000) ∧ (-1 ≤ s.quiet ∧ s.quiet ≤ 1000000000000) ∧ (0 ≤ s.num ∧ s.num ≤ n)
theorem Inv.hear {r : Rl} {n : Nat} {s : St} {e : Gt} (h : Inv n s) (hn : n ≤ 1000) (he : evE e = 0) : Inv (n + 1) (hearS r s e).1 ∧ (hearS r s e).1.heard = e.at' ∧ (hearS r s e).2 = 0 := by
  obtain ⟨h1, h2, h3⟩ := h
  have h0 := (evE_zero he).1
  have hi := hear_inv (r := r) (s := s) h0 h2 (by omega)
  obtain ⟨g1, g2, g3, g4, g5, g6⟩ := hi
  exact ⟨⟨by omega, g2, by omega⟩, g1, g6⟩
theorem Inv.sm {n : Nat} {s : St} (h : Inv n s) (hn : n ≤ 1000) : sm s.heard ∧ sm s.quiet ∧ sm s.num := by
  obtain ⟨h1, h2, h3⟩ := h
  exact ⟨by omega, by omega, by omega⟩
set_option maxHeartbeats 2000000 in
theorem k24 (l : List Gt) (r : Rl) (tick : Int) (hl : l.length ≤ 1099511627776) : FOk P 24 [eR r, .vs (l.map eG), I tick] (.tup [eS (stateL r l tick).1, I (stateL r l tick).2]) := by
  have h' : (l.length ≤ 1099511627776) = True := by simp [hl]
  refine c24.fok (by simp only [subs, sub1, free_G]) (Cor.run (addC_good g84 (addC_good g85 (addC_good g91 (addC_good g90 (noC_good _))))) (addH_good o92.hn (addH_good o93.hn (addH_good o94.hn (noHx_good _)))) hm ?_) (fun G => YH_add (by decide) (YH_add (by decide) (YH_add (by decide) (YH_no _ _))))
  by_cases h0 : firstE [evsE r l, unl (0 ≤ tick ∧ tick ≤ 1000000000000) 2] = 0
  · have hz := firstE_zero h0
    have hz1 := hz (evsE r l) (by simp)
    have htk := unl_zero (hz (unl (0 ≤ tick ∧ tick ≤ 1000000000000) 2) (by simp)) (by decide)
    obtain ⟨hr0, hx0⟩ := evsE_zero hz1
    obtain ⟨hlen, hev⟩ := chkX_zero hx0
    have hres : stateL r l tick = (expS r (walkS r tick st0 l) tick, 0) := by simp only [stateL, staE, h0, if_true]
    rw [hres]
    simp +contextual -implicitDefEqProofs only [bg_eq, a24, x90, x91, x85, x84, r84s, Lmax, y92, h', h0, List.length_map, ruH, ruB, Int.reduceLT, Int.reduceLE, Int.reduceAdd, Int.reduceSub, Int.reduceMul, Int.reduceNeg, Int.reduceToNat, Int.reduceEq, Int.reduceNe, Int.reduceTDiv, Int.reduceTMod, implies_true, putL, appN, appX, Eng.Fi, reduceCtorEq, exists_eq_left', exists_eq_left, if_true, if_false, List.replicate, Nat.reduceAdd, Nat.reduceSub, Nat.reduceMul, Nat.reduceLeDiff, Nat.reduceLT, Nat.reduceEqDiff]
    refine Cor.lp (addC_good g84 (addC_good g85 (addC_good g91 (addC_good g90 (noC_good _))))) (addH_good o92.hn (addH_good o93.hn (addH_good o94.hn (noHx_good _)))) hm (S24 l r tick) (fun p => p.1 ≤ l.length ∧ walkS r tick st0 l = walkS r tick p.2 (l.drop p.1) ∧ Inv p.1 p.2) (fun p => l.length - p.1) (a := (0, st0)) ⟨Nat.zero_le _, by simp, by simp [Inv, st0]⟩ (Wkn.to ⟨0, [(0, 0), (1, 1), (2, 2)], [], 3, [2, 3, 6, 7, 9, 26, 27, 28]⟩ rfl rfl (by simp only [Wk.st, keepT, sub1, subs, Wk.hp, ABlk.sub, free_G]; try rfl)) ?_
    rintro f ⟨n, s⟩ ⟨hn, hf, hi⟩ go
    simp only at hn hf hi
    have hsm := hi.sm (by omega)
    have hex : (sm tick ∧ sm s.heard) = True := by simp only [eq_iff_iff, iff_true]; exact ⟨by omega, hsm.1⟩
    have ye := y94 r s tick hex
    rcases Nat.lt_or_ge n l.length with h | h
    · have e1 : decide ((n : Int) < (l.length : Int)) = true := by simp; omega
      have e2 : (l.map eG)[n]? = some (eG l[n]) := by simp [h]
      have e3 : IntKind.wrap .i64 ((n : Int) + 1) = ((n + 1 : Nat) : Int) := by rw [wrap64 (by omega) (by omega)]; rfl
      have e4 : l.drop n = l[n] :: l.drop (n + 1) := List.drop_eq_getElem_cons h
      have hee := hev l[n] (by simp)
      rw [e4, walkS] at hf
      generalize l[n] = e at *
      have ha := (evE_zero hee).1
      have hj := hi.hear (r := r) (by omega) hee
      have ys : (sm e.at' ∧ sm s.heard ∧ sm s.quiet ∧ sm s.num) = True := by simp only [eq_iff_iff, iff_true]; exact ⟨by omega, hsm⟩
      have y := y93 r s e ys
      by_cases ht : tick < e.at'
      · rw [if_pos ht] at hf
        simp +contextual -implicitDefEqProofs only [S24, e1, e2, e3, ht, ye, hf, ruH, ruB, Int.reduceLT, Int.reduceLE, Int.reduceAdd, Int.reduceSub, Int.reduceMul, Int.reduceNeg, Int.reduceToNat, Int.reduceEq, Int.reduceNe, Int.reduceTDiv, Int.reduceTMod, implies_true, putL, appN, appX, Eng.Fi, reduceCtorEq, exists_eq_left', exists_eq_left, if_true, if_false, List.replicate, Nat.reduceAdd, Nat.reduceSub, Nat.reduceMul, Nat.reduceLeDiff, Nat.reduceLT, Nat.reduceEqDiff]
      · rw [if_neg ht] at hf
        simp +contextual -implicitDefEqProofs only [S24, e1, e2, e3, ht, y, ruH, ruB, Int.reduceLT, Int.reduceLE, Int.reduceAdd, Int.reduceSub, Int.reduceMul, Int.reduceNeg, Int.reduceToNat, Int.reduceEq, Int.reduceNe, Int.reduceTDiv, Int.reduceTMod, implies_true, putL, appN, appX, Eng.Fi, reduceCtorEq, exists_eq_left', exists_eq_left, if_true, if_false, List.replicate, Nat.reduceAdd, Nat.reduceSub, Nat.reduceMul, Nat.reduceLeDiff, Nat.reduceLT, Nat.reduceEqDiff]
        exact go _ (n + 1, (hearS r s e).1) ⟨h, hf, hj.1⟩ (by simp only; omega) (Wkn.to ⟨0, [(0, 0), (1, 1), (2, 2)], [], 3, [2, 3, 6, 7, 9, 26, 27, 28]⟩ rfl rfl (by simp only [Wk.st, keepT, sub1, subs, Wk.hp, ABlk.sub, free_G]; try rfl))
    · have e1 : decide ((n : Int) < (l.length : Int)) = false := by simp; omega
      rw [List.drop_eq_nil_of_le h, walkS] at hf
      simp +contextual -implicitDefEqProofs only [S24, e1, ye, hf, ruH, ruB, Int.reduceLT, Int.reduceLE, Int.reduceAdd, Int.reduceSub, Int.reduceMul, Int.reduceNeg, Int.reduceToNat, Int.reduceEq, Int.reduceNe, Int.reduceTDiv, Int.reduceTMod, implies_true, putL, appN, appX, Eng.Fi, reduceCtorEq, exists_eq_left', exists_eq_left, if_true, if_false, List.replicate, Nat.reduceAdd, Nat.reduceSub, Nat.reduceMul, Nat.reduceLeDiff, Nat.reduceLT, Nat.reduceEqDiff]
  · have hres : stateL r l tick = (zS, staE r l tick) := by simp only [stateL, staE, h0, if_false]
    rw [hres]
    simp +contextual -implicitDefEqProofs only [bg_eq, a24, x90, x91, x85, x84, r84s, Lmax, y92, h', h0, staE, zS, not_false_eq_true, ruH, ruB, Int.reduceLT, Int.reduceLE, Int.reduceAdd, Int.reduceSub, Int.reduceMul, Int.reduceNeg, Int.reduceToNat, Int.reduceEq, Int.reduceNe, Int.reduceTDiv, Int.reduceTMod, implies_true, putL, appN, appX, Eng.Fi, reduceCtorEq, exists_eq_left', exists_eq_left, if_true, if_false, List.replicate, Nat.reduceAdd, Nat.reduceSub, Nat.reduceMul, Nat.reduceLeDiff, Nat.reduceLT, Nat.reduceEqDiff]
def decR : AV → Option Rl
  | .agg [.int .i64 a, .int .i64 b, .int .i64 c, .int .i64 d] => some ⟨a, b, c, d⟩
  | _ => none
theorem decR_inv {v : AV} {r : Rl} (h : decR v = some r) : v = eR r := by
  unfold decR at h
  split at h
  · cases h; rfl
  · cases h
def c24f : List AV → Option AV
  | [v, .vs vals, .int .i64 t] => match decR v with
    | some r => onL dG vals fun l => if l.length ≤ 1099511627776 then some (.tup [eS (stateL r l t).1, I (stateL r l t).2]) else none
    | none => none
  | _ => none
theorem g24 : Fn P 24 c24f := fun args v h => by
  unfold c24f at h; split at h
  · split at h
    · rename_i hr
      obtain ⟨l, rfl, h2⟩ := onL_inv dG_inv h
      split at h2
      · rename_i hc; cases h2; rw [decR_inv hr]; exact k24 l _ _ hc
      · cases h2
    · cases h
  · cases h
theorem x24 (l : List Gt) (r : Rl) (t : Int) (h : (l.length ≤ 1099511627776) = True) : c24f [.agg [I r.raise, I r.clear, I r.hold, I r.tmo], .vs (l.map eG), .int .i64 t] = some (.tup [eS (stateL r l t).1, I (stateL r l t).2]) := by
  simp only [c24f, decR, onL_map dG_e, h, if_true]
def c26f : List AV → Option AV
  | [.vs vals] => onL dG vals fun l => if l.length ≤ 1099511627776 then some (.tup [I (chkX l).1, I (chkX l).2]) else none
  | _ => none
theorem g26 : Fn P 26 c26f := fun args v h => by
  unfold c26f at h; split at h
  · obtain ⟨l, rfl, h2⟩ := onL_inv dG_inv h
    split at h2
    · rename_i hc; cases h2; exact k26 l  hc
    · cases h2
  · cases h
theorem x26 (l : List Gt) (h : (l.length ≤ 1099511627776) = True) : c26f [.vs (l.map eG)] = some (.tup [I (chkX l).1, I (chkX l).2]) := by
  simp only [c26f, onL_map dG_e, h, if_true]
end Sh
