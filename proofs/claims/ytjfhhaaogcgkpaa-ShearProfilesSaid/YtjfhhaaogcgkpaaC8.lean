import Derived.Test.YtjfhhaaogcgkpaaEngS9
import Derived.Test.YtjfhhaaogcgkpaaC7
open Go Go.Proofs Eng
set_option maxRecDepth 100000
set_option linter.unusedSimpArgs false
set_option linter.unusedVariables false
def a116 : AC := .seq (.ops false [] [⟨some 3, .box 71 1 1 false, [.t 0], none⟩, ⟨some 5, .box 171 1 1 false, [.t 2], none⟩, ⟨some 6, .alloc 112 4 [.agg [.int .i64 0, .int .i64 0, .int .i64 0, .int .i64 0]], [], none⟩, ⟨some 7, .p (.mov), [.c (.int .i64 0)], none⟩]) (.seq (.seq (.ops false [] [⟨some 13, .load 1 false, [.t 3], none⟩, ⟨some 14, .p (.mov), [.t 1], none⟩, ⟨some 15, .call 118, [.t 13, .t 14], none⟩, ⟨some 8, .p (.mov), [.t 15], none⟩]) (.seq (.ops false [] [⟨some 16, .p (.mov), [.t 8], none⟩, ⟨some 17, .p (.binI .neq), [.t 16, .c (.int .i64 0)], none⟩]) (.cond (.t 17) (.seq (.ops false [] [⟨some 18, .p (.build [.int .i64 0, .int .i64 0, .int .i64 0, .int .i64 0] []), [], none⟩, ⟨some 19, .p (.mov), [.t 8], none⟩, ⟨none, .store 4 true, [.t 6, .t 18], none⟩, ⟨some 7, .p (.mov), [.t 19], none⟩]) (.ret)) (.skip)))) (.seq (.ops false [] [⟨some 9, .alloc 112 4 [.agg [.int .i64 0, .int .i64 0, .int .i64 0, .int .i64 0]], [], none⟩]) (.seq (.seq (.ops false [] [⟨some 20, .load 1 false, [.t 3], none⟩, ⟨some 21, .p (.mov), [.t 1], none⟩, ⟨some 22, .call 119, [.t 20, .t 21], none⟩]) (.block 0 (.rf (.t 22) [23, 24] (.seq (.ops false [] [⟨some 10, .p (.mov), [.t 23], none⟩]) (.ops false [] [⟨some 11, .p (.mov), [.t 24], none⟩])) (.block 1 (.seq (.ops true [(0, 10), (1, 10), (4, 10), (5, 10), (8, 10), (9, 10)] [⟨some 25, .load 1 false, [.t 5], none⟩, ⟨some 26, .load 1 false, [.t 3], none⟩, ⟨some 27, .p (.mov), [.t 10], none⟩, ⟨some 28, .p (.iaddrS 3), [.t 26, .t 27], none⟩, ⟨some 29, .load 3 true, [.t 28], none⟩, ⟨some 30, .load 1 false, [.t 3], none⟩, ⟨some 31, .p (.mov), [.t 11], none⟩, ⟨some 32, .p (.iaddrS 3), [.t 30, .t 31], none⟩, ⟨some 33, .load 3 true, [.t 32], none⟩, ⟨some 34, .callv, [.t 25, .t 29, .t 33], none⟩, ⟨some 12, .alloc 164 2 [.agg [.int .i64 0, .int .i64 0]], [], none⟩, ⟨none, .store 2 true, [.t 12, .t 34], none⟩]) (.seq (.ops false [] [⟨some 35, .p (.faddr 1), [.t 9], none⟩, ⟨some 36, .load 1 false, [.t 35], none⟩, ⟨some 37, .p (.binI .eql), [.t 36, .c (.int .i64 0)], none⟩, ⟨some 38, .p (.mov), [.t 37], none⟩, ⟨some 39, .p (.faddr 0), [.t 12], some (38, false)⟩, ⟨some 40, .load 1 false, [.t 39], some (38, false)⟩, ⟨some 41, .p (.faddr 2), [.t 9], some (38, false)⟩, ⟨some 42, .p (.faddr 0), [.t 41], some (38, false)⟩, ⟨some 43, .load 1 false, [.t 42], some (38, false)⟩, ⟨some 44, .p (.binI .gtr), [.t 40, .t 43], some (38, false)⟩, ⟨some 45, .p (.pick), [.t 38, .c (.bool true), .t 44], none⟩]) (.cond (.t 45) (.ops false [] [⟨some 46, .p (.mov), [.t 10], none⟩, ⟨some 47, .p (.mov), [.t 11], none⟩, ⟨some 48, .load 2 true, [.t 12], none⟩, ⟨some 49, .p (.build [.int .i64 0, .int .i64 0, .int .i64 0, .int .i64 0] [(0, 1), (1, 1), (2, 2)]), [.t 46, .t 47, .t 48], none⟩, ⟨none, .store 4 true, [.t 9, .t 49], none⟩]) (.skip)))))))) (.seq (.ops true [] [⟨some 50, .load 4 true, [.t 9], none⟩, ⟨some 51, .p (.faddr 1), [.t 9], none⟩, ⟨some 52, .load 1 false, [.t 51], none⟩, ⟨some 53, .p (.binI .gtr), [.t 52, .c (.int .i64 0)], none⟩, ⟨some 54, .call 85, [.t 53, .c (.int .i64 12)], none⟩, ⟨none, .store 4 true, [.t 6, .t 50], none⟩, ⟨some 7, .p (.mov), [.t 54], none⟩]) (.ret)))))
theorem c116 : FnC Try.prog 116 55 a116 [.cell 6 4 true, .tmp 7] := ⟨Try.call116, _, _, Try.func116, rfl, by kernel_rfl, by kernel_rfl, rfl⟩
namespace Sh

/-! the strongest change -/
theorem takeK_mem {d : Int} {gi : Gt} {i : Nat} : ∀ {r : List Gt} {k : Nat} {p : Nat × Nat}, p ∈ takeK d gi i k r → p.1 = i ∧ k ≤ p.2 ∧ p.2 < k + r.length
  | [], k, p, h => by simp [takeK] at h
  | g :: r, k, p, h => by
    simp only [takeK] at h
    split at h
    · rcases List.mem_cons.1 h with rfl | h
      · simp
      · have := takeK_mem h
        simp only [List.length_cons]; omega
    · simp at h
theorem pairsL_mem {d : Int} : ∀ {r : List Gt} {i : Nat} {p : Nat × Nat}, p ∈ pairsL d i r → i ≤ p.1 ∧ p.1 < p.2 ∧ p.2 < i + r.length
  | [], i, p, h => by simp [pairsL] at h
  | g :: r, i, p, h => by
    simp only [pairsL, List.mem_append] at h
    simp only [List.length_cons]
    rcases h with h | h
    · have := takeK_mem h; omega
    · have := pairsL_mem h; omega

structure Ch where
  fr : Int
  to : Int
  lo : Int
  hi : Int
abbrev eC (c : Ch) : AV := .agg [I c.fr, I c.to, I c.lo, I c.hi]
/-- one pair more -/
def stC (chg : Gt → Gt → Int × Int) (l : List Gt) (b : Ch) (p : Nat × Nat) : Ch := match l[p.1]?, l[p.2]? with
  | some gi, some gk => if b.to = 0 ∨ b.lo < (chg gi gk).1 then ⟨p.1, p.2, (chg gi gk).1, (chg gi gk).2⟩ else b
  | _, _ => b
def decP : List AV → Nat × Nat
  | [.int _ i, .int _ k] => (i.toNat, k.toNat)
  | _ => (0, 0)
theorem decP_e (p : Nat × Nat) : decP (eP p) = p := by simp [decP]

theorem foldS_nx {β : Type} {st : β → List AV → β × Jk} (h : ∀ a v, (st a v).2 = .nx) : ∀ (vs : List (List AV)) (a : β), foldS st a vs = (vs.foldl (fun a v => (st a v).1) a, .nx)
  | [], a => rfl
  | v :: vs, a => by
    rw [foldS_cons, h]
    exact foldS_nx h vs _

def strL (chg : Gt → Gt → Int × Int) (l : List Gt) (d : Int) : Ch × Int :=
  if lenE l d = 0 then
    let b := (pairsL d 0 l).foldl (stC chg l) ⟨0, 0, 0, 0⟩
    (b, unl (0 < b.to) 12)
  else (⟨0, 0, 0, 0⟩, lenE l d)

theorem firstE_zero : ∀ {l : List Int}, firstE l = 0 → ∀ e ∈ l, e = 0
  | [], _, e, he => by simp at he
  | x :: l, h, e, he => by
    simp only [firstE] at h
    split at h
    · rename_i hx
      rcases List.mem_cons.1 he with rfl | he
      · exact hx
      · exact firstE_zero h e he
    · rename_i hx; exact absurd h hx
theorem unl_zero {p : Prop} [Decidable p] {e : Int} (h : unl p e = 0) (he : e ≠ 0) : p := by
  unfold unl at h
  split at h
  · assumption
  · exact absurd h he
theorem gErr_zero {last : Int} {g : Gt} (h : gErr last g = 0) : (0 ≤ g.at' ∧ g.at' ≤ 50000) ∧ ((-10000 ≤ g.lo ∧ g.lo ≤ 10000) ∧ (-10000 ≤ g.hi ∧ g.hi ≤ 10000)) ∧ g.lo ≤ g.hi ∧ last < g.at' := by
  have h := firstE_zero h
  have h1 := h (unl ((0 ≤ g.at' ∧ g.at' ≤ 50000) ∧ ((-10000 ≤ g.lo ∧ g.lo ≤ 10000) ∧ (-10000 ≤ g.hi ∧ g.hi ≤ 10000))) 2) (by simp)
  have h1 := unl_zero h1 (by decide)
  have h2 := h (unl (g.lo ≤ g.hi) 9) (by simp)
  have h3 := h (unl (last < g.at') 9) (by simp)
  exact ⟨h1.1, h1.2, unl_zero h2 (by decide), unl_zero h3 (by decide)⟩
theorem eachG_zero : ∀ {l : List Gt} {i last : Int}, (eachG i last l).2 = 0 → ∀ g ∈ l, ∃ last, gErr last g = 0
  | [], _, _, _, g, hg => by simp at hg
  | x :: l, i, last, h, g, hg => by
    simp only [eachG] at h
    split at h
    · rename_i hx
      rcases List.mem_cons.1 hg with rfl | hg
      · exact ⟨last, hx⟩
      · exact eachG_zero h g hg
    · rename_i hx; exact absurd h hx
theorem chkP_zero {l : List Gt} (h : (chkP l).2 = 0) : l.length ≤ 20 ∧ ∀ g ∈ l, ∃ last, gErr last g = 0 := by
  unfold chkP at h
  split at h
  · exact ⟨‹_›, eachG_zero h⟩
  · simp at h
theorem chkP_sG {l : List Gt} (h : (chkP l).2 = 0) : ∀ g ∈ l, sG g := fun g hg => by
  obtain ⟨last, h⟩ := (chkP_zero h).2 g hg
  have := gErr_zero h
  unfold sG; omega
theorem lenE_zero {l : List Gt} {d : Int} (h : lenE l d = 0) : (chkP l).2 = 0 ∧ 0 ≤ d ∧ d ≤ 50000 := by
  have h := firstE_zero h
  exact ⟨h _ (by simp), unl_zero (h (unl (0 ≤ d ∧ d ≤ 50000) 2) (by simp)) (by decide)⟩

def st116 (chg : Gt → Gt → Int × Int) (l : List Gt) (c : Ch) (v : List AV) : Ch × Jk := (stC chg l c (decP v), .nx)
def J116 (f : AV) (l : List Gt) (c : Ch) : List HEnt := [⟨3, 3, .rows 112 4 [eC c]⟩, ⟨2, 2, .rows 112 4 [eC ⟨0, 0, 0, 0⟩]⟩, ⟨1, 1, .rows 171 1 [f]⟩, ⟨0, 0, .rows 71 1 [.vs (l.map eG)]⟩]
theorem J116_inj (f : AV) (l : List Gt) (a b : Ch) (h : J116 f l a = J116 f l b) : a = b := by
  cases a; cases b
  simpa [J116] using h
theorem J116_free (f : AV) (l : List Gt) (a : Ch) : ∀ e ∈ J116 f l a, e.grp ≠ 4 := by
  intro e he
  simp only [J116, List.mem_cons, List.not_mem_nil, or_false] at he
  rcases he with rfl | rfl | rfl | rfl <;> simp
def lossG (a b : Gt) : Int × Int := (a.lo - b.hi, a.hi - b.lo)
theorem k116 (l : List Gt) (d : Int) (hl : l.length ≤ 1099511627776) : FOk P 116 [.vs (l.map eG), I d, .fn 117 [] []] (.tup [eC (strL lossG l d).1, I (strL lossG l d).2]) := by
  have h' : (l.length ≤ 1099511627776) = True := by simp [hl]
  refine c116.fok (by simp only [subs, sub1, free_G]) (Cor.run (addC_good g85 (addC_good g117 (addC_good g119 (addC_good g118 (noC_good _))))) (noHx_good _) hm ?_)
  by_cases h0 : lenE l d = 0
  · simp +contextual -implicitDefEqProofs (maxSteps := 2000000) only [bg_eq, a116, x118, x119, h', h0, ruB, rh_no, Int.reduceLT, Int.reduceLE, Int.reduceAdd, Int.reduceSub, Int.reduceMul, Int.reduceNeg, Int.reduceToNat, Int.reduceEq, Int.reduceNe, Int.reduceTDiv, Int.reduceTMod, implies_true, putL, appN, appX, appC, Eng.Fi, reduceCtorEq, exists_eq_left', exists_eq_left, if_true, if_false, List.replicate, Nat.reduceAdd, Nat.reduceSub, Nat.reduceMul, Nat.reduceLeDiff, Nat.reduceLT, Nat.reduceEqDiff]
    have hg := chkP_sG (lenE_zero h0).1
    refine Cor.range (addC_good g85 (addC_good g117 (addC_good g119 (addC_good g118 (noC_good _))))) (noHx_good _) hm (fun _ _ _ _ => rfl) (J116 (.fn 117 [] []) l) (fun _ => 5) (st116 lossG l) (fun _ _ => True) (x0 := ⟨0, 0, 0, 0⟩) rfl (sq129 l d hl hg) rfl rfl trivial (J116_inj _ l) (J116_free _ l) rfl rfl ?_ (fun _ _ _ _ _ _ => trivial) ?_ ?_
    · intro v hv
      obtain ⟨p, _, rfl⟩ := List.mem_map.1 hv
      rfl
    · intro j v c hj _ oR oB f go
      obtain ⟨p, hp, rfl⟩ := List.mem_map.1 (List.mem_of_getElem? hj)
      have hpm := pairsL_mem hp
      have hp1 : p.1 < l.length := by omega
      have hp2 : p.2 < l.length := by omega
      have e1 : (l.map eG)[p.1]? = some (eG l[p.1]) := by simp [hp1]
      have e2 : (l.map eG)[p.2]? = some (eG l[p.2]) := by simp [hp2]
      have s1 : (sG l[p.1]) = True := by simp [hg]
      have s2 : (sG l[p.2]) = True := by simp [hg]
      have e3 : stC lossG l c p = if c.to = 0 ∨ c.lo < (lossG l[p.1] l[p.2]).1 then ⟨p.1, p.2, (lossG l[p.1] l[p.2]).1, (lossG l[p.1] l[p.2]).2⟩ else c := by
        simp [stC, hp1, hp2]
      have i1 : ((p.1 : Int) < 0) = False := by simp only [eq_iff_iff, iff_false]; omega
      simp only [st116, decP_e, e3] at go ⊢
      by_cases hc : c.to = 0
      · rw [if_pos (.inl hc)] at go
        simp +contextual -implicitDefEqProofs (maxSteps := 2000000) only [J116, e1, e2, x117, s1, s2, hc, sp_cons, sp_nil, goB_eq, jk_n, jk_r, jk_e, fi_nx, ruB, rh_no, Int.reduceLT, Int.reduceLE, Int.reduceAdd, Int.reduceSub, Int.reduceMul, Int.reduceNeg, Int.reduceToNat, Int.reduceEq, Int.reduceNe, Int.reduceTDiv, Int.reduceTMod, implies_true, putL, appN, appX, appC, Eng.Fi, reduceCtorEq, exists_eq_left', exists_eq_left, if_true, if_false, List.replicate, Nat.reduceAdd, Nat.reduceSub, Nat.reduceMul, Nat.reduceLeDiff, Nat.reduceLT, Nat.reduceEqDiff]
        exact go _ [.any, .any, .any, .any, .any, .any, .any, .any, .any, .any, .any, .any, .any, .any, .any, .any, .any, .any, .any, .any, .any, .any, .any, .any, .any, .any, .any, .any, .any, .any, .any, .any, .any, .any, .any, .any, .any, .any, .any, .any, .any, .any, .any, .any, .any, .any, .any, .any, .any, .any, .any, .any, .any, .any, .any] (Wkn.to ⟨5, [], [], 5, []⟩ rfl rfl (by simp only [Wk.st, keepT, sub1, subs, Wk.hp, ABlk.sub, free_G, J116]; try rfl))
      · simp +contextual -implicitDefEqProofs (maxSteps := 2000000) only [J116, e1, e2, x117, s1, s2, hc, sp_cons, sp_nil, goB_eq, jk_n, jk_r, jk_e, fi_nx, ruB, rh_no, Int.reduceLT, Int.reduceLE, Int.reduceAdd, Int.reduceSub, Int.reduceMul, Int.reduceNeg, Int.reduceToNat, Int.reduceEq, Int.reduceNe, Int.reduceTDiv, Int.reduceTMod, implies_true, putL, appN, appX, appC, Eng.Fi, reduceCtorEq, exists_eq_left', exists_eq_left, if_true, if_false, List.replicate, Nat.reduceAdd, Nat.reduceSub, Nat.reduceMul, Nat.reduceLeDiff, Nat.reduceLT, Nat.reduceEqDiff]
        refine ⟨fun hc2 => ?_, fun hc2 => ?_⟩
        · rw [if_pos (.inr hc2)] at go
          exact go _ [.any, .any, .any, .any, .any, .any, .any, .any, .any, .any, .any, .any, .any, .any, .any, .any, .any, .any, .any, .any, .any, .any, .any, .any, .any, .any, .any, .any, .any, .any, .any, .any, .any, .any, .any, .any, .any, .any, .any, .any, .any, .any, .any, .any, .any, .any, .any, .any, .any, .any, .any, .any, .any, .any, .any] (Wkn.to ⟨5, [], [], 5, []⟩ rfl rfl (by simp only [Wk.st, keepT, sub1, subs, Wk.hp, ABlk.sub, free_G, J116]; try rfl))
        · rw [if_neg (fun x => x.elim hc hc2)] at go
          exact go _ [.any, .any, .any, .any, .any, .any, .any, .any, .any, .any, .any, .any, .any, .any, .any, .any, .any, .any, .any, .any, .any, .any, .any, .any, .any, .any, .any, .any, .any, .any, .any, .any, .any, .any, .any, .any, .any, .any, .any, .any, .any, .any, .any, .any, .any, .any, .any, .any, .any, .any, .any, .any, .any, .any, .any] (Wkn.to ⟨5, [], [], 5, []⟩ rfl rfl (by simp only [Wk.st, keepT, sub1, subs, Wk.hp, ABlk.sub, free_G, J116]; try rfl))
    · rw [foldS_nx (st := st116 lossG l) (fun _ _ => rfl)]
      have ef : ((pairsL d 0 l).map eP).foldl (fun a v => (st116 lossG l a v).1) ⟨0, 0, 0, 0⟩ = (pairsL d 0 l).foldl (stC lossG l) ⟨0, 0, 0, 0⟩ := by
        rw [List.foldl_map]
        simp only [st116, decP_e]
      have e4 : strL lossG l d = ((pairsL d 0 l).foldl (stC lossG l) ⟨0, 0, 0, 0⟩, unl (0 < ((pairsL d 0 l).foldl (stC lossG l) ⟨0, 0, 0, 0⟩).to) 12) := by
        simp only [strL, h0, if_true]
      rw [ef, e4]
      generalize (pairsL d 0 l).foldl (stC lossG l) ⟨0, 0, 0, 0⟩ = c
      show R P _ noHx 0 .normal _ _ _
      simp +contextual -implicitDefEqProofs (maxSteps := 2000000) only [J116, x85, sp_cons, sp_nil, goB_eq, jk_n, jk_r, jk_e, fi_nx, ruB, rh_no, Int.reduceLT, Int.reduceLE, Int.reduceAdd, Int.reduceSub, Int.reduceMul, Int.reduceNeg, Int.reduceToNat, Int.reduceEq, Int.reduceNe, Int.reduceTDiv, Int.reduceTMod, implies_true, putL, appN, appX, appC, Eng.Fi, reduceCtorEq, exists_eq_left', exists_eq_left, if_true, if_false, List.replicate, Nat.reduceAdd, Nat.reduceSub, Nat.reduceMul, Nat.reduceLeDiff, Nat.reduceLT, Nat.reduceEqDiff]
  · simp +contextual -implicitDefEqProofs (maxSteps := 2000000) only [bg_eq, a116, x118, x119, h', h0, strL, not_false_eq_true, ruB, rh_no, Int.reduceLT, Int.reduceLE, Int.reduceAdd, Int.reduceSub, Int.reduceMul, Int.reduceNeg, Int.reduceToNat, Int.reduceEq, Int.reduceNe, Int.reduceTDiv, Int.reduceTMod, implies_true, putL, appN, appX, appC, Eng.Fi, reduceCtorEq, exists_eq_left', exists_eq_left, if_true, if_false, List.replicate, Nat.reduceAdd, Nat.reduceSub, Nat.reduceMul, Nat.reduceLeDiff, Nat.reduceLT, Nat.reduceEqDiff]
end Sh
