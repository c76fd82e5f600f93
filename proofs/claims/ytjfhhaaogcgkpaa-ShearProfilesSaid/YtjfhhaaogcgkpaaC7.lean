import Derived.Test.YtjfhhaaogcgkpaaEngS9
import Derived.Test.YtjfhhaaogcgkpaaC6
open Go Go.Proofs Eng
set_option maxRecDepth 100000
set_option linter.unusedSimpArgs false
set_option linter.unusedVariables false
def a97 : AC := .seq (.ops false [] [⟨some 2, .p (.mov), [.c (.int .i64 0)], none⟩]) (.seq (.ops false [] [⟨some 6, .p (.mov), [.t 0], none⟩, ⟨some 7, .call 64, [.t 6], none⟩, ⟨some 5, .p (.mov), [.t 7], none⟩, ⟨some 8, .p (.ext 0), [.t 5], none⟩, ⟨some 9, .p (.ext 1), [.t 5], none⟩, ⟨some 3, .p (.mov), [.t 8], none⟩, ⟨some 4, .p (.mov), [.t 9], none⟩]) (.seq (.ops false [] [⟨some 10, .p (.mov), [.t 4], none⟩, ⟨some 2, .p (.mov), [.t 10], none⟩]) (.ret)))
theorem c97 : FnC Try.prog 97 11 a97 [.tmp 2] := ⟨Try.call97, _, _, Try.func97, rfl, by kernel_rfl, by kernel_rfl, rfl⟩
def a112 : AC := .seq (.ops false [] [⟨some 2, .box 164 2 1 true, [.t 0], none⟩, ⟨some 3, .box 164 2 1 true, [.t 1], none⟩, ⟨some 4, .alloc 164 2 [.agg [.int .i64 0, .int .i64 0]], [], none⟩]) (.seq (.ops false [] [⟨some 5, .p (.faddr 0), [.t 2], none⟩, ⟨some 6, .load 1 false, [.t 5], none⟩, ⟨some 7, .p (.faddr 1), [.t 3], none⟩, ⟨some 8, .load 1 false, [.t 7], none⟩, ⟨some 9, .p (.binI .sub), [.t 6, .t 8], none⟩, ⟨some 10, .p (.faddr 1), [.t 2], none⟩, ⟨some 11, .load 1 false, [.t 10], none⟩, ⟨some 12, .p (.faddr 0), [.t 3], none⟩, ⟨some 13, .load 1 false, [.t 12], none⟩, ⟨some 14, .p (.binI .sub), [.t 11, .t 13], none⟩, ⟨some 15, .p (.build [.int .i64 0, .int .i64 0] [(0, 1), (1, 1)]), [.t 9, .t 14], none⟩, ⟨none, .store 2 true, [.t 4, .t 15], none⟩]) (.ret))
theorem c112 : FnC Try.prog 112 16 a112 [.cell 4 2 true] := ⟨Try.call112, _, _, Try.func112, rfl, by kernel_rfl, by kernel_rfl, rfl⟩
def a117 : AC := .seq (.ops false [] [⟨some 2, .box 117 3 1 true, [.t 0], none⟩, ⟨some 3, .box 117 3 1 true, [.t 1], none⟩, ⟨some 4, .alloc 164 2 [.agg [.int .i64 0, .int .i64 0]], [], none⟩]) (.seq (.ops false [] [⟨some 5, .p (.faddr 1), [.t 2], none⟩, ⟨some 6, .load 2 true, [.t 5], none⟩, ⟨some 7, .p (.faddr 1), [.t 3], none⟩, ⟨some 8, .load 2 true, [.t 7], none⟩, ⟨some 9, .call 112, [.t 6, .t 8], none⟩, ⟨none, .store 2 true, [.t 4, .t 9], none⟩]) (.ret))
theorem c117 : FnC Try.prog 117 10 a117 [.cell 4 2 true] := ⟨Try.call117, _, _, Try.func117, rfl, by kernel_rfl, by kernel_rfl, rfl⟩
def a118 : AC := .seq (.ops false [] [⟨some 4, .p (.mov), [.c (.int .i64 0)], none⟩]) (.seq (.ops false [] [⟨some 5, .p (.mov), [.t 0], none⟩, ⟨some 6, .call 97, [.t 5], none⟩, ⟨some 7, .p (.mov), [.t 1], none⟩, ⟨some 8, .call 98, [.t 7], none⟩, ⟨some 9, .call 85, [.t 8, .c (.int .i64 2)], none⟩, ⟨some 10, .fbs 1, [.t 6, .t 9], none⟩, ⟨some 11, .call 84, [.t 10], none⟩, ⟨some 4, .p (.mov), [.t 11], none⟩]) (.ret))
theorem c118 : FnC Try.prog 118 12 a118 [.tmp 4] := ⟨Try.call118, _, _, Try.func118, rfl, by kernel_rfl, by kernel_rfl, rfl⟩
def a119 : AC := .seq (.ops false [] [⟨some 2, .box 71 1 1 false, [.t 0], none⟩, ⟨some 3, .box 3 1 1 false, [.t 1], none⟩, ⟨some 4, .p (.mov), [.c (.nilfn)], none⟩]) (.seq (.ops false [] [⟨some 5, .p (.mkfn 129 0), [.t 2, .t 3], none⟩, ⟨some 4, .p (.mov), [.t 5], none⟩]) (.ret))
theorem c119 : FnC Try.prog 119 6 a119 [.tmp 4] := ⟨Try.call119, _, _, Try.func119, rfl, by kernel_rfl, by kernel_rfl, rfl⟩
def a129 : AC := .seq (.ops false [] [⟨some 6, .load 1 false, [.t 1], none⟩, ⟨some 7, .p (.lenS), [.t 6], none⟩, ⟨some 8, .p (.mov), [.c (.int .i64 0)], none⟩]) (.block 0 (.loop (.seq (.ops false [] [⟨some 9, .p (.binI .lss), [.t 8, .t 7], none⟩]) (.seq (.cond (.t 9) (.skip) (.exit 0)) (.seq (.block 1 (.seq (.ops false [] [⟨some 10, .p (.mov), [.t 8], none⟩, ⟨some 4, .p (.mov), [.t 10], none⟩]) (.seq (.ops false [] [⟨some 11, .p (.mov), [.t 4], none⟩, ⟨some 12, .p (.binI .add), [.t 11, .c (.int .i64 1)], none⟩, ⟨some 5, .p (.mov), [.t 12], none⟩]) (.block 2 (.loop (.seq (.seq (.ops true [] [⟨some 13, .p (.mov), [.t 5], none⟩, ⟨some 14, .load 1 false, [.t 1], none⟩, ⟨some 15, .p (.lenS), [.t 14], none⟩, ⟨some 16, .p (.binI .lss), [.t 13, .t 15], none⟩, ⟨some 17, .p (.mov), [.t 16], none⟩, ⟨some 18, .load 1 false, [.t 1], some (17, true)⟩, ⟨some 19, .p (.mov), [.t 5], some (17, true)⟩, ⟨some 20, .p (.iaddrS 3), [.t 18, .t 19], some (17, true)⟩, ⟨some 21, .p (.faddr 0), [.t 20], some (17, true)⟩, ⟨some 22, .load 1 false, [.t 21], some (17, true)⟩, ⟨some 23, .load 1 false, [.t 1], some (17, true)⟩, ⟨some 24, .p (.mov), [.t 4], some (17, true)⟩, ⟨some 25, .p (.iaddrS 3), [.t 23, .t 24], some (17, true)⟩, ⟨some 26, .p (.faddr 0), [.t 25], some (17, true)⟩, ⟨some 27, .load 1 false, [.t 26], some (17, true)⟩, ⟨some 28, .p (.binI .sub), [.t 22, .t 27], some (17, true)⟩, ⟨some 29, .load 1 false, [.t 2], some (17, true)⟩, ⟨some 30, .p (.binI .leq), [.t 28, .t 29], some (17, true)⟩, ⟨some 31, .p (.pick), [.t 17, .t 30, .c (.bool false)], none⟩]) (.cond (.t 31) (.skip) (.exit 2))) (.seq (.block 3 (.seq (.ops false [] [⟨some 34, .p (.mov), [.t 0], none⟩, ⟨some 35, .p (.mov), [.t 4], none⟩, ⟨some 36, .p (.mov), [.t 5], none⟩, ⟨some 37, .callv, [.t 34, .t 35, .t 36], none⟩, ⟨some 38, .p (.notB), [.t 37], none⟩]) (.cond (.t 38) (.ret) (.skip)))) (.ops false [] [⟨some 32, .p (.mov), [.t 5], none⟩, ⟨some 33, .p (.binI .add), [.t 32, .c (.int .i64 1)], none⟩, ⟨some 5, .p (.mov), [.t 33], none⟩])))))))) (.ops false [] [⟨some 39, .p (.binI .add), [.t 8, .c (.int .i64 1)], none⟩, ⟨some 8, .p (.mov), [.t 39], none⟩]))))))
theorem c129 : FnC Try.prog 129 40 a129 [] := ⟨Try.call129, _, _, Try.func129, rfl, by kernel_rfl, by kernel_rfl, rfl⟩
namespace Sh

theorem k97 (l : List Gt) (hl : l.length ≤ 1099511627776) : FOk P 97 [.vs (l.map eG)] (I (chkP l).2) := by
  have h' : (l.length ≤ 1099511627776) = True := by simp [hl]
  refine c97.fok (by simp only [subs, sub1, free_G]) (Cor.run (addC_good g64 (noC_good _)) (noHx_good _) hm ?_)
  simp +contextual -implicitDefEqProofs (maxSteps := 2000000) only [bg_eq, a97, x64, h', ruB, rh_no, Int.reduceLT, Int.reduceLE, Int.reduceAdd, Int.reduceSub, Int.reduceMul, Int.reduceNeg, Int.reduceToNat, Int.reduceEq, Int.reduceNe, Int.reduceTDiv, Int.reduceTMod, implies_true, putL, appN, appX, appC, Eng.Fi, reduceCtorEq, exists_eq_left', exists_eq_left, if_true, if_false, List.replicate, Nat.reduceAdd, Nat.reduceSub, Nat.reduceMul, Nat.reduceLeDiff, Nat.reduceLT, Nat.reduceEqDiff]
def c97f : List AV → Option AV
  | [.vs vals] => onL dG vals fun l => if l.length ≤ 1099511627776 then some (.int .i64 (chkP l).2) else none
  | _ => none
theorem g97 : Fn P 97 c97f := fun args v h => by
  unfold c97f at h; split at h
  · obtain ⟨l, rfl, h2⟩ := onL_inv dG_inv h
    split at h2
    · rename_i hc; cases h2; exact k97 l  hc
    · cases h2
  · cases h
theorem x97 (l : List Gt) (h : (l.length ≤ 1099511627776) = True) : c97f [.vs (l.map eG)] = some (.int .i64 (chkP l).2) := by
  simp only [c97f, onL_map dG_e, h, if_true]

def lenE (l : List Gt) (d : Int) : Int := firstE [(chkP l).2, unl (0 ≤ d ∧ d ≤ 50000) 2]
theorem k118 (l : List Gt) (d : Int) (hl : l.length ≤ 1099511627776) : FOk P 118 [.vs (l.map eG), I d] (I (lenE l d)) := by
  have h' : (l.length ≤ 1099511627776) = True := by simp [hl]
  refine c118.fok (by simp only [subs, sub1, free_G]) (Cor.run (addC_good g84 (addC_good g85 (addC_good g98 (addC_good g97 (noC_good _))))) (noHx_good _) hm ?_)
  simp +contextual -implicitDefEqProofs (maxSteps := 2000000) only [bg_eq, a118, x97, x98, x85, x84, r84s, Lmax, h', lenE, ruB, rh_no, Int.reduceLT, Int.reduceLE, Int.reduceAdd, Int.reduceSub, Int.reduceMul, Int.reduceNeg, Int.reduceToNat, Int.reduceEq, Int.reduceNe, Int.reduceTDiv, Int.reduceTMod, implies_true, putL, appN, appX, appC, Eng.Fi, reduceCtorEq, exists_eq_left', exists_eq_left, if_true, if_false, List.replicate, Nat.reduceAdd, Nat.reduceSub, Nat.reduceMul, Nat.reduceLeDiff, Nat.reduceLT, Nat.reduceEqDiff]
def c118f : List AV → Option AV
  | [.vs vals, .int .i64 d] => onL dG vals fun l => if l.length ≤ 1099511627776 then some (.int .i64 (lenE l d)) else none
  | _ => none
theorem g118 : Fn P 118 c118f := fun args v h => by
  unfold c118f at h; split at h
  · obtain ⟨l, rfl, h2⟩ := onL_inv dG_inv h
    split at h2
    · rename_i hc; cases h2; exact k118 l _ hc
    · cases h2
  · cases h
theorem x118 (l : List Gt) (d : Int) (h : (l.length ≤ 1099511627776) = True) : c118f [.vs (l.map eG), .int .i64 d] = some (.int .i64 (lenE l d)) := by
  simp only [c118f, onL_map dG_e, h, if_true]

theorem k112 (a b c d : Int) (h1 : -1099511627776 ≤ a ∧ a ≤ 1099511627776 ∧ -1099511627776 ≤ b ∧ b ≤ 1099511627776 ∧ -1099511627776 ≤ c ∧ c ≤ 1099511627776 ∧ -1099511627776 ≤ d ∧ d ≤ 1099511627776) : FOk P 112 [.agg [I a, I b], .agg [I c, I d]] (.agg [I (a - d), I (b - c)]) := by
  have e1 : IntKind.wrap .i64 (a - d) = a - d := wrap64 (by omega) (by omega)
  have e2 : IntKind.wrap .i64 (b - c) = b - c := wrap64 (by omega) (by omega)
  refine c112.fok rfl (Cor.run (noC_good _) (noHx_good _) hm ?_)
  simp +contextual -implicitDefEqProofs (maxSteps := 2000000) only [bg_eq, a112, e1, e2, ruB, rh_no, Int.reduceLT, Int.reduceLE, Int.reduceAdd, Int.reduceSub, Int.reduceMul, Int.reduceNeg, Int.reduceToNat, Int.reduceEq, Int.reduceNe, Int.reduceTDiv, Int.reduceTMod, implies_true, putL, appN, appX, appC, Eng.Fi, reduceCtorEq, exists_eq_left', exists_eq_left, if_true, if_false, List.replicate, Nat.reduceAdd, Nat.reduceSub, Nat.reduceMul, Nat.reduceLeDiff, Nat.reduceLT, Nat.reduceEqDiff]
def c112f : List AV → Option AV
  | [.agg [.int .i64 a, .int .i64 b], .agg [.int .i64 c, .int .i64 d]] => if -1099511627776 ≤ a ∧ a ≤ 1099511627776 ∧ -1099511627776 ≤ b ∧ b ≤ 1099511627776 ∧ -1099511627776 ≤ c ∧ c ≤ 1099511627776 ∧ -1099511627776 ≤ d ∧ d ≤ 1099511627776 then some (.agg [I (a - d), I (b - c)]) else none
  | _ => none
theorem g112 : Fn P 112 c112f := fun args v h => by
  unfold c112f at h; split at h
  · split at h
    · rename_i hc; cases h; exact k112 _ _ _ _ hc
    · cases h
  · cases h
theorem x112 (a b c d : Int) (h : (-1099511627776 ≤ a ∧ a ≤ 1099511627776 ∧ -1099511627776 ≤ b ∧ b ≤ 1099511627776 ∧ -1099511627776 ≤ c ∧ c ≤ 1099511627776 ∧ -1099511627776 ≤ d ∧ d ≤ 1099511627776) = True) : c112f [.agg [.int .i64 a, .int .i64 b], .agg [.int .i64 c, .int .i64 d]] = some (.agg [I (a - d), I (b - c)]) := by
  simp only [c112f, h, if_true]

/-- a gate whose numbers are small -/
def sG (g : Gt) : Prop := -1000000 ≤ g.at' ∧ g.at' ≤ 1000000 ∧ -1000000 ≤ g.lo ∧ g.lo ≤ 1000000 ∧ -1000000 ≤ g.hi ∧ g.hi ≤ 1000000
instance (g : Gt) : Decidable (sG g) := by unfold sG; infer_instance
theorem k117 (a b : Gt) (ha : sG a) (hb : sG b) : FOk P 117 [eG a, eG b] (.agg [I (a.lo - b.hi), I (a.hi - b.lo)]) := by
  unfold sG at ha hb
  have e1 : (-1099511627776 ≤ a.lo ∧ a.lo ≤ 1099511627776 ∧ -1099511627776 ≤ a.hi ∧ a.hi ≤ 1099511627776 ∧ -1099511627776 ≤ b.lo ∧ b.lo ≤ 1099511627776 ∧ -1099511627776 ≤ b.hi ∧ b.hi ≤ 1099511627776) = True := by simp only [eq_iff_iff, iff_true]; omega
  refine c117.fok rfl (Cor.run (addC_good g112 (noC_good _)) (noHx_good _) hm ?_)
  simp +contextual -implicitDefEqProofs (maxSteps := 2000000) only [bg_eq, a117, x112, e1, ruB, rh_no, Int.reduceLT, Int.reduceLE, Int.reduceAdd, Int.reduceSub, Int.reduceMul, Int.reduceNeg, Int.reduceToNat, Int.reduceEq, Int.reduceNe, Int.reduceTDiv, Int.reduceTMod, implies_true, putL, appN, appX, appC, Eng.Fi, reduceCtorEq, exists_eq_left', exists_eq_left, if_true, if_false, List.replicate, Nat.reduceAdd, Nat.reduceSub, Nat.reduceMul, Nat.reduceLeDiff, Nat.reduceLT, Nat.reduceEqDiff]
def c117f : List AV → Option AV
  | [.agg [.int .i64 a1, .int .i64 a2, .int .i64 a3], .agg [.int .i64 b1, .int .i64 b2, .int .i64 b3]] => if sG ⟨a1, a2, a3⟩ ∧ sG ⟨b1, b2, b3⟩ then some (.agg [I (a2 - b3), I (a3 - b2)]) else none
  | _ => none
theorem g117 : Fn P 117 c117f := fun args v h => by
  unfold c117f at h; split at h
  · split at h
    · rename_i hc; cases h; exact k117 ⟨_, _, _⟩ ⟨_, _, _⟩ hc.1 hc.2
    · cases h
  · cases h
theorem x117 (a b : Gt) (ha : (sG a) = True) (hb : (sG b) = True) : c117f [.agg [I a.at', I a.lo, I a.hi], .agg [I b.at', I b.lo, I b.hi]] = some (.agg [I (a.lo - b.hi), I (a.hi - b.lo)]) := by
  simp only [c117f, ha, hb, and_self, if_true]

/-! pairs -/
def takeK (d : Int) (gi : Gt) (i : Nat) : Nat → List Gt → List (Nat × Nat)
  | _, [] => []
  | k, g :: r => if g.at' - gi.at' ≤ d then (i, k) :: takeK d gi i (k + 1) r else []
def pairsL (d : Int) : Nat → List Gt → List (Nat × Nat)
  | _, [] => []
  | i, g :: r => takeK d g i (i + 1) r ++ pairsL d (i + 1) r
abbrev eP (p : Nat × Nat) : List AV := [I p.1, I p.2]

def So (t : Nat) (l : List Gt) (d : Int) (p : Nat × List HEnt × Nat) : AState := ⟨[.yield t, .vp [.vs (l.map eG)] 0 0, .vp [I d] 0 0, .any, .any, .any, .any, I l.length, I p.1, .any, .any, .any, .any, .any, .any, .any, .any, .any, .any, .any, .any, .any, .any, .any, .any, .any, .any, .any, .any, .any, .any, .any, .any, .any, .any, .any, .any, .any, .any, .any], p.2.1, p.2.2⟩
def Si (t : Nat) (l : List Gt) (d : Int) (i : Nat) (p : Nat × List HEnt × Nat) : AState := ⟨[.yield t, .vp [.vs (l.map eG)] 0 0, .vp [I d] 0 0, .any, I i, I p.1, .any, I l.length, I i, .any, .any, .any, .any, .any, .any, .any, .any, .any, .any, .any, .any, .any, .any, .any, .any, .any, .any, .any, .any, .any, .any, .any, .any, .any, .any, .any, .any, .any, .any, .any], p.2.1, p.2.2⟩
theorem sq129 (l : List Gt) (d : Int) (hl : l.length ≤ 1099511627776) (hs : ∀ g ∈ l, sG g) : SeqOk P 129 [] [.vp [.vs (l.map eG)] 0 0, .vp [I d] 0 0] ((pairsL d 0 l).map eP) := by
  intro hx t N M hp fin htN hn hd
  have hg := HGood_y (P := P) hn
  refine c129.loky (Cor.run (noC_good _) hg hm ?_)
  simp +contextual -implicitDefEqProofs (maxSteps := 2000000) only [bg_eq, a129, List.length_map, ruH, ruB, Int.reduceLT, Int.reduceLE, Int.reduceAdd, Int.reduceSub, Int.reduceMul, Int.reduceNeg, Int.reduceToNat, Int.reduceEq, Int.reduceNe, Int.reduceTDiv, Int.reduceTMod, implies_true, putL, appN, appX, appC, Eng.Fi, reduceCtorEq, exists_eq_left', exists_eq_left, if_true, if_false, List.replicate, Nat.reduceAdd, Nat.reduceSub, Nat.reduceMul, Nat.reduceLeDiff, Nat.reduceLT, Nat.reduceEqDiff]
  refine Cor.lp (noC_good _) hg hm (So t l d) (fun p => p.1 ≤ l.length ∧ Drv hx t p.2.1 p.2.2 ((pairsL d p.1 (l.drop p.1)).map eP) fin M) (fun p => l.length - p.1) (a := (0, hp, N)) ⟨Nat.zero_le _, hd⟩ (Wkn.keep [0, 1, 2, 7, 8] rfl) ?_
  rintro f ⟨i, h, N⟩ ⟨hi, hD⟩ go
  simp only at hi hD
  rcases Nat.lt_or_ge i l.length with h1 | h1
  · have e1 : decide ((i : Int) < (l.length : Int)) = true := by simp; omega
    have e3 : IntKind.wrap .i64 ((i : Int) + 1) = ((i + 1 : Nat) : Int) := by rw [wrap64 (by omega) (by omega)]; rfl
    have e4 : l.drop i = l[i] :: l.drop (i + 1) := List.drop_eq_getElem_cons h1
    rw [e4, pairsL, List.map_append] at hD
    simp +contextual -implicitDefEqProofs (maxSteps := 2000000) only [So, e1, e3, ruH, ruB, Int.reduceLT, Int.reduceLE, Int.reduceAdd, Int.reduceSub, Int.reduceMul, Int.reduceNeg, Int.reduceToNat, Int.reduceEq, Int.reduceNe, Int.reduceTDiv, Int.reduceTMod, implies_true, putL, appN, appX, appC, Eng.Fi, reduceCtorEq, exists_eq_left', exists_eq_left, if_true, if_false, List.replicate, Nat.reduceAdd, Nat.reduceSub, Nat.reduceMul, Nat.reduceLeDiff, Nat.reduceLT, Nat.reduceEqDiff]
    refine Cor.lp (noC_good _) hg hm (Si t l d i) (fun p => i < p.1 ∧ p.1 ≤ l.length ∧ Drv hx t p.2.1 p.2.2 ((takeK d l[i] i p.1 (l.drop p.1)).map eP ++ (pairsL d (i + 1) (l.drop (i + 1))).map eP) fin M) (fun p => l.length - p.1) (a := (i + 1, h, N)) ⟨Nat.lt_succ_self _, h1, hD⟩ (Wkn.keep [0, 1, 2, 4, 5, 7, 8] rfl) ?_
    rintro f2 ⟨k, h, N⟩ ⟨hik, hk, hD⟩ go2
    simp only at hik hk hD
    have e2 : (l.map eG)[i]? = some (eG l[i]) := by simp [h1]
    rcases Nat.lt_or_ge k l.length with h2 | h2
    · have e5 : decide ((k : Int) < (l.length : Int)) = true := by simp; omega
      have e6 : (l.map eG)[k]? = some (eG l[k]) := by simp [h2]
      have e7 : IntKind.wrap .i64 ((k : Int) + 1) = ((k + 1 : Nat) : Int) := by rw [wrap64 (by omega) (by omega)]; rfl
      have e8 : l.drop k = l[k] :: l.drop (k + 1) := List.drop_eq_getElem_cons h2
      have s1 := hs l[i] (by simp)
      have s2 := hs l[k] (by simp)
      have e9 : IntKind.wrap .i64 (l[k].at' - l[i].at') = l[k].at' - l[i].at' := by unfold sG at s1 s2; exact wrap64 (by omega) (by omega)
      rw [e8, takeK] at hD
      by_cases hle : l[k].at' - l[i].at' ≤ d
      · rw [if_pos hle, List.map_cons, List.cons_append] at hD
        obtain ⟨b, h', N', hy, hc, hf⟩ := hD
        cases b with
        | true =>
          simp +contextual -implicitDefEqProofs (maxSteps := 2000000) only [Si, e2, e3, e5, e6, e7, e9, hle, List.length_map, hy, ruH, ruB, Int.reduceLT, Int.reduceLE, Int.reduceAdd, Int.reduceSub, Int.reduceMul, Int.reduceNeg, Int.reduceToNat, Int.reduceEq, Int.reduceNe, Int.reduceTDiv, Int.reduceTMod, implies_true, putL, appN, appX, appC, Eng.Fi, reduceCtorEq, exists_eq_left', exists_eq_left, if_true, if_false, List.replicate, Nat.reduceAdd, Nat.reduceSub, Nat.reduceMul, Nat.reduceLeDiff, Nat.reduceLT, Nat.reduceEqDiff]
          exact go2 _ (k + 1, h', N') ⟨by simp only; omega, h2, hc rfl⟩ (by simp only; omega) (Wkn.keep [0, 1, 2, 4, 5, 7, 8] rfl)
        | false =>
          simp +contextual -implicitDefEqProofs (maxSteps := 2000000) only [Si, e2, e3, e5, e6, e7, e9, hle, List.length_map, hy, FinL, ruH, ruB, Int.reduceLT, Int.reduceLE, Int.reduceAdd, Int.reduceSub, Int.reduceMul, Int.reduceNeg, Int.reduceToNat, Int.reduceEq, Int.reduceNe, Int.reduceTDiv, Int.reduceTMod, implies_true, putL, appN, appX, appC, Eng.Fi, reduceCtorEq, exists_eq_left', exists_eq_left, if_true, if_false, List.replicate, Nat.reduceAdd, Nat.reduceSub, Nat.reduceMul, Nat.reduceLeDiff, Nat.reduceLT, Nat.reduceEqDiff]
          exact ⟨(hf rfl).1.symm, (hf rfl).2.symm⟩
      · rw [if_neg hle] at hD
        simp +contextual -implicitDefEqProofs (maxSteps := 2000000) only [Si, e2, e3, e5, e6, e7, e9, hle, List.length_map, ruH, ruB, Int.reduceLT, Int.reduceLE, Int.reduceAdd, Int.reduceSub, Int.reduceMul, Int.reduceNeg, Int.reduceToNat, Int.reduceEq, Int.reduceNe, Int.reduceTDiv, Int.reduceTMod, implies_true, putL, appN, appX, appC, Eng.Fi, reduceCtorEq, exists_eq_left', exists_eq_left, if_true, if_false, List.replicate, Nat.reduceAdd, Nat.reduceSub, Nat.reduceMul, Nat.reduceLeDiff, Nat.reduceLT, Nat.reduceEqDiff]
        exact go _ (i + 1, h, N) ⟨h1, hD⟩ (by simp only; omega) (Wkn.keep [0, 1, 2, 7, 8] rfl)
    · have e5 : decide ((k : Int) < (l.length : Int)) = false := by simp; omega
      rw [List.drop_eq_nil_of_le h2] at hD
      simp +contextual -implicitDefEqProofs (maxSteps := 2000000) only [Si, e2, e3, e5, List.length_map, ruH, ruB, Int.reduceLT, Int.reduceLE, Int.reduceAdd, Int.reduceSub, Int.reduceMul, Int.reduceNeg, Int.reduceToNat, Int.reduceEq, Int.reduceNe, Int.reduceTDiv, Int.reduceTMod, implies_true, putL, appN, appX, appC, Eng.Fi, reduceCtorEq, exists_eq_left', exists_eq_left, if_true, if_false, List.replicate, Nat.reduceAdd, Nat.reduceSub, Nat.reduceMul, Nat.reduceLeDiff, Nat.reduceLT, Nat.reduceEqDiff]
      exact go _ (i + 1, h, N) ⟨h1, hD⟩ (by simp only; omega) (Wkn.keep [0, 1, 2, 7, 8] rfl)
  · have e1 : decide ((i : Int) < (l.length : Int)) = false := by simp; omega
    rw [List.drop_eq_nil_of_le h1] at hD
    simp +contextual -implicitDefEqProofs (maxSteps := 2000000) only [So, e1, FinL, ruH, ruB, Int.reduceLT, Int.reduceLE, Int.reduceAdd, Int.reduceSub, Int.reduceMul, Int.reduceNeg, Int.reduceToNat, Int.reduceEq, Int.reduceNe, Int.reduceTDiv, Int.reduceTMod, implies_true, putL, appN, appX, appC, Eng.Fi, reduceCtorEq, exists_eq_left', exists_eq_left, if_true, if_false, List.replicate, Nat.reduceAdd, Nat.reduceSub, Nat.reduceMul, Nat.reduceLeDiff, Nat.reduceLT, Nat.reduceEqDiff]
    exact ⟨hD.1.symm, hD.2.symm⟩

theorem k119 (l : List Gt) (d : Int) (_ : l.length ≤ 1099511627776) : FOk P 119 [.vs (l.map eG), I d] (.fn 129 [] [.vp [.vs (l.map eG)] 0 0, .vp [I d] 0 0]) := by
  refine c119.fok (by simp only [subs, sub1, free_G]) (Cor.post (Cor.run (noC_good _) (noHx_good _) hm ?_))
  simp +contextual -implicitDefEqProofs (maxSteps := 2000000) only [bg_eq, a119, ruB, rh_no, Int.reduceLT, Int.reduceLE, Int.reduceAdd, Int.reduceSub, Int.reduceMul, Int.reduceNeg, Int.reduceToNat, Int.reduceEq, Int.reduceNe, Int.reduceTDiv, Int.reduceTMod, implies_true, putL, appN, appX, appC, Eng.Fi, reduceCtorEq, exists_eq_left', exists_eq_left, if_true, if_false, List.replicate, Nat.reduceAdd, Nat.reduceSub, Nat.reduceMul, Nat.reduceLeDiff, Nat.reduceLT, Nat.reduceEqDiff]
  refine ⟨_, Wkn.of ⟨0, [], [0, 1], 2, [4]⟩ rfl, _, rfl, ?_, ?_⟩
  · show some (AV.fn 129 [] [.vp [.vs (subs _ (l.map eG))] 0 0, .vp [I d] 0 0]) = _
    rw [free_G]
  · show AV.fn 129 [] [.vp [.vs (subs _ (l.map eG))] 0 0, .vp [I d] 0 0] = _
    rw [free_G]
def c119f : List AV → Option AV
  | [.vs vals, .int .i64 d] => onL dG vals fun l => if l.length ≤ 1099511627776 then some (.fn 129 [] [.vp [.vs (l.map eG)] 0 0, .vp [I d] 0 0]) else none
  | _ => none
theorem g119 : Fn P 119 c119f := fun args v h => by
  unfold c119f at h; split at h
  · obtain ⟨l, rfl, h2⟩ := onL_inv dG_inv h
    split at h2
    · rename_i hc; cases h2; exact k119 l _ hc
    · cases h2
  · cases h
theorem x119 (l : List Gt) (d : Int) (h : (l.length ≤ 1099511627776) = True) : c119f [.vs (l.map eG), .int .i64 d] = some (.fn 129 [] [.vp [.vs (l.map eG)] 0 0, .vp [I d] 0 0]) := by
  simp only [c119f, onL_map dG_e, h, if_true]
end Sh
