import Derived.Test.YtjfhhaaogcgkpaaEngS9
import Derived.Test.YtjfhhaaogcgkpaaC11
open Go Go.Proofs Eng
set_option maxRecDepth 100000
set_option linter.unusedSimpArgs false
set_option linter.unusedVariables false
def a14 : AC := .seq (.ops false [] [⟨some 0, .p (.mov), [.c (.bool false)], none⟩]) (.seq (.ops false [] [⟨some 10, .call 78, [], none⟩, ⟨some 11, .call 60, [.t 10, .c (.int .i64 1000)], none⟩, ⟨some 9, .p (.mov), [.t 11], none⟩, ⟨some 12, .p (.ext 0), [.t 9], none⟩, ⟨some 13, .p (.ext 1), [.t 9], none⟩, ⟨some 1, .alloc 112 4 [.agg [.int .i64 0, .int .i64 0, .int .i64 0, .int .i64 0]], [], none⟩, ⟨none, .store 4 true, [.t 1, .t 12], none⟩, ⟨some 2, .p (.mov), [.t 13], none⟩]) (.seq (.ops false [] [⟨some 15, .call 79, [], none⟩, ⟨some 16, .call 80, [], none⟩, ⟨some 17, .call 25, [.t 15, .t 16], none⟩, ⟨some 14, .p (.mov), [.t 17], none⟩, ⟨some 18, .p (.ext 0), [.t 14], none⟩, ⟨some 19, .p (.ext 1), [.t 14], none⟩, ⟨some 3, .p (.mov), [.t 18], none⟩, ⟨some 4, .p (.mov), [.t 19], none⟩]) (.seq (.ops false [] [⟨some 21, .call 78, [], none⟩, ⟨some 22, .p (.build [.int .i64 0, .int .i64 0] [(0, 1), (1, 1)]), [.c (.int .i64 0), .c (.int .i64 2000)], none⟩, ⟨some 23, .call 36, [.t 21, .t 22, .c (.int .i64 400)], none⟩, ⟨some 20, .p (.mov), [.t 23], none⟩, ⟨some 24, .p (.ext 0), [.t 20], none⟩, ⟨some 25, .p (.ext 1), [.t 20], none⟩, ⟨some 5, .p (.mov), [.t 24], none⟩, ⟨some 6, .p (.mov), [.t 25], none⟩]) (.seq (.ops false [] [⟨some 27, .p (.build [.int .i64 0, .int .i64 0, .int .i64 0, .int .i64 0] [(0, 1), (1, 1), (2, 1), (3, 1)]), [.c (.int .i64 9), .c (.int .i64 300), .c (.int .i64 1), .c (.int .i64 520)], none⟩, ⟨some 28, .call 15, [.t 27], none⟩, ⟨some 26, .p (.mov), [.t 28], none⟩, ⟨some 29, .p (.ext 0), [.t 26], none⟩, ⟨some 30, .p (.ext 1), [.t 26], none⟩, ⟨some 7, .alloc 24 1 [.int .i64 0, .int .i64 0, .int .i64 0, .int .i64 0, .int .i64 0, .int .i64 0, .int .i64 0], [], none⟩, ⟨none, .store 7 true, [.t 7, .t 29], none⟩, ⟨some 8, .p (.mov), [.t 30], none⟩]) (.seq (.ops false [] [⟨some 31, .p (.mov), [.t 2], none⟩, ⟨some 32, .p (.binI .eql), [.t 31, .c (.int .i64 0)], none⟩, ⟨some 33, .p (.mov), [.t 32], none⟩, ⟨some 34, .load 4 true, [.t 1], some (33, true)⟩, ⟨some 35, .p (.build [.int .i64 0, .int .i64 0] [(0, 1), (1, 1)]), [.c (.int .i64 500), .c (.int .i64 650)], some (33, true)⟩, ⟨some 36, .p (.build [.int .i64 0, .int .i64 0, .int .i64 0, .int .i64 0] [(0, 1), (1, 1), (2, 2)]), [.c (.int .i64 1), .c (.int .i64 2), .t 35], some (33, true)⟩, ⟨some 37, .p (.eqa false [.i, .i, .i, .i]), [.t 34, .t 36], some (33, true)⟩, ⟨some 38, .p (.pick), [.t 33, .t 37, .c (.bool false)], none⟩, ⟨some 39, .p (.mov), [.t 38], none⟩, ⟨some 40, .p (.mov), [.t 4], some (39, true)⟩, ⟨some 41, .p (.binI .eql), [.t 40, .c (.int .i64 0)], some (39, true)⟩, ⟨some 42, .p (.pick), [.t 39, .t 41, .c (.bool false)], none⟩, ⟨some 43, .p (.mov), [.t 42], none⟩, ⟨some 44, .p (.mov), [.t 3], some (43, true)⟩, ⟨some 45, .p (.build [.int .i64 0, .int .i64 0, .int .i64 0] [(0, 1), (1, 1), (2, 1)]), [.c (.int .i64 1), .c (.int .i64 10), .c (.int .i64 79)], some (43, true)⟩, ⟨some 46, .fbs 3, [.t 45], some (43, true)⟩, ⟨some 47, .call 28, [.t 44, .t 46], some (43, true)⟩, ⟨some 48, .p (.pick), [.t 43, .t 47, .c (.bool false)], none⟩, ⟨some 49, .p (.mov), [.t 48], none⟩, ⟨some 50, .p (.mov), [.t 6], some (49, true)⟩, ⟨some 51, .p (.binI .eql), [.t 50, .c (.int .i64 0)], some (49, true)⟩, ⟨some 52, .p (.pick), [.t 49, .t 51, .c (.bool false)], none⟩, ⟨some 53, .p (.mov), [.t 52], none⟩, ⟨some 54, .p (.mov), [.t 5], some (53, true)⟩, ⟨some 55, .p (.build [.int .i64 0, .int .i64 0] [(0, 1), (1, 1)]), [.c (.int .i64 901), .c (.int .i64 1099)], some (53, true)⟩, ⟨some 56, .p (.build [.int .i64 0, .int .i64 0] [(0, 1), (1, 1)]), [.c (.int .i64 1901), .c (.int .i64 2000)], some (53, true)⟩, ⟨some 57, .fbs 2, [.t 55, .t 56], some (53, true)⟩, ⟨some 58, .call 43, [.t 54, .t 57], some (53, true)⟩, ⟨some 59, .p (.pick), [.t 53, .t 58, .c (.bool false)], none⟩, ⟨some 60, .p (.mov), [.t 59], none⟩, ⟨some 61, .p (.mov), [.t 8], some (60, true)⟩, ⟨some 62, .p (.binI .eql), [.t 61, .c (.int .i64 0)], some (60, true)⟩, ⟨some 63, .p (.pick), [.t 60, .t 62, .c (.bool false)], none⟩, ⟨some 64, .p (.mov), [.t 63], none⟩, ⟨some 65, .load 7 true, [.t 7], some (64, true)⟩, ⟨some 66, .p (.build [.int .i64 0, .int .i64 0, .int .i64 0, .int .i64 0, .int .i64 0, .int .i64 0, .int .i64 0] [(0, 1), (1, 1), (2, 1), (3, 1), (4, 1), (5, 1), (6, 1)]), [.c (.int .i64 9), .c (.int .i64 1), .c (.int .i64 49), .c (.int .i64 1), .c (.int .i64 2), .c (.int .i64 18), .c (.int .i64 211)], some (64, true)⟩, ⟨some 67, .p (.eqa false [.i, .i, .i, .i, .i, .i, .i]), [.t 65, .t 66], some (64, true)⟩, ⟨some 68, .p (.pick), [.t 64, .t 67, .c (.bool false)], none⟩, ⟨some 0, .p (.mov), [.t 68], none⟩]) (.ret))))))
theorem c14 : FnC Try.prog 14 69 a14 [.tmp 0] := ⟨Try.call14, _, _, Try.func14, rfl, by kernel_rfl, by kernel_rfl, rfl⟩
def a60 : AC := .seq (.ops false [] [⟨some 4, .alloc 112 4 [.agg [.int .i64 0, .int .i64 0, .int .i64 0, .int .i64 0]], [], none⟩, ⟨some 5, .p (.mov), [.c (.int .i64 0)], none⟩]) (.seq (.ops false [] [⟨some 6, .p (.mov), [.t 0], none⟩, ⟨some 7, .p (.mov), [.t 1], none⟩, ⟨some 8, .call 116, [.t 6, .t 7, .c (.fn 117 [] [])], none⟩, ⟨some 9, .p (.ext 0), [.t 8], none⟩, ⟨some 10, .p (.ext 1), [.t 8], none⟩, ⟨none, .store 4 true, [.t 4, .t 9], none⟩, ⟨some 5, .p (.mov), [.t 10], none⟩]) (.ret))
theorem c60 : FnC Try.prog 60 11 a60 [.cell 4 4 true, .tmp 5] := ⟨Try.call60, _, _, Try.func60, rfl, by kernel_rfl, by kernel_rfl, rfl⟩
def a78 : AC := .seq (.ops false [] [⟨some 0, .p (.mov), [.c (.nilslice)], none⟩]) (.seq (.ops false [] [⟨some 1, .p (.build [.int .i64 0, .int .i64 0] [(0, 1), (1, 1)]), [.c (.int .i64 900), .c (.int .i64 1000)], none⟩, ⟨some 2, .p (.build [.int .i64 0, .int .i64 0, .int .i64 0] [(0, 1), (1, 2)]), [.c (.int .i64 0), .t 1], none⟩, ⟨some 3, .p (.build [.int .i64 0, .int .i64 0] [(0, 1), (1, 1)]), [.c (.int .i64 800), .c (.int .i64 850)], none⟩, ⟨some 4, .p (.build [.int .i64 0, .int .i64 0, .int .i64 0] [(0, 1), (1, 2)]), [.c (.int .i64 500), .t 3], none⟩, ⟨some 5, .p (.build [.int .i64 0, .int .i64 0] [(0, 1), (1, 1)]), [.c (.int .i64 200), .c (.int .i64 300)], none⟩, ⟨some 6, .p (.build [.int .i64 0, .int .i64 0, .int .i64 0] [(0, 1), (1, 2)]), [.c (.int .i64 1500), .t 5], none⟩, ⟨some 7, .bsl 117 3, [.t 2, .t 4, .t 6], none⟩, ⟨some 0, .p (.mov), [.t 7], none⟩]) (.ret))
theorem c78 : FnC Try.prog 78 8 a78 [.tmp 0] := ⟨Try.call78, _, _, Try.func78, rfl, by kernel_rfl, by kernel_rfl, rfl⟩
def a79 : AC := .seq (.ops false [] [⟨some 0, .alloc 40 4 [.agg [.int .i64 0, .int .i64 0, .int .i64 0, .int .i64 0]], [], none⟩]) (.seq (.ops false [] [⟨some 1, .p (.build [.int .i64 0, .int .i64 0, .int .i64 0, .int .i64 0] [(0, 1), (1, 1), (2, 1), (3, 1)]), [.c (.int .i64 500), .c (.int .i64 300), .c (.int .i64 20), .c (.int .i64 60)], none⟩, ⟨none, .store 4 true, [.t 0, .t 1], none⟩]) (.ret))
theorem c79 : FnC Try.prog 79 2 a79 [.cell 0 4 true] := ⟨Try.call79, _, _, Try.func79, rfl, by kernel_rfl, by kernel_rfl, rfl⟩
def a80 : AC := .seq (.ops false [] [⟨some 0, .p (.mov), [.c (.nilslice)], none⟩]) (.seq (.ops false [] [⟨some 1, .p (.build [.int .i64 0, .int .i64 0] [(0, 1), (1, 1)]), [.c (.int .i64 520), .c (.int .i64 600)], none⟩, ⟨some 2, .p (.build [.int .i64 0, .int .i64 0, .int .i64 0] [(0, 1), (1, 2)]), [.c (.int .i64 10), .t 1], none⟩, ⟨some 3, .p (.build [.int .i64 0, .int .i64 0] [(0, 1), (1, 1)]), [.c (.int .i64 200), .c (.int .i64 290)], none⟩, ⟨some 4, .p (.build [.int .i64 0, .int .i64 0, .int .i64 0] [(0, 1), (1, 2)]), [.c (.int .i64 30), .t 3], none⟩, ⟨some 5, .p (.build [.int .i64 0, .int .i64 0] [(0, 1), (1, 1)]), [.c (.int .i64 250), .c (.int .i64 310)], none⟩, ⟨some 6, .p (.build [.int .i64 0, .int .i64 0, .int .i64 0] [(0, 1), (1, 2)]), [.c (.int .i64 40), .t 5], none⟩, ⟨some 7, .p (.build [.int .i64 0, .int .i64 0] [(0, 1), (1, 1)]), [.c (.int .i64 100), .c (.int .i64 200)], none⟩, ⟨some 8, .p (.build [.int .i64 0, .int .i64 0, .int .i64 0] [(0, 1), (1, 2)]), [.c (.int .i64 55), .t 7], none⟩, ⟨some 9, .p (.build [.int .i64 0, .int .i64 0] [(0, 1), (1, 1)]), [.c (.int .i64 0), .c (.int .i64 100)], none⟩, ⟨some 10, .p (.build [.int .i64 0, .int .i64 0, .int .i64 0] [(0, 1), (1, 2)]), [.c (.int .i64 80), .t 9], none⟩, ⟨some 11, .bsl 66 3, [.t 2, .t 4, .t 6, .t 8, .t 10], none⟩, ⟨some 0, .p (.mov), [.t 11], none⟩]) (.ret))
theorem c80 : FnC Try.prog 80 12 a80 [.tmp 0] := ⟨Try.call80, _, _, Try.func80, rfl, by kernel_rfl, by kernel_rfl, rfl⟩
namespace Sh

def c116f : List AV → Option AV
  | [.vs vals, .int .i64 d, .fn 117 [] []] => onL dG vals fun l => if l.length ≤ 1099511627776 then some (.tup [eC (strL lossG l d).1, I (strL lossG l d).2]) else none
  | _ => none
theorem g116 : Fn P 116 c116f := fun args v h => by
  unfold c116f at h; split at h
  · obtain ⟨l, rfl, h2⟩ := onL_inv dG_inv h
    split at h2
    · rename_i hc; cases h2; exact k116 l _ hc
    · cases h2
  · cases h
theorem x116 (l : List Gt) (d : Int) (h : (l.length ≤ 1099511627776) = True) : c116f [.vs (l.map eG), .int .i64 d, .fn 117 [] []] = some (.tup [eC (strL lossG l d).1, I (strL lossG l d).2]) := by
  simp only [c116f, onL_map dG_e, h, if_true]
theorem k60 (l : List Gt) (d : Int) (hl : l.length ≤ 1099511627776) : FOk P 60 [.vs (l.map eG), I d] (.tup [eC (strL lossG l d).1, I (strL lossG l d).2]) := by
  have h' : (l.length ≤ 1099511627776) = True := by simp [hl]
  refine c60.fok (by simp only [subs, sub1, free_G]) (Cor.run (addC_good g116 (noC_good _)) (noHx_good _) hm ?_)
  simp +contextual -implicitDefEqProofs (maxSteps := 2000000) only [bg_eq, a60, x116, h', ruB, rh_no, Int.reduceLT, Int.reduceLE, Int.reduceAdd, Int.reduceSub, Int.reduceMul, Int.reduceNeg, Int.reduceToNat, Int.reduceEq, Int.reduceNe, Int.reduceTDiv, Int.reduceTMod, implies_true, putL, appN, appX, appC, Eng.Fi, reduceCtorEq, exists_eq_left', exists_eq_left, if_true, if_false, List.replicate, Nat.reduceAdd, Nat.reduceSub, Nat.reduceMul, Nat.reduceLeDiff, Nat.reduceLT, Nat.reduceEqDiff]
def c60f : List AV → Option AV
  | [.vs vals, .int .i64 d] => onL dG vals fun l => if l.length ≤ 1099511627776 then some (.tup [eC (strL lossG l d).1, I (strL lossG l d).2]) else none
  | _ => none
theorem g60 : Fn P 60 c60f := fun args v h => by
  unfold c60f at h; split at h
  · obtain ⟨l, rfl, h2⟩ := onL_inv dG_inv h
    split at h2
    · rename_i hc; cases h2; exact k60 l _ hc
    · cases h2
  · cases h
theorem x60 (l : List Gt) (d : Int) (h : (l.length ≤ 1099511627776) = True) : c60f [.vs (l.map eG), .int .i64 d] = some (.tup [eC (strL lossG l d).1, I (strL lossG l d).2]) := by
  simp only [c60f, onL_map dG_e, h, if_true]

def c25f : List AV → Option AV
  | [.agg [.int .i64 a, .int .i64 b, .int .i64 c, .int .i64 d], .vs vals] => onL dG vals fun l => if l.length ≤ 1099511627776 then some (.tup [.vs ((alertsL ⟨a, b, c, d⟩ l).1.map eA), I (alertsL ⟨a, b, c, d⟩ l).2]) else none
  | _ => none
theorem g25 : Fn P 25 c25f := fun args v h => by
  unfold c25f at h; split at h
  · obtain ⟨l, rfl, h2⟩ := onL_inv dG_inv h
    split at h2
    · rename_i hc; cases h2; exact k25 l ⟨_, _, _, _⟩ hc
    · cases h2
  · cases h
theorem x25 (l : List Gt) (r : Rl) (h : (l.length ≤ 1099511627776) = True) : c25f [.agg [I r.raise, I r.clear, I r.hold, I r.tmo], .vs (l.map eG)] = some (.tup [.vs ((alertsL r l).1.map eA), I (alertsL r l).2]) := by
  simp only [c25f, onL_map dG_e, h, if_true]
def c36f : List AV → Option AV
  | [.vs vals, .agg [.int .i64 a, .int .i64 b], .int .i64 c] => onL dG vals fun l => if l.length ≤ 1099511627776 then some (.tup [.vs ((blindL l a b c).1.map eN), I (blindL l a b c).2]) else none
  | _ => none
theorem g36 : Fn P 36 c36f := fun args v h => by
  unfold c36f at h; split at h
  · obtain ⟨l, rfl, h2⟩ := onL_inv dG_inv h
    split at h2
    · rename_i hc; cases h2; exact k36 l _ _ _ hc
    · cases h2
  · cases h
theorem x36 (l : List Gt) (a b c : Int) (h : (l.length ≤ 1099511627776) = True) : c36f [.vs (l.map eG), .agg [.int .i64 a, .int .i64 b], .int .i64 c] = some (.tup [.vs ((blindL l a b c).1.map eN), I (blindL l a b c).2]) := by
  simp only [c36f, onL_map dG_e, h, if_true]
def dA : AV → Option Al
  | .agg [.int .i64 a, .int .i64 b, .int .i64 c] => some ⟨a, b, c⟩
  | _ => none
theorem dA_e (g : Al) : dA (eA g) = some g := rfl
theorem dA_inv (v : AV) (g : Al) (h : dA v = some g) : v = eA g := by
  unfold dA at h
  split at h
  · cases h; rfl
  · cases h
def c28f : List AV → Option AV
  | [.vs u, .vs v] => onL dA u fun a => onL dA v fun b => if a.length ≤ 1099511627776 ∧ b.length ≤ 1099511627776 then some (.bool (decide (a = b))) else none
  | _ => none
theorem g28 : Fn P 28 c28f := fun args v h => by
  unfold c28f at h; split at h
  · obtain ⟨a, rfl, h2⟩ := onL_inv dA_inv h
    obtain ⟨b, rfl, h3⟩ := onL_inv dA_inv h2
    split at h3
    · rename_i hc; cases h3; exact k28 a b hc.1 hc.2
    · cases h3
  · cases h
theorem x28 (a b : List Al) (h : (a.length ≤ 1099511627776) = True) (h2 : (b.length ≤ 1099511627776) = True) : c28f [.vs (a.map eA), .vs (b.map eA)] = some (.bool (decide (a = b))) := by
  simp only [c28f, onL_map dA_e, h, h2, and_self, if_true]
def c43f : List AV → Option AV
  | [.vs u, .vs v] => onL dN u fun a => onL dN v fun b => if a.length ≤ 1099511627776 ∧ b.length ≤ 1099511627776 then some (.bool (decide (a = b))) else none
  | _ => none
theorem g43 : Fn P 43 c43f := fun args v h => by
  unfold c43f at h; split at h
  · obtain ⟨a, rfl, h2⟩ := onL_inv dN_inv h
    obtain ⟨b, rfl, h3⟩ := onL_inv dN_inv h2
    split at h3
    · rename_i hc; cases h3; exact k43 a b hc.1 hc.2
    · cases h3
  · cases h
theorem x43 (a b : List Rg) (h : (a.length ≤ 1099511627776) = True) (h2 : (b.length ≤ 1099511627776) = True) : c43f [.vs (a.map eN), .vs (b.map eN)] = some (.bool (decide (a = b))) := by
  simp only [c43f, onL_map dN_e, h, h2, and_self, if_true]

/-- the tick before index n -/
def prevT (l : List Gt) : Nat → Int
  | 0 => -1
  | n + 1 => match l[n]? with
    | some g => g.at'
    | none => -1

/-! the examples -/
def pf : List Gt := [⟨0, 900, 1000⟩, ⟨500, 800, 850⟩, ⟨1500, 200, 300⟩]
def ru : Rl := ⟨500, 300, 20, 60⟩
def ev : List Gt := [⟨10, 520, 600⟩, ⟨30, 200, 290⟩, ⟨40, 250, 310⟩, ⟨55, 100, 200⟩, ⟨80, 0, 100⟩]
theorem k78 : FOk P 78 [] (.vs [.agg [I 0, I 900, I 1000], .agg [I 500, I 800, I 850], .agg [I 1500, I 200, I 300]]) := by
  refine c78.fok rfl (Cor.run (noC_good _) (noHx_good _) hm ?_)
  simp +contextual -implicitDefEqProofs (maxSteps := 2000000) only [bg_eq, a78, ruB, rh_no, Int.reduceLT, Int.reduceLE, Int.reduceAdd, Int.reduceSub, Int.reduceMul, Int.reduceNeg, Int.reduceToNat, Int.reduceEq, Int.reduceNe, Int.reduceTDiv, Int.reduceTMod, implies_true, putL, appN, appX, appC, Eng.Fi, reduceCtorEq, exists_eq_left', exists_eq_left, if_true, if_false, List.replicate, Nat.reduceAdd, Nat.reduceSub, Nat.reduceMul, Nat.reduceLeDiff, Nat.reduceLT, Nat.reduceEqDiff]
theorem k79 : FOk P 79 [] (.agg [I 500, I 300, I 20, I 60]) := by
  refine c79.fok rfl (Cor.run (noC_good _) (noHx_good _) hm ?_)
  simp +contextual -implicitDefEqProofs (maxSteps := 2000000) only [bg_eq, a79, ruB, rh_no, Int.reduceLT, Int.reduceLE, Int.reduceAdd, Int.reduceSub, Int.reduceMul, Int.reduceNeg, Int.reduceToNat, Int.reduceEq, Int.reduceNe, Int.reduceTDiv, Int.reduceTMod, implies_true, putL, appN, appX, appC, Eng.Fi, reduceCtorEq, exists_eq_left', exists_eq_left, if_true, if_false, List.replicate, Nat.reduceAdd, Nat.reduceSub, Nat.reduceMul, Nat.reduceLeDiff, Nat.reduceLT, Nat.reduceEqDiff]
theorem k80 : FOk P 80 [] (.vs [.agg [I 10, I 520, I 600], .agg [I 30, I 200, I 290], .agg [I 40, I 250, I 310], .agg [I 55, I 100, I 200], .agg [I 80, I 0, I 100]]) := by
  refine c80.fok rfl (Cor.run (noC_good _) (noHx_good _) hm ?_)
  simp +contextual -implicitDefEqProofs (maxSteps := 2000000) only [bg_eq, a80, ruB, rh_no, Int.reduceLT, Int.reduceLE, Int.reduceAdd, Int.reduceSub, Int.reduceMul, Int.reduceNeg, Int.reduceToNat, Int.reduceEq, Int.reduceNe, Int.reduceTDiv, Int.reduceTMod, implies_true, putL, appN, appX, appC, Eng.Fi, reduceCtorEq, exists_eq_left', exists_eq_left, if_true, if_false, List.replicate, Nat.reduceAdd, Nat.reduceSub, Nat.reduceMul, Nat.reduceLeDiff, Nat.reduceLT, Nat.reduceEqDiff]
def c78f : List AV → Option AV
  | [] => some (.vs [.agg [I 0, I 900, I 1000], .agg [I 500, I 800, I 850], .agg [I 1500, I 200, I 300]])
  | _ => none
theorem g78 : Fn P 78 c78f := fun args v h => by
  unfold c78f at h; split at h
  · cases h; exact k78
  · cases h
theorem x78 : c78f [] = some (.vs [.agg [I 0, I 900, I 1000], .agg [I 500, I 800, I 850], .agg [I 1500, I 200, I 300]]) := rfl
def c79f : List AV → Option AV
  | [] => some (.agg [I 500, I 300, I 20, I 60])
  | _ => none
theorem g79 : Fn P 79 c79f := fun args v h => by
  unfold c79f at h; split at h
  · cases h; exact k79
  · cases h
theorem x79 : c79f [] = some (.agg [I 500, I 300, I 20, I 60]) := rfl
def c80f : List AV → Option AV
  | [] => some (.vs [.agg [I 10, I 520, I 600], .agg [I 30, I 200, I 290], .agg [I 40, I 250, I 310], .agg [I 55, I 100, I 200], .agg [I 80, I 0, I 100]])
  | _ => none
theorem g80 : Fn P 80 c80f := fun args v h => by
  unfold c80f at h; split at h
  · cases h; exact k80
  · cases h
theorem x80 : c80f [] = some (.vs [.agg [I 10, I 520, I 600], .agg [I 30, I 200, I 290], .agg [I 40, I 250, I 310], .agg [I 55, I 100, I 200], .agg [I 80, I 0, I 100]]) := rfl

theorem p60 : c60f [.vs [.agg [I 0, I 900, I 1000], .agg [I 500, I 800, I 850], .agg [I 1500, I 200, I 300]], I 1000] = some (.tup [.agg [I 1, I 2, I 500, I 650], I 0]) := by kernel_rfl
theorem p25 : c25f [.agg [I 500, I 300, I 20, I 60], .vs [.agg [I 10, I 520, I 600], .agg [I 30, I 200, I 290], .agg [I 40, I 250, I 310], .agg [I 55, I 100, I 200], .agg [I 80, I 0, I 100]]] = some (.tup [.vs [.agg [I 1, I 10, I 79]], I 0]) := by kernel_rfl
theorem p36 : c36f [.vs [.agg [I 0, I 900, I 1000], .agg [I 500, I 800, I 850], .agg [I 1500, I 200, I 300]], .agg [I 0, I 2000], I 400] = some (.tup [.vs [.agg [I 901, I 1099], .agg [I 1901, I 2000]], I 0]) := by kernel_rfl
theorem p15 : c15f [.agg [I 9, I 300, I 1, I 520]] = some (.tup [.agg [I 9, I 1, I 49, I 1, I 2, I 18, I 211], I 0]) := by kernel_rfl
theorem p28 : c28f [.vs [.agg [I 1, I 10, I 79]], .vs [.agg [I 1, I 10, I 79]]] = some (.bool true) := by kernel_rfl
theorem p43 : c43f [.vs [.agg [I 901, I 1099], .agg [I 1901, I 2000]], .vs [.agg [I 901, I 1099], .agg [I 1901, I 2000]]] = some (.bool true) := by kernel_rfl
theorem k14 : FOk P 14 [] (.bool true) := by
  refine c14.fok rfl (Cor.run (addC_good g43 (addC_good g28 (addC_good g15 (addC_good g36 (addC_good g25 (addC_good g60 (addC_good g80 (addC_good g79 (addC_good g78 (noC_good _)))))))))) (noHx_good _) hm ?_)
  simp +contextual -implicitDefEqProofs (maxSteps := 2000000) only [bg_eq, a14, x78, x79, x80, p60, p25, p36, p15, p28, p43, ruB, rh_no, Int.reduceLT, Int.reduceLE, Int.reduceAdd, Int.reduceSub, Int.reduceMul, Int.reduceNeg, Int.reduceToNat, Int.reduceEq, Int.reduceNe, Int.reduceTDiv, Int.reduceTMod, implies_true, putL, appN, appX, appC, Eng.Fi, reduceCtorEq, exists_eq_left', exists_eq_left, if_true, if_false, List.replicate, Nat.reduceAdd, Nat.reduceSub, Nat.reduceMul, Nat.reduceLeDiff, Nat.reduceLT, Nat.reduceEqDiff]
theorem g14 : Fn P 14 c14f := fun args v h => by
  unfold c14f at h; split at h
  · cases h; exact k14
  · cases h
end Sh
