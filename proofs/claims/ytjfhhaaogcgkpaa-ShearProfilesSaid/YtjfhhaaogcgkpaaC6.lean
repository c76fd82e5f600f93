import Derived.Test.YtjfhhaaogcgkpaaEngS9
import Derived.Test.YtjfhhaaogcgkpaaC5
import Derived.Test.YtjfhhaaogcgkpaaEngS6
open Go Go.Proofs Eng
set_option maxRecDepth 100000
set_option linter.unusedSimpArgs false
set_option linter.unusedVariables false
def a64 : AC := .seq (.ops false [] [⟨some 2, .p (.mov), [.c (.int .i64 0)], none⟩, ⟨some 3, .p (.mov), [.c (.int .i64 0)], none⟩]) (.seq (.seq (.ops false [] [⟨some 5, .p (.mov), [.t 0], none⟩, ⟨some 6, .p (.lenS), [.t 5], none⟩, ⟨some 7, .p (.binI .gtr), [.t 6, .c (.int .i64 20)], none⟩]) (.cond (.t 7) (.seq (.ops false [] [⟨some 2, .p (.mov), [.c (.int .i64 0)], none⟩, ⟨some 3, .p (.mov), [.c (.int .i64 8)], none⟩]) (.ret)) (.skip))) (.seq (.ops false [] [⟨some 4, .alloc 3 1 [.int .i64 0], [], none⟩, ⟨none, .store 1 false, [.t 4, .c (.int .i64 (-1))], none⟩]) (.seq (.ops false [] [⟨some 8, .p (.mov), [.t 0], none⟩, ⟨some 9, .p (.mkfn 123 0), [.t 4], none⟩, ⟨some 10, .call 122, [.t 8, .t 9], none⟩, ⟨some 11, .p (.ext 0), [.t 10], none⟩, ⟨some 12, .p (.ext 1), [.t 10], none⟩, ⟨some 2, .p (.mov), [.t 11], none⟩, ⟨some 3, .p (.mov), [.t 12], none⟩]) (.ret))))
theorem c64 : FnC Try.prog 64 13 a64 [.tmp 2, .tmp 3] := ⟨Try.call64, _, _, Try.func64, rfl, by kernel_rfl, by kernel_rfl, rfl⟩
def a98 : AC := .seq (.ops false [] [⟨some 2, .p (.mov), [.c (.bool false)], none⟩]) (.seq (.ops false [] [⟨some 3, .p (.mov), [.t 0], none⟩, ⟨some 4, .call 107, [.t 3, .c (.int .i64 0), .c (.int .i64 50000)], none⟩, ⟨some 2, .p (.mov), [.t 4], none⟩]) (.ret))
theorem c98 : FnC Try.prog 98 5 a98 [.tmp 2] := ⟨Try.call98, _, _, Try.func98, rfl, by kernel_rfl, by kernel_rfl, rfl⟩
def a101 : AC := .seq (.ops false [] [⟨some 1, .box 164 2 1 true, [.t 0], none⟩, ⟨some 2, .p (.mov), [.c (.int .i64 0)], none⟩]) (.seq (.ops false [] [⟨some 3, .p (.faddr 0), [.t 1], none⟩, ⟨some 4, .load 1 false, [.t 3], none⟩, ⟨some 5, .p (.faddr 1), [.t 1], none⟩, ⟨some 6, .load 1 false, [.t 5], none⟩, ⟨some 7, .p (.binI .leq), [.t 4, .t 6], none⟩, ⟨some 8, .call 85, [.t 7, .c (.int .i64 9)], none⟩, ⟨some 2, .p (.mov), [.t 8], none⟩]) (.ret))
theorem c101 : FnC Try.prog 101 9 a101 [.tmp 2] := ⟨Try.call101, _, _, Try.func101, rfl, by kernel_rfl, by kernel_rfl, rfl⟩
def a111 : AC := .seq (.ops false [] [⟨some 2, .box 164 2 1 true, [.t 0], none⟩, ⟨some 4, .p (.mov), [.c (.bool false)], none⟩]) (.seq (.ops false [] [⟨some 5, .p (.faddr 0), [.t 2], none⟩, ⟨some 6, .load 1 false, [.t 5], none⟩, ⟨some 7, .p (.mov), [.t 1], none⟩, ⟨some 8, .call 114, [.t 6, .t 7], none⟩, ⟨some 9, .p (.mov), [.t 8], none⟩, ⟨some 10, .p (.faddr 1), [.t 2], some (9, true)⟩, ⟨some 11, .load 1 false, [.t 10], some (9, true)⟩, ⟨some 12, .p (.mov), [.t 1], some (9, true)⟩, ⟨some 13, .call 114, [.t 11, .t 12], some (9, true)⟩, ⟨some 14, .p (.pick), [.t 9, .t 13, .c (.bool false)], none⟩, ⟨some 4, .p (.mov), [.t 14], none⟩]) (.ret))
theorem c111 : FnC Try.prog 111 15 a111 [.tmp 4] := ⟨Try.call111, _, _, Try.func111, rfl, by kernel_rfl, by kernel_rfl, rfl⟩
def a114 : AC := .seq (.ops false [] [⟨some 4, .p (.mov), [.c (.bool false)], none⟩]) (.seq (.ops false [] [⟨some 5, .p (.mov), [.t 0], none⟩, ⟨some 6, .p (.mov), [.t 1], none⟩, ⟨some 7, .p (.neg), [.t 6], none⟩, ⟨some 8, .p (.mov), [.t 1], none⟩, ⟨some 9, .call 107, [.t 5, .t 7, .t 8], none⟩, ⟨some 4, .p (.mov), [.t 9], none⟩]) (.ret))
theorem c114 : FnC Try.prog 114 10 a114 [.tmp 4] := ⟨Try.call114, _, _, Try.func114, rfl, by kernel_rfl, by kernel_rfl, rfl⟩
def a122 : AC := .seq (.ops false [] [⟨some 4, .p (.mov), [.c (.int .i64 0)], none⟩, ⟨some 5, .p (.mov), [.c (.int .i64 0)], none⟩]) (.seq (.seq (.ops false [] [⟨some 9, .p (.mov), [.t 0], none⟩, ⟨some 10, .p (.lenS), [.t 9], none⟩, ⟨some 11, .p (.mov), [.c (.int .i64 0)], none⟩]) (.block 0 (.loop (.seq (.ops false [] [⟨some 12, .p (.binI .lss), [.t 11, .t 10], none⟩]) (.seq (.cond (.t 12) (.skip) (.exit 0)) (.seq (.block 1 (.seq (.ops false [] [⟨some 13, .p (.mov), [.t 11], none⟩, ⟨some 14, .p (.iaddrS 3), [.t 9, .t 11], none⟩, ⟨some 15, .load 3 true, [.t 14], none⟩, ⟨some 7, .alloc 117 3 [.agg [.int .i64 0, .int .i64 0, .int .i64 0]], [], none⟩, ⟨some 6, .p (.mov), [.t 13], none⟩, ⟨none, .store 3 true, [.t 7, .t 15], none⟩]) (.seq (.ops false [] [⟨some 16, .p (.mov), [.t 1], none⟩, ⟨some 17, .p (.mov), [.t 6], none⟩, ⟨some 18, .load 3 true, [.t 7], none⟩, ⟨some 19, .callv, [.t 16, .t 17, .t 18], none⟩, ⟨some 8, .p (.mov), [.t 19], none⟩]) (.seq (.ops false [] [⟨some 20, .p (.mov), [.t 8], none⟩, ⟨some 21, .p (.binI .neq), [.t 20, .c (.int .i64 0)], none⟩]) (.cond (.t 21) (.seq (.ops false [] [⟨some 22, .p (.mov), [.t 6], none⟩, ⟨some 23, .p (.mov), [.t 8], none⟩, ⟨some 4, .p (.mov), [.t 22], none⟩, ⟨some 5, .p (.mov), [.t 23], none⟩]) (.ret)) (.skip)))))) (.ops false [] [⟨some 24, .p (.binI .add), [.t 11, .c (.int .i64 1)], none⟩, ⟨some 11, .p (.mov), [.t 24], none⟩]))))))) (.seq (.ops false [] [⟨some 4, .p (.mov), [.c (.int .i64 0)], none⟩, ⟨some 5, .p (.mov), [.c (.int .i64 0)], none⟩]) (.ret)))
theorem c122 : FnC Try.prog 122 25 a122 [.tmp 4, .tmp 5] := ⟨Try.call122, _, _, Try.func122, rfl, by kernel_rfl, by kernel_rfl, rfl⟩
def a123 : AC := .seq (.ops false [] [⟨some 4, .box 117 3 1 true, [.t 1], none⟩, ⟨some 5, .p (.mov), [.c (.int .i64 0)], none⟩]) (.seq (.ops false [] [⟨some 8, .p (.faddr 1), [.t 4], none⟩, ⟨some 9, .load 2 true, [.t 8], none⟩, ⟨some 6, .alloc 164 2 [.agg [.int .i64 0, .int .i64 0]], [], none⟩, ⟨none, .store 2 true, [.t 6, .t 9], none⟩]) (.seq (.ops true [] [⟨some 10, .p (.faddr 0), [.t 4], none⟩, ⟨some 11, .load 1 false, [.t 10], none⟩, ⟨some 12, .call 98, [.t 11], none⟩, ⟨some 13, .p (.mov), [.t 12], none⟩, ⟨some 14, .load 2 true, [.t 6], some (13, true)⟩, ⟨some 15, .call 111, [.t 14, .c (.int .i64 10000)], some (13, true)⟩, ⟨some 16, .p (.pick), [.t 13, .t 15, .c (.bool false)], none⟩, ⟨some 17, .call 85, [.t 16, .c (.int .i64 2)], none⟩, ⟨some 18, .load 2 true, [.t 6], none⟩, ⟨some 19, .call 101, [.t 18], none⟩, ⟨some 20, .p (.faddr 0), [.t 4], none⟩, ⟨some 21, .load 1 false, [.t 20], none⟩, ⟨some 22, .load 1 false, [.t 2], none⟩, ⟨some 23, .p (.binI .gtr), [.t 21, .t 22], none⟩, ⟨some 24, .call 85, [.t 23, .c (.int .i64 9)], none⟩, ⟨some 25, .fbs 1, [.t 17, .t 19, .t 24], none⟩, ⟨some 26, .call 84, [.t 25], none⟩, ⟨some 7, .p (.mov), [.t 26], none⟩]) (.seq (.ops false [] [⟨some 27, .p (.faddr 0), [.t 4], none⟩, ⟨some 28, .load 1 false, [.t 27], none⟩, ⟨none, .store 1 false, [.t 2, .t 28], none⟩]) (.seq (.ops false [] [⟨some 29, .p (.mov), [.t 7], none⟩, ⟨some 5, .p (.mov), [.t 29], none⟩]) (.ret)))))
theorem c123 : FnC Try.prog 123 30 a123 [.tmp 5] := ⟨Try.call123, _, _, Try.func123, rfl, by kernel_rfl, by kernel_rfl, rfl⟩
namespace Sh

/-! lists out of values -/
def onL {α : Type} (dec : AV → Option α) (vals : List AV) (g : List α → Option AV) : Option AV := match decL dec vals with
  | some l => g l
  | none => none
theorem onL_map {α : Type} {dec : AV → Option α} {enc : α → AV} (h : ∀ x, dec (enc x) = some x) (l : List α) (g : List α → Option AV) : onL dec (l.map enc) g = g l := by
  simp only [onL, decL_map dec enc h]
theorem onL_inv {α : Type} {dec : AV → Option α} {enc : α → AV} (h : ∀ v x, dec v = some x → v = enc x) {vals : List AV} {g : List α → Option AV} {v : AV} (hv : onL dec vals g = some v) : ∃ l, vals = l.map enc ∧ g l = some v := by
  unfold onL at hv
  split at hv
  · rename_i l hl; exact ⟨l, decL_inv dec enc h hl, hv⟩
  · cases hv

/-! gates -/
structure Gt where
  at' : Int
  lo : Int
  hi : Int
abbrev eG (g : Gt) : AV := .agg [I g.at', I g.lo, I g.hi]
def dG : AV → Option Gt
  | .agg [.int .i64 a, .int .i64 b, .int .i64 c] => some ⟨a, b, c⟩
  | _ => none
theorem dG_e (g : Gt) : dG (eG g) = some g := rfl
theorem dG_inv (v : AV) (g : Gt) (h : dG v = some g) : v = eG g := by
  unfold dG at h
  split at h
  · cases h; rfl
  · cases h
theorem free_G (φ : Nat → Fate) (l : List Gt) : subs φ (l.map eG) = l.map eG := subs_mapE φ _ (fun _ => rfl) l

theorem k98 (n : Int) : FOk P 98 [I n] (B (w3 n 0 50000)) := by
  refine c98.fok rfl (Cor.run (addC_good g107 (noC_good _)) (noHx_good _) hm ?_)
  simp +contextual -implicitDefEqProofs (maxSteps := 2000000) only [bg_eq, a98, x107, w3, ruB, rh_no, Int.reduceLT, Int.reduceLE, Int.reduceAdd, Int.reduceSub, Int.reduceMul, Int.reduceNeg, Int.reduceToNat, Int.reduceEq, Int.reduceNe, Int.reduceTDiv, Int.reduceTMod, implies_true, putL, appN, appX, appC, Eng.Fi, reduceCtorEq, exists_eq_left', exists_eq_left, if_true, if_false, List.replicate, Nat.reduceAdd, Nat.reduceSub, Nat.reduceMul, Nat.reduceLeDiff, Nat.reduceLT, Nat.reduceEqDiff]
def c98f : List AV → Option AV
  | [.int .i64 n] => some (.bool (decide (0 ≤ n ∧ n ≤ 50000)))
  | _ => none
theorem g98 : Fn P 98 c98f := fun args v h => by
  unfold c98f at h; split at h
  · cases h; exact k98 _
  · cases h
theorem x98 (n : Int) : c98f [.int .i64 n] = some (.bool (decide (0 ≤ n ∧ n ≤ 50000))) := rfl
theorem k101 (a b : Int) : FOk P 101 [.agg [I a, I b]] (I (unl (a ≤ b) 9)) := by
  refine c101.fok rfl (Cor.run (addC_good g85 (noC_good _)) (noHx_good _) hm ?_)
  simp +contextual -implicitDefEqProofs (maxSteps := 2000000) only [bg_eq, a101, x85, ruB, rh_no, Int.reduceLT, Int.reduceLE, Int.reduceAdd, Int.reduceSub, Int.reduceMul, Int.reduceNeg, Int.reduceToNat, Int.reduceEq, Int.reduceNe, Int.reduceTDiv, Int.reduceTMod, implies_true, putL, appN, appX, appC, Eng.Fi, reduceCtorEq, exists_eq_left', exists_eq_left, if_true, if_false, List.replicate, Nat.reduceAdd, Nat.reduceSub, Nat.reduceMul, Nat.reduceLeDiff, Nat.reduceLT, Nat.reduceEqDiff]
def c101f : List AV → Option AV
  | [.agg [.int .i64 a, .int .i64 b]] => some (.int .i64 (unl (a ≤ b) 9))
  | _ => none
theorem g101 : Fn P 101 c101f := fun args v h => by
  unfold c101f at h; split at h
  · cases h; exact k101 _ _
  · cases h
theorem x101 (a b : Int) : c101f [.agg [.int .i64 a, .int .i64 b]] = some (.int .i64 (unl (a ≤ b) 9)) := rfl
theorem k114 (n m : Int) (h0 : 0 ≤ m) (h1 : m ≤ Lmax) : FOk P 114 [I n, I m] (B (w3 n (-m) m)) := by
  have e : IntKind.wrap .i64 (0 - m) = -m := by rw [wrap64 (by simp only [Lmax] at h1; omega) (by omega)]; omega
  refine c114.fok rfl (Cor.run (addC_good g107 (noC_good _)) (noHx_good _) hm ?_)
  simp +contextual -implicitDefEqProofs (maxSteps := 2000000) only [bg_eq, a114, x107, w3, e, ruB, rh_no, Int.reduceLT, Int.reduceLE, Int.reduceAdd, Int.reduceSub, Int.reduceMul, Int.reduceNeg, Int.reduceToNat, Int.reduceEq, Int.reduceNe, Int.reduceTDiv, Int.reduceTMod, implies_true, putL, appN, appX, appC, Eng.Fi, reduceCtorEq, exists_eq_left', exists_eq_left, if_true, if_false, List.replicate, Nat.reduceAdd, Nat.reduceSub, Nat.reduceMul, Nat.reduceLeDiff, Nat.reduceLT, Nat.reduceEqDiff]
def c114f : List AV → Option AV
  | [.int .i64 n, .int .i64 m] => if 0 ≤ m ∧ m ≤ (Lmax : Int) then some (.bool (decide (-m ≤ n ∧ n ≤ m))) else none
  | _ => none
theorem g114 : Fn P 114 c114f := fun args v h => by
  unfold c114f at h; split at h
  · split at h
    · rename_i hc; cases h; exact k114 _ _ hc.1 hc.2
    · cases h
  · cases h
theorem x114 (n m : Int) (h0 : (0 ≤ m) = True) (h1 : (m ≤ 1099511627776) = True) : c114f [.int .i64 n, .int .i64 m] = some (.bool (decide (-m ≤ n ∧ n ≤ m))) := by
  have : (m ≤ (Lmax : Int)) = True := h1
  simp only [c114f, h0, this, and_self, if_true]
theorem k111 (a b m : Int) (h0 : 0 ≤ m) (h1 : m ≤ 1099511627776) : FOk P 111 [.agg [I a, I b], I m] (B (decide ((-m ≤ a ∧ a ≤ m) ∧ (-m ≤ b ∧ b ≤ m)))) := by
  have h0' : (0 ≤ m) = True := by simp [h0]
  have h1' : (m ≤ 1099511627776) = True := by simp [h1]
  refine c111.fok rfl (Cor.run (addC_good g114 (noC_good _)) (noHx_good _) hm ?_)
  simp +contextual -implicitDefEqProofs (maxSteps := 2000000) only [bg_eq, a111, x114, h0', h1', ruB, rh_no, Int.reduceLT, Int.reduceLE, Int.reduceAdd, Int.reduceSub, Int.reduceMul, Int.reduceNeg, Int.reduceToNat, Int.reduceEq, Int.reduceNe, Int.reduceTDiv, Int.reduceTMod, implies_true, putL, appN, appX, appC, Eng.Fi, reduceCtorEq, exists_eq_left', exists_eq_left, if_true, if_false, List.replicate, Nat.reduceAdd, Nat.reduceSub, Nat.reduceMul, Nat.reduceLeDiff, Nat.reduceLT, Nat.reduceEqDiff]
def c111f : List AV → Option AV
  | [.agg [.int .i64 a, .int .i64 b], .int .i64 m] => if 0 ≤ m ∧ m ≤ 1099511627776 then some (.bool (decide ((-m ≤ a ∧ a ≤ m) ∧ (-m ≤ b ∧ b ≤ m)))) else none
  | _ => none
theorem g111 : Fn P 111 c111f := fun args v h => by
  unfold c111f at h; split at h
  · split at h
    · rename_i hc; cases h; exact k111 _ _ _ hc.1 hc.2
    · cases h
  · cases h
theorem x111 (a b m : Int) (h0 : (0 ≤ m) = True) (h1 : (m ≤ 1099511627776) = True) : c111f [.agg [.int .i64 a, .int .i64 b], .int .i64 m] = some (.bool (decide ((-m ≤ a ∧ a ≤ m) ∧ (-m ≤ b ∧ b ≤ m)))) := by
  simp only [c111f, h0, h1, and_self, if_true]

/-! CheckProfile -/
def gErr (last : Int) (g : Gt) : Int := firstE [unl ((0 ≤ g.at' ∧ g.at' ≤ 50000) ∧ ((-10000 ≤ g.lo ∧ g.lo ≤ 10000) ∧ (-10000 ≤ g.hi ∧ g.hi ≤ 10000))) 2, unl (g.lo ≤ g.hi) 9, unl (last < g.at') 9]
theorem l123 (i : Int) (g g0 : Gt) (last : Int) : LOk P 123 [I i, eG g, .ptr 0 1 0 0] [⟨2, 2, .rows 117 3 [eG g0]⟩, ⟨0, 0, .rows 3 1 [I last]⟩] 4 (I (gErr last g)) [⟨2, 2, .rows 117 3 [eG g0]⟩, ⟨0, 0, .rows 3 1 [I g.at']⟩] 4 := by
  refine c123.lok (Cor.post (Cor.run (addC_good g84 (addC_good g85 (addC_good g111 (addC_good g101 (addC_good g98 (noC_good _)))))) (noHx_good _) hm ?_))
  simp +contextual -implicitDefEqProofs (maxSteps := 2000000) only [bg_eq, a123, x98, x101, x111, x85, x84, r84s, FinL, gErr, Lmax, ruB, rh_no, Int.reduceLT, Int.reduceLE, Int.reduceAdd, Int.reduceSub, Int.reduceMul, Int.reduceNeg, Int.reduceToNat, Int.reduceEq, Int.reduceNe, Int.reduceTDiv, Int.reduceTMod, implies_true, putL, appN, appX, appC, Eng.Fi, reduceCtorEq, exists_eq_left', exists_eq_left, if_true, if_false, List.replicate, Nat.reduceAdd, Nat.reduceSub, Nat.reduceMul, Nat.reduceLeDiff, Nat.reduceLT, Nat.reduceEqDiff]
  exact ⟨_, Wkn.to ⟨4, [], [], 4, [5]⟩ rfl rfl rfl, _, rfl, rfl, rfl, rfl⟩
def c123h : List AV → List HEnt → Nat → Option (AV × List HEnt × Nat)
  | [.int .i64 i, v, .ptr 0 1 0 0], [⟨2, 2, .rows 117 3 [v0]⟩, ⟨0, 0, .rows 3 1 [.int .i64 last]⟩], 4 => match dG v, dG v0 with
    | some g, some g0 => some (I (gErr last g), [⟨2, 2, .rows 117 3 [eG g0]⟩, ⟨0, 0, .rows 3 1 [I g.at']⟩], 4)
    | _, _ => none
  | _, _, _ => none
theorem h123 : Hn P 123 c123h := fun args hp nx v hp' nx' h => by
  unfold c123h at h; split at h
  · split at h
    · rename_i h1 h2
      cases h
      rw [dG_inv _ _ h1, dG_inv _ _ h2]
      exact l123 ..
    · cases h
  · cases h
theorem y123 (i last : Int) (g g0 : Gt) : c123h [I i, eG g, .ptr 0 1 0 0] [⟨2, 2, .rows 117 3 [eG g0]⟩, ⟨0, 0, .rows 3 1 [I last]⟩] 4 = some (I (gErr last g), [⟨2, 2, .rows 117 3 [eG g0]⟩, ⟨0, 0, .rows 3 1 [I g.at']⟩], 4) := rfl

/-- the first invalid gate -/
def eachG : Int → Int → List Gt → Int × Int
  | _, _, [] => (0, 0)
  | i, last, g :: r => if gErr last g = 0 then eachG (i + 1) g.at' r else (i, gErr last g)
def eachL : Int → List Gt → Int
  | last, [] => last
  | last, g :: r => if gErr last g = 0 then eachL g.at' r else g.at'
def S122 (l : List Gt) (p : Nat × Int) : AState := ⟨[.vs (l.map eG), .fn 123 [] [.ptr 0 1 0 0], .any, .any, I 0, I 0, .any, .any, .any, .vs (l.map eG), I l.length, I p.1, .any, .any, .any, .any, .any, .any, .any, .any, .any, .any, .any, .any, .any], [⟨0, 0, .rows 3 1 [I p.2]⟩], 2⟩
theorem l122 (l : List Gt) (hl : l.length ≤ 20) : LOk P 122 [.vs (l.map eG), .fn 123 [] [.ptr 0 1 0 0]] [⟨0, 0, .rows 3 1 [I (-1)]⟩] 2 (.tup [I (eachG 0 (-1) l).1, I (eachG 0 (-1) l).2]) [⟨0, 0, .rows 3 1 [I (eachL (-1) l)]⟩] 2 := by
  refine c122.lok (Cor.post (Cor.run (noC_good _) (addH_good h123 (noHx_good _)) hm ?_)) (fun G => YH_add (by decide) (YH_no _ _))
  simp +contextual -implicitDefEqProofs (maxSteps := 2000000) only [bg_eq, a122, List.length_map, ruH, ruB, Int.reduceLT, Int.reduceLE, Int.reduceAdd, Int.reduceSub, Int.reduceMul, Int.reduceNeg, Int.reduceToNat, Int.reduceEq, Int.reduceNe, Int.reduceTDiv, Int.reduceTMod, implies_true, putL, appN, appX, appC, Eng.Fi, reduceCtorEq, exists_eq_left', exists_eq_left, if_true, if_false, List.replicate, Nat.reduceAdd, Nat.reduceSub, Nat.reduceMul, Nat.reduceLeDiff, Nat.reduceLT, Nat.reduceEqDiff]
  refine Cor.lp (noC_good _) (addH_good h123 (noHx_good _)) hm (S122 l) (fun p => p.1 ≤ l.length ∧ eachG 0 (-1) l = eachG p.1 p.2 (l.drop p.1) ∧ eachL (-1) l = eachL p.2 (l.drop p.1)) (fun p => l.length - p.1) (a := (0, -1)) ⟨Nat.zero_le _, by simp, by simp⟩ (Wkn.keep [0, 1, 4, 5, 9, 10, 11] rfl) ?_
  rintro f ⟨n, last⟩ ⟨hn, hf, hL⟩ go
  simp only at hn hf hL
  rcases Nat.lt_or_ge n l.length with h | h
  · have e1 : decide ((n : Int) < (l.length : Int)) = true := by simp; omega
    have e2 : (l.map eG)[n]? = some (eG l[n]) := by simp [h]
    have e3 : IntKind.wrap .i64 ((n : Int) + 1) = ((n + 1 : Nat) : Int) := by rw [wrap64 (by omega) (by omega)]; rfl
    have e4 : l.drop n = l[n] :: l.drop (n + 1) := List.drop_eq_getElem_cons h
    rw [e4, eachG] at hf
    rw [e4, eachL] at hL
    simp +contextual -implicitDefEqProofs (maxSteps := 2000000) only [S122, e1, e2, e3, y123, FinL, ruH, ruB, Int.reduceLT, Int.reduceLE, Int.reduceAdd, Int.reduceSub, Int.reduceMul, Int.reduceNeg, Int.reduceToNat, Int.reduceEq, Int.reduceNe, Int.reduceTDiv, Int.reduceTMod, implies_true, putL, appN, appX, appC, Eng.Fi, reduceCtorEq, exists_eq_left', exists_eq_left, if_true, if_false, List.replicate, Nat.reduceAdd, Nat.reduceSub, Nat.reduceMul, Nat.reduceLeDiff, Nat.reduceLT, Nat.reduceEqDiff]
    refine ⟨fun h0 => ⟨_, Wkn.to ⟨2, [], [], 2, [4, 5]⟩ rfl rfl rfl, _, rfl, ?_, ?_, rfl⟩, fun h0 => go _ (n + 1, l[n].at') ⟨h, ?_, ?_⟩ (by simp only; omega) (Wkn.to ⟨2, [], [], 2, [0, 1, 4, 5, 9, 10, 11]⟩ rfl rfl (by simp only [Wk.st, keepT, sub1, subs, Wk.hp, ABlk.sub, free_G]; try rfl))⟩
    · rw [hf, if_neg h0]; rfl
    · rw [hL, if_neg h0]; rfl
    · rw [hf, if_pos h0]; rfl
    · rw [hL, if_pos h0]
  · have e1 : decide ((n : Int) < (l.length : Int)) = false := by simp; omega
    simp +contextual -implicitDefEqProofs (maxSteps := 2000000) only [S122, e1, FinL, ruH, ruB, Int.reduceLT, Int.reduceLE, Int.reduceAdd, Int.reduceSub, Int.reduceMul, Int.reduceNeg, Int.reduceToNat, Int.reduceEq, Int.reduceNe, Int.reduceTDiv, Int.reduceTMod, implies_true, putL, appN, appX, appC, Eng.Fi, reduceCtorEq, exists_eq_left', exists_eq_left, if_true, if_false, List.replicate, Nat.reduceAdd, Nat.reduceSub, Nat.reduceMul, Nat.reduceLeDiff, Nat.reduceLT, Nat.reduceEqDiff]
    refine ⟨_, Wkn.rfl, _, rfl, ?_, ?_, rfl⟩
    · rw [hf, List.drop_eq_nil_of_le h]; rfl
    · rw [hL, List.drop_eq_nil_of_le h]; rfl
def c122h : List AV → List HEnt → Nat → Option (AV × List HEnt × Nat)
  | [.vs vals, .fn 123 [] [.ptr 0 1 0 0]], [⟨0, 0, .rows 3 1 [.int .i64 (-1)]⟩], 2 => match decL dG vals with
    | some l => if l.length ≤ 20 then some (.tup [I (eachG 0 (-1) l).1, I (eachG 0 (-1) l).2], [⟨0, 0, .rows 3 1 [I (eachL (-1) l)]⟩], 2) else none
    | _ => none
  | _, _, _ => none
theorem h122 : Hn P 122 c122h := fun args hp nx v hp' nx' h => by
  unfold c122h at h; split at h
  · split at h
    · rename_i h1
      split at h
      · rename_i h2
        cases h
        rw [decL_inv dG eG dG_inv h1]
        exact l122 _ h2
      · cases h
    · cases h
  · cases h
theorem y122 (l : List Gt) (h : (l.length ≤ 20) = True) : c122h [.vs (l.map eG), .fn 123 [] [.ptr 0 1 0 0]] [⟨0, 0, .rows 3 1 [I (-1)]⟩] 2 = some (.tup [I (eachG 0 (-1) l).1, I (eachG 0 (-1) l).2], [⟨0, 0, .rows 3 1 [I (eachL (-1) l)]⟩], 2) := by
  simp only [c122h, decL_map dG eG dG_e, h, if_true]

def chkP (l : List Gt) : Int × Int := if l.length ≤ 20 then eachG 0 (-1) l else (0, 8)
theorem k64 (l : List Gt) (hl : l.length ≤ Lmax) : FOk P 64 [.vs (l.map eG)] (.tup [I (chkP l).1, I (chkP l).2]) := by
  refine c64.fok (by simp only [subs, sub1, free_G]) (Cor.run (noC_good _) (addH_good h122 (noHx_good _)) hm ?_) (fun G => YH_add (by decide) (YH_no _ _))
  by_cases h : l.length ≤ 20
  · have h' : (l.length ≤ 20) = True := by simp [h]
    have h1 : decide ((20 : Int) < (l.length : Int)) = false := by simp; omega
    simp +contextual -implicitDefEqProofs (maxSteps := 2000000) only [bg_eq, a64, List.length_map, h1, y122, h', chkP, ruH, ruB, Int.reduceLT, Int.reduceLE, Int.reduceAdd, Int.reduceSub, Int.reduceMul, Int.reduceNeg, Int.reduceToNat, Int.reduceEq, Int.reduceNe, Int.reduceTDiv, Int.reduceTMod, implies_true, putL, appN, appX, appC, Eng.Fi, reduceCtorEq, exists_eq_left', exists_eq_left, if_true, if_false, List.replicate, Nat.reduceAdd, Nat.reduceSub, Nat.reduceMul, Nat.reduceLeDiff, Nat.reduceLT, Nat.reduceEqDiff]
  · have h1 : decide ((20 : Int) < (l.length : Int)) = true := by simp; omega
    simp +contextual -implicitDefEqProofs (maxSteps := 2000000) only [bg_eq, a64, List.length_map, h1, chkP, h, ruH, ruB, Int.reduceLT, Int.reduceLE, Int.reduceAdd, Int.reduceSub, Int.reduceMul, Int.reduceNeg, Int.reduceToNat, Int.reduceEq, Int.reduceNe, Int.reduceTDiv, Int.reduceTMod, implies_true, putL, appN, appX, appC, Eng.Fi, reduceCtorEq, exists_eq_left', exists_eq_left, if_true, if_false, List.replicate, Nat.reduceAdd, Nat.reduceSub, Nat.reduceMul, Nat.reduceLeDiff, Nat.reduceLT, Nat.reduceEqDiff]
def c64f : List AV → Option AV
  | [.vs vals] => onL dG vals fun l => if l.length ≤ 1099511627776 then some (.tup [I (chkP l).1, I (chkP l).2]) else none
  | _ => none
theorem g64 : Fn P 64 c64f := fun args v h => by
  unfold c64f at h; split at h
  · obtain ⟨l, rfl, h2⟩ := onL_inv dG_inv h
    split at h2
    · rename_i hc; cases h2; exact k64 l  hc
    · cases h2
  · cases h
theorem x64 (l : List Gt) (h : (l.length ≤ 1099511627776) = True) : c64f [.vs (l.map eG)] = some (.tup [I (chkP l).1, I (chkP l).2]) := by
  simp only [c64f, onL_map dG_e, h, if_true]
end Sh
