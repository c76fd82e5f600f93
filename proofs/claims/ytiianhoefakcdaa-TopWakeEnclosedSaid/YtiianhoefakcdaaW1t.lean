import Derived.Test.YtiianhoefakcdaaEngS9
import Derived.Test.YtiianhoefakcdaaEngZ
import Derived.Test.YtiianhoefakcdaaProg
import Derived.Test.YtiianhoefakcdaaEngSE
open Go Go.Proofs Eng
set_option maxRecDepth 100000
set_option linter.unusedSimpArgs false
set_option linter.unusedVariables false
def a9 : AC := .seq (.ops false [] [⟨some 6, .p (.mov), [.c (.bool false)], none⟩]) (.seq (.ops false [] [⟨some 7, .p (.mov), [.t 1], none⟩, ⟨some 8, .p (.mov), [.t 0], none⟩, ⟨some 9, .p (.binI .leq), [.t 7, .t 8], none⟩, ⟨some 10, .p (.mov), [.t 9], none⟩, ⟨some 11, .p (.mov), [.t 0], some (10, true)⟩, ⟨some 12, .p (.mov), [.t 2], some (10, true)⟩, ⟨some 13, .p (.binI .leq), [.t 11, .t 12], some (10, true)⟩, ⟨some 14, .p (.pick), [.t 10, .t 13, .c (.bool false)], none⟩, ⟨some 6, .p (.mov), [.t 14], none⟩]) (.ret))
theorem c9 : FnC Try.prog 9 15 a9 [.tmp 6] := ⟨Try.call9, _, _, Try.func9, rfl, by kernel_rfl, by kernel_rfl, rfl⟩
def a48 : AC := .seq (.ops false [] [⟨some 2, .p (.mov), [.c (.int .i64 0)], none⟩]) (.seq (.seq (.ops false [] [⟨some 5, .p (.mov), [.t 0], none⟩, ⟨some 6, .p (.lenS), [.t 5], none⟩, ⟨some 7, .p (.mov), [.c (.int .i64 0)], none⟩]) (.block 0 (.loop (.seq (.ops false [] [⟨some 8, .p (.binI .lss), [.t 7, .t 6], none⟩]) (.seq (.cond (.t 8) (.skip) (.exit 0)) (.seq (.block 1 (.seq (.ops false [] [⟨some 9, .p (.iaddrS 1), [.t 5, .t 7], none⟩, ⟨some 10, .load 1 false, [.t 9], none⟩, ⟨some 4, .p (.mov), [.t 10], none⟩]) (.seq (.ops false [] [⟨some 11, .p (.mov), [.t 4], none⟩, ⟨some 12, .p (.binI .neq), [.t 11, .c (.int .i64 0)], none⟩]) (.cond (.t 12) (.seq (.ops false [] [⟨some 13, .p (.mov), [.t 4], none⟩, ⟨some 2, .p (.mov), [.t 13], none⟩]) (.ret)) (.skip))))) (.ops false [] [⟨some 14, .p (.binI .add), [.t 7, .c (.int .i64 1)], none⟩, ⟨some 7, .p (.mov), [.t 14], none⟩]))))))) (.seq (.ops false [] [⟨some 2, .p (.mov), [.c (.int .i64 0)], none⟩]) (.ret)))
theorem c48 : FnC Try.prog 48 15 a48 [.tmp 2] := ⟨Try.call48, _, _, Try.func48, rfl, by kernel_rfl, by kernel_rfl, rfl⟩
def a51 : AC := .seq (.ops false [] [⟨some 4, .p (.mov), [.c (.int .i64 0)], none⟩]) (.seq (.seq (.ops false [] [⟨some 5, .p (.mov), [.t 0], none⟩]) (.cond (.t 5) (.seq (.ops false [] [⟨some 4, .p (.mov), [.c (.int .i64 0)], none⟩]) (.ret)) (.skip))) (.seq (.ops false [] [⟨some 6, .p (.mov), [.t 1], none⟩, ⟨some 4, .p (.mov), [.t 6], none⟩]) (.ret)))
theorem c51 : FnC Try.prog 51 7 a51 [.tmp 4] := ⟨Try.call51, _, _, Try.func51, rfl, by kernel_rfl, by kernel_rfl, rfl⟩
def a53 : AC := .seq (.ops false [] [⟨some 6, .p (.mov), [.c (.bool false)], none⟩]) (.seq (.ops false [] [⟨some 7, .p (.mov), [.t 1], none⟩, ⟨some 8, .p (.mov), [.t 0], none⟩, ⟨some 9, .p (.binI .leq), [.t 7, .t 8], none⟩, ⟨some 10, .p (.mov), [.t 9], none⟩, ⟨some 11, .p (.mov), [.t 0], some (10, true)⟩, ⟨some 12, .p (.mov), [.t 2], some (10, true)⟩, ⟨some 13, .p (.binI .leq), [.t 11, .t 12], some (10, true)⟩, ⟨some 14, .p (.pick), [.t 10, .t 13, .c (.bool false)], none⟩, ⟨some 6, .p (.mov), [.t 14], none⟩]) (.ret))
theorem c53 : FnC Try.prog 53 15 a53 [.tmp 6] := ⟨Try.call53, _, _, Try.func53, rfl, by kernel_rfl, by kernel_rfl, rfl⟩
def a83 : AC := .seq (.ops false [] [⟨some 1, .box 97 4 1 true, [.t 0], none⟩, ⟨some 2, .p (.mov), [.c (.int .i64 0)], none⟩]) (.seq (.ops true [] [⟨some 3, .p (.faddr 0), [.t 1], none⟩, ⟨some 4, .load 2 true, [.t 3], none⟩, ⟨some 5, .call 85, [.t 4], none⟩, ⟨some 6, .p (.faddr 2), [.t 1], none⟩, ⟨some 7, .load 1 false, [.t 6], none⟩, ⟨some 8, .call 122, [.t 7], none⟩, ⟨some 9, .p (.mov), [.t 8], none⟩, ⟨some 10, .p (.faddr 3), [.t 1], some (9, true)⟩, ⟨some 11, .load 1 false, [.t 10], some (9, true)⟩, ⟨some 12, .call 123, [.t 11], some (9, true)⟩, ⟨some 13, .p (.pick), [.t 9, .t 12, .c (.bool false)], none⟩, ⟨some 14, .call 51, [.t 13, .c (.int .i64 2)], none⟩, ⟨some 15, .fbs 1, [.t 5, .t 14], none⟩, ⟨some 16, .call 48, [.t 15], none⟩, ⟨some 2, .p (.mov), [.t 16], none⟩]) (.ret))
theorem c83 : FnC Try.prog 83 17 a83 [.tmp 2] := ⟨Try.call83, _, _, Try.func83, rfl, by kernel_rfl, by kernel_rfl, rfl⟩
def a84 : AC := .seq (.ops false [] [⟨some 1, .box 100 3 1 true, [.t 0], none⟩, ⟨some 2, .p (.mov), [.c (.int .i64 0)], none⟩]) (.seq (.ops true [] [⟨some 3, .p (.faddr 0), [.t 1], none⟩, ⟨some 4, .load 2 true, [.t 3], none⟩, ⟨some 5, .call 85, [.t 4], none⟩, ⟨some 6, .p (.faddr 2), [.t 1], none⟩, ⟨some 7, .load 1 false, [.t 6], none⟩, ⟨some 8, .call 53, [.t 7, .c (.int .i64 1), .c (.int .i64 10000)], none⟩, ⟨some 9, .call 51, [.t 8, .c (.int .i64 2)], none⟩, ⟨some 10, .fbs 1, [.t 5, .t 9], none⟩, ⟨some 11, .call 48, [.t 10], none⟩, ⟨some 2, .p (.mov), [.t 11], none⟩]) (.ret))
theorem c84 : FnC Try.prog 84 12 a84 [.tmp 2] := ⟨Try.call84, _, _, Try.func84, rfl, by kernel_rfl, by kernel_rfl, rfl⟩
def a85 : AC := .seq (.ops false [] [⟨some 1, .box 44 2 1 true, [.t 0], none⟩, ⟨some 2, .p (.mov), [.c (.int .i64 0)], none⟩]) (.seq (.ops false [] [⟨some 3, .p (.faddr 0), [.t 1], none⟩, ⟨some 4, .load 1 false, [.t 3], none⟩, ⟨some 5, .call 124, [.t 4], none⟩, ⟨some 6, .p (.mov), [.t 5], none⟩, ⟨some 7, .p (.faddr 1), [.t 1], some (6, true)⟩, ⟨some 8, .load 1 false, [.t 7], some (6, true)⟩, ⟨some 9, .call 125, [.t 8], some (6, true)⟩, ⟨some 10, .p (.pick), [.t 6, .t 9, .c (.bool false)], none⟩, ⟨some 11, .call 51, [.t 10, .c (.int .i64 2)], none⟩, ⟨some 2, .p (.mov), [.t 11], none⟩]) (.ret))
theorem c85 : FnC Try.prog 85 12 a85 [.tmp 2] := ⟨Try.call85, _, _, Try.func85, rfl, by kernel_rfl, by kernel_rfl, rfl⟩
def a88 : AC := .seq (.ops false [] [⟨some 1, .box 23 2 1 true, [.t 0], none⟩, ⟨some 2, .p (.mov), [.c (.int .i64 0)], none⟩]) (.seq (.ops false [] [⟨some 3, .p (.faddr 0), [.t 1], none⟩, ⟨some 4, .load 1 false, [.t 3], none⟩, ⟨some 5, .p (.faddr 1), [.t 1], none⟩, ⟨some 6, .load 1 false, [.t 5], none⟩, ⟨some 7, .p (.binI .leq), [.t 4, .t 6], none⟩, ⟨some 8, .call 51, [.t 7, .c (.int .i64 9)], none⟩, ⟨some 2, .p (.mov), [.t 8], none⟩]) (.ret))
theorem c88 : FnC Try.prog 88 9 a88 [.tmp 2] := ⟨Try.call88, _, _, Try.func88, rfl, by kernel_rfl, by kernel_rfl, rfl⟩
def a122 : AC := .seq (.ops false [] [⟨some 2, .p (.mov), [.c (.bool false)], none⟩]) (.seq (.ops false [] [⟨some 3, .p (.mov), [.t 0], none⟩, ⟨some 4, .call 53, [.t 3, .c (.int .i64 1), .c (.int .i64 100)], none⟩, ⟨some 2, .p (.mov), [.t 4], none⟩]) (.ret))
theorem c122 : FnC Try.prog 122 5 a122 [.tmp 2] := ⟨Try.call122, _, _, Try.func122, rfl, by kernel_rfl, by kernel_rfl, rfl⟩
def a123 : AC := .seq (.ops false [] [⟨some 2, .p (.mov), [.c (.bool false)], none⟩]) (.seq (.ops false [] [⟨some 3, .p (.mov), [.t 0], none⟩, ⟨some 4, .call 53, [.t 3, .c (.int .i64 1), .c (.int .i64 10000)], none⟩, ⟨some 2, .p (.mov), [.t 4], none⟩]) (.ret))
theorem c123 : FnC Try.prog 123 5 a123 [.tmp 2] := ⟨Try.call123, _, _, Try.func123, rfl, by kernel_rfl, by kernel_rfl, rfl⟩
def a124 : AC := .seq (.ops false [] [⟨some 2, .p (.mov), [.c (.bool false)], none⟩]) (.seq (.ops false [] [⟨some 3, .p (.mov), [.t 0], none⟩, ⟨some 4, .call 153, [.t 3, .c (.int .i64 1000)], none⟩, ⟨some 2, .p (.mov), [.t 4], none⟩]) (.ret))
theorem c124 : FnC Try.prog 124 5 a124 [.tmp 2] := ⟨Try.call124, _, _, Try.func124, rfl, by kernel_rfl, by kernel_rfl, rfl⟩
def a125 : AC := .seq (.ops false [] [⟨some 2, .p (.mov), [.c (.bool false)], none⟩]) (.seq (.ops false [] [⟨some 3, .p (.mov), [.t 0], none⟩, ⟨some 4, .call 53, [.t 3, .c (.int .i64 0), .c (.int .i64 1000)], none⟩, ⟨some 2, .p (.mov), [.t 4], none⟩]) (.ret))
theorem c125 : FnC Try.prog 125 5 a125 [.tmp 2] := ⟨Try.call125, _, _, Try.func125, rfl, by kernel_rfl, by kernel_rfl, rfl⟩
def a153 : AC := .seq (.ops false [] [⟨some 4, .p (.mov), [.c (.bool false)], none⟩]) (.seq (.ops false [] [⟨some 5, .p (.mov), [.t 0], none⟩, ⟨some 6, .p (.mov), [.t 1], none⟩, ⟨some 7, .p (.neg), [.t 6], none⟩, ⟨some 8, .p (.mov), [.t 1], none⟩, ⟨some 9, .call 53, [.t 5, .t 7, .t 8], none⟩, ⟨some 4, .p (.mov), [.t 9], none⟩]) (.ret))
theorem c153 : FnC Try.prog 153 10 a153 [.tmp 4] := ⟨Try.call153, _, _, Try.func153, rfl, by kernel_rfl, by kernel_rfl, rfl⟩
namespace Wa
theorem hm : Try.prog.follows .mixedOrders = true := by kernel_rfl
noncomputable abbrev P := Try.prog
structure Rn where
  lo : Int
  hi : Int
  deriving DecidableEq
abbrev eRn (x : Rn) : AV := .agg [I x.lo, I x.hi]
structure Pt where
  y : Int
  z : Int
  deriving DecidableEq
abbrev ePt (x : Pt) : AV := .agg [I x.y, I x.z]
structure Vo where
  y : Int
  z : Int
  s : Int
  deriving DecidableEq
abbrev eVo (x : Vo) : AV := .agg [I x.y, I x.z, I x.s]
def dVo : AV → Option Vo
  | .agg [.int .i64 y, .int .i64 z, .int .i64 s] => some ⟨y, z, s⟩
  | _ => none
theorem dVo_e (x : Vo) : dVo (eVo x) = some x := rfl
theorem dVo_inv (v : AV) (x : Vo) (h : dVo v = some x) : v = eVo x := by
  unfold dVo at h
  split at h
  · cases h; rfl
  · cases h
theorem free_Vo (φ : Nat → Fate) (l : List Vo) : subs φ (l.map eVo) = l.map eVo := subs_mapE φ _ (fun _ => rfl) l
structure Su where
  y : Int
  z : Int
  c : Int
  deriving DecidableEq
abbrev eSu (x : Su) : AV := .agg [I x.y, I x.z, I x.c]
structure Pa where
  y : Int
  z : Int
  h : Int
  s : Int
  deriving DecidableEq
abbrev ePa (x : Pa) : AV := .agg [I x.y, I x.z, I x.h, I x.s]
structure Bx where
  yl : Int
  yh : Int
  zl : Int
  zh : Int
  sl : Int
  sh : Int
  deriving DecidableEq
abbrev eBx (x : Bx) : AV := .agg [I x.yl, I x.yh, I x.zl, I x.zh, I x.sl, I x.sh]
structure Co where
  yl : Int
  yh : Int
  zl : Int
  zh : Int
  lim : Int
  fr : Int
  to : Int
  deriving DecidableEq
abbrev eCo (x : Co) : AV := .agg [I x.yl, I x.yh, I x.zl, I x.zh, I x.lim, I x.fr, I x.to]
theorem mx {n : Nat} (h : n ≤ 100000) : (n ≤ maxLen) = True := by
  simp only [eq_iff_iff, iff_true]; exact Nat.le_trans h (by decide)
theorem k_within (n lo hi : Int) : FOk P 53 [I n, I lo, I hi] (.bool (decide (lo ≤ n ∧ n ≤ hi))) := by
  refine c53.fok rfl (Cor.run (noC_good _) (noHx_good _) hm ?_)
  simp +contextual -implicitDefEqProofs (maxSteps := 2000000) only [bg_eq, a53, ruB, rh_no, Int.reduceLT, Int.reduceLE, Int.reduceAdd, Int.reduceSub, Int.reduceMul, Int.reduceNeg, Int.reduceToNat, Int.reduceEq, Int.reduceNe, Int.reduceTDiv, Int.reduceTMod, implies_true, putL, appN, appX, appC, Eng.Fi, reduceCtorEq, exists_eq_left', exists_eq_left, if_true, if_false, List.replicate, Nat.reduceAdd, Nat.reduceSub, Nat.reduceMul, Nat.reduceLeDiff, Nat.reduceLT, Nat.reduceEqDiff]
def cf_within : List AV → Option AV
  | [.int .i64 n, .int .i64 lo, .int .i64 hi] => some (.bool (decide (lo ≤ n ∧ n ≤ hi)))
  | _ => none
theorem g_within : Fn P 53 cf_within := fun args v h => by
  unfold cf_within at h; split at h
  · have h := Option.some.inj h; subst h; exact k_within _ _ _
  · cases h
theorem x_within (n lo hi : Int) : cf_within [.int .i64 n, .int .i64 lo, .int .i64 hi] = some (.bool (decide (lo ≤ n ∧ n ≤ hi))) := rfl
theorem k_Within (n lo hi : Int) : FOk P 9 [I n, I lo, I hi] (.bool (decide (lo ≤ n ∧ n ≤ hi))) := by
  refine c9.fok rfl (Cor.run (noC_good _) (noHx_good _) hm ?_)
  simp +contextual -implicitDefEqProofs (maxSteps := 2000000) only [bg_eq, a9, ruB, rh_no, Int.reduceLT, Int.reduceLE, Int.reduceAdd, Int.reduceSub, Int.reduceMul, Int.reduceNeg, Int.reduceToNat, Int.reduceEq, Int.reduceNe, Int.reduceTDiv, Int.reduceTMod, implies_true, putL, appN, appX, appC, Eng.Fi, reduceCtorEq, exists_eq_left', exists_eq_left, if_true, if_false, List.replicate, Nat.reduceAdd, Nat.reduceSub, Nat.reduceMul, Nat.reduceLeDiff, Nat.reduceLT, Nat.reduceEqDiff]
def cf_Within : List AV → Option AV
  | [.int .i64 n, .int .i64 lo, .int .i64 hi] => some (.bool (decide (lo ≤ n ∧ n ≤ hi)))
  | _ => none
theorem g_Within : Fn P 9 cf_Within := fun args v h => by
  unfold cf_Within at h; split at h
  · have h := Option.some.inj h; subst h; exact k_Within _ _ _
  · cases h
theorem x_Within (n lo hi : Int) : cf_Within [.int .i64 n, .int .i64 lo, .int .i64 hi] = some (.bool (decide (lo ≤ n ∧ n ≤ hi))) := rfl
theorem k_sized (n lim : Int) (hl : 0 ≤ lim ∧ lim ≤ 1099511627776) : FOk P 153 [I n, I lim] (.bool (decide (-lim ≤ n ∧ n ≤ lim))) := by
  have w : IntKind.wrap .i64 (0 - lim) = -lim := by rw [wrap64 (by omega) (by omega)]; omega
  refine c153.fok rfl (Cor.run (addC_good g_within (noC_good _)) (noHx_good _) hm ?_)
  simp +contextual -implicitDefEqProofs (maxSteps := 2000000) only [bg_eq, a153, w, x_within, ruB, rh_no, Int.reduceLT, Int.reduceLE, Int.reduceAdd, Int.reduceSub, Int.reduceMul, Int.reduceNeg, Int.reduceToNat, Int.reduceEq, Int.reduceNe, Int.reduceTDiv, Int.reduceTMod, implies_true, putL, appN, appX, appC, Eng.Fi, reduceCtorEq, exists_eq_left', exists_eq_left, if_true, if_false, List.replicate, Nat.reduceAdd, Nat.reduceSub, Nat.reduceMul, Nat.reduceLeDiff, Nat.reduceLT, Nat.reduceEqDiff]
def cf_sized : List AV → Option AV
  | [.int .i64 n, .int .i64 lim] => if 0 ≤ lim ∧ lim ≤ 1099511627776 then some (.bool (decide (-lim ≤ n ∧ n ≤ lim))) else none
  | _ => none
theorem g_sized : Fn P 153 cf_sized := fun args v hh => by
  unfold cf_sized at hh; split at hh
  · split at hh
    · rename_i hc; have hk := Option.some.inj hh; subst hk; exact k_sized _ _ hc
    · cases hh
  · cases hh
theorem x_sized (n : Int) (lim : Int) (hc : (0 ≤ lim ∧ lim ≤ 1099511627776) = True) : cf_sized [.int .i64 n, .int .i64 lim] = some (.bool (decide (-lim ≤ n ∧ n ≤ lim))) := by
  exact if_pos (by rw [hc]; trivial)
def unl (ok : Prop) [Decidable ok] (e : Int) : Int := if ok then 0 else e
theorem unl_t {ok : Prop} [Decidable ok] (e : Int) (h : ok) : unl ok e = 0 := if_pos h
theorem unl_f {ok : Prop} [Decidable ok] (e : Int) (h : ¬ ok) : unl ok e = e := if_neg h
theorem unl_zero {p : Prop} [Decidable p] {e : Int} (h : unl p e = 0) (he : e ≠ 0) : p := by
  unfold unl at h
  split at h
  · assumption
  · exact absurd h he
theorem k_unless (ok : Bool) (e : Int) : FOk P 51 [B ok, I e] (I (unl (ok = true) e)) := by
  refine c51.fok rfl (Cor.run (noC_good _) (noHx_good _) hm ?_)
  simp +contextual -implicitDefEqProofs (maxSteps := 2000000) only [bg_eq, a51, CV_b, ruB, rh_no, Int.reduceLT, Int.reduceLE, Int.reduceAdd, Int.reduceSub, Int.reduceMul, Int.reduceNeg, Int.reduceToNat, Int.reduceEq, Int.reduceNe, Int.reduceTDiv, Int.reduceTMod, implies_true, putL, appN, appX, appC, Eng.Fi, reduceCtorEq, exists_eq_left', exists_eq_left, if_true, if_false, List.replicate, Nat.reduceAdd, Nat.reduceSub, Nat.reduceMul, Nat.reduceLeDiff, Nat.reduceLT, Nat.reduceEqDiff]
  simp only [unl]
  cases ok <;> simp
def cf_unless : List AV → Option AV
  | [.bool ok, .int .i64 e] => some (I (unl (ok = true) e))
  | _ => none
theorem g_unless : Fn P 51 cf_unless := fun args v h => by
  unfold cf_unless at h; split at h
  · cases h; exact k_unless _ _
  · cases h
theorem x_unless (p : Prop) [Decidable p] (e : Int) : cf_unless [.bool (decide p), .int .i64 e] = some (.int .i64 (unl p e)) := by simp [cf_unless, unl]
def firstE : List Int → Int
  | [] => 0
  | e :: l => if e = 0 then firstE l else e
def S86 (l : List Int) (n : Nat) : AState := ⟨[.vs (l.map I), .any, I 0, .any, .any, .vs (l.map I), I l.length, I n, .any, .any, .any, .any, .any, .any, .any], [], 0⟩
theorem k_first (l : List Int) (hl : l.length ≤ 1099511627776) : FOk P 48 [.vs (l.map I)] (I (firstE l)) := by
  refine c48.fok (by simp only [subs, sub1, subs_I]) (Cor.run (noC_good _) (noHx_good _) hm ?_)
  simp +contextual -implicitDefEqProofs (maxSteps := 2000000) only [bg_eq, a48, List.length_map, ruB, rh_no, Int.reduceLT, Int.reduceLE, Int.reduceAdd, Int.reduceSub, Int.reduceMul, Int.reduceNeg, Int.reduceToNat, Int.reduceEq, Int.reduceNe, Int.reduceTDiv, Int.reduceTMod, implies_true, putL, appN, appX, appC, Eng.Fi, reduceCtorEq, exists_eq_left', exists_eq_left, if_true, if_false, List.replicate, Nat.reduceAdd, Nat.reduceSub, Nat.reduceMul, Nat.reduceLeDiff, Nat.reduceLT, Nat.reduceEqDiff]
  refine Cor.lp (noC_good _) (noHx_good _) hm (S86 l) (fun n => n ≤ l.length ∧ firstE l = firstE (l.drop n)) (fun n => l.length - n) (a := 0) ⟨Nat.zero_le _, by simp⟩ (Wkn.keep [0, 2, 5, 6, 7] rfl) ?_
  intro f n ⟨hn, hf⟩ go
  rcases Nat.lt_or_ge n l.length with h | h
  · have e1 : decide ((n : Int) < (l.length : Int)) = true := lt_t h
    have e2 : (l.map I)[n]? = some (I l[n]) := get_e I l h
    have e3 : IntKind.wrap .i64 ((n : Int) + 1) = ((n + 1 : Nat) : Int) := suc_w (by omega)
    have e4 : l.drop n = l[n] :: l.drop (n + 1) := List.drop_eq_getElem_cons h
    rw [e4] at hf
    simp +contextual -implicitDefEqProofs (maxSteps := 2000000) only [S86, e1, e2, e3, ruB, rh_no, Int.reduceLT, Int.reduceLE, Int.reduceAdd, Int.reduceSub, Int.reduceMul, Int.reduceNeg, Int.reduceToNat, Int.reduceEq, Int.reduceNe, Int.reduceTDiv, Int.reduceTMod, implies_true, putL, appN, appX, appC, Eng.Fi, reduceCtorEq, exists_eq_left', exists_eq_left, if_true, if_false, List.replicate, Nat.reduceAdd, Nat.reduceSub, Nat.reduceMul, Nat.reduceLeDiff, Nat.reduceLT, Nat.reduceEqDiff]
    refine ⟨fun h0 => ?_, fun h0 => go _ (n + 1) ⟨h, ?_⟩ (by omega) (Wkn.keep [0, 2, 5, 6, 7] rfl)⟩
    · rw [hf, firstE, if_neg h0]
    · rw [hf, firstE, if_pos h0]
  · have e1 : decide ((n : Int) < (l.length : Int)) = false := lt_f h
    simp +contextual -implicitDefEqProofs (maxSteps := 2000000) only [S86, e1, ruB, rh_no, Int.reduceLT, Int.reduceLE, Int.reduceAdd, Int.reduceSub, Int.reduceMul, Int.reduceNeg, Int.reduceToNat, Int.reduceEq, Int.reduceNe, Int.reduceTDiv, Int.reduceTMod, implies_true, putL, appN, appX, appC, Eng.Fi, reduceCtorEq, exists_eq_left', exists_eq_left, if_true, if_false, List.replicate, Nat.reduceAdd, Nat.reduceSub, Nat.reduceMul, Nat.reduceLeDiff, Nat.reduceLT, Nat.reduceEqDiff]
    rw [hf, List.drop_eq_nil_of_le h]; rfl
def rfirst : Option (List Int) → Option AV
  | some l => if l.length ≤ 1099511627776 then some (I (firstE l)) else none
  | none => none
def cf_first : List AV → Option AV
  | [.vs vals] => rfirst (decL decI vals)
  | _ => none
theorem g_first : Fn P 48 cf_first := fun args v h => by
  unfold cf_first at h; split at h
  · unfold rfirst at h; split at h
    · rename_i l h1
      split at h
      · cases h; rw [decL_inv decI I (fun v x => decI_inv) h1]; exact k_first l ‹_›
      · cases h
    · cases h
  · cases h
theorem x_first (vals : List AV) : cf_first [.vs vals] = rfirst (decL decI vals) := rfl
theorem y_first (l : List Int) (h : (l.length ≤ 1099511627776) = True) : rfirst (some l) = some (.int .i64 (firstE l)) := by simp only [rfirst, h, if_true]
theorem firstE_zero : ∀ {l : List Int}, firstE l = 0 → ∀ e ∈ l, e = 0
  | [], _, e, he => by simp at he
  | x :: l, h, e, he => by
    simp only [firstE] at h
    split at h
    · rename_i hx
      rcases List.mem_cons.1 he with rfl | he
      · exact hx
      · exact firstE_zero h e he
    · rename_i hx; exact absurd h hx
theorem firstE_all : ∀ {l : List Int}, (∀ e ∈ l, e = 0) → firstE l = 0
  | [], _ => rfl
  | x :: l, h => by rw [firstE, if_pos (h x (by simp))]; exact firstE_all fun e he => h e (by simp [he])
theorem k_orderErr (a b : Int) : FOk P 88 [eRn ⟨a, b⟩] (I (unl (a ≤ b) 9)) := by
  refine c88.fok rfl (Cor.run (addC_good g_unless (noC_good _)) (noHx_good _) hm ?_)
  simp +contextual -implicitDefEqProofs (maxSteps := 2000000) only [bg_eq, a88, x_unless, ruB, rh_no, Int.reduceLT, Int.reduceLE, Int.reduceAdd, Int.reduceSub, Int.reduceMul, Int.reduceNeg, Int.reduceToNat, Int.reduceEq, Int.reduceNe, Int.reduceTDiv, Int.reduceTMod, implies_true, putL, appN, appX, appC, Eng.Fi, reduceCtorEq, exists_eq_left', exists_eq_left, if_true, if_false, List.replicate, Nat.reduceAdd, Nat.reduceSub, Nat.reduceMul, Nat.reduceLeDiff, Nat.reduceLT, Nat.reduceEqDiff]
def cf_orderErr : List AV → Option AV
  | [.agg [.int .i64 a, .int .i64 b]] => some (.int .i64 (unl (a ≤ b) 9))
  | _ => none
theorem g_orderErr : Fn P 88 cf_orderErr := fun args v h => by
  unfold cf_orderErr at h; split at h
  · have h := Option.some.inj h; subst h; exact k_orderErr _ _
  · cases h
theorem x_orderErr (a b : Int) : cf_orderErr [.agg [.int .i64 a, .int .i64 b]] = some (.int .i64 (unl (a ≤ b) 9)) := rfl
def siR (n : Int) : Prop := -1000 ≤ n ∧ n ≤ 1000
def heR (n : Int) : Prop := 0 ≤ n ∧ n ≤ 1000
instance (n : Int) : Decidable (siR n) := by unfold siR; infer_instance
instance (n : Int) : Decidable (heR n) := by unfold heR; infer_instance
theorem x_sized' (n lim : Int) (h : (0 ≤ lim ∧ lim ≤ 1099511627776) = True) (m : Int) (hm : -lim = m) : cf_sized [.int .i64 n, .int .i64 lim] = some (.bool (decide (m ≤ n ∧ n ≤ lim))) := by subst hm; exact x_sized n lim h
theorem k_isSide (n : Int) : FOk P 124 [I n] (.bool (decide (siR n))) := by
  have y := x_sized' n 1000 (by simp) (-1000) rfl
  refine c124.fok rfl (Cor.run (addC_good g_sized (noC_good _)) (noHx_good _) hm ?_)
  simp +contextual -implicitDefEqProofs (maxSteps := 2000000) only [bg_eq, a124, y, siR, ruB, rh_no, Int.reduceLT, Int.reduceLE, Int.reduceAdd, Int.reduceSub, Int.reduceMul, Int.reduceNeg, Int.reduceToNat, Int.reduceEq, Int.reduceNe, Int.reduceTDiv, Int.reduceTMod, implies_true, putL, appN, appX, appC, Eng.Fi, reduceCtorEq, exists_eq_left', exists_eq_left, if_true, if_false, List.replicate, Nat.reduceAdd, Nat.reduceSub, Nat.reduceMul, Nat.reduceLeDiff, Nat.reduceLT, Nat.reduceEqDiff]
def cf_isSide : List AV → Option AV
  | [.int .i64 n] => some (.bool (decide (siR n)))
  | _ => none
theorem g_isSide : Fn P 124 cf_isSide := fun args v h => by
  unfold cf_isSide at h; split at h
  · have h := Option.some.inj h; subst h; exact k_isSide _
  · cases h
theorem x_isSide (n : Int) : cf_isSide [.int .i64 n] = some (.bool (decide (siR n))) := rfl
theorem k_isHeight (n : Int) : FOk P 125 [I n] (.bool (decide (heR n))) := by
  refine c125.fok rfl (Cor.run (addC_good g_within (noC_good _)) (noHx_good _) hm ?_)
  simp +contextual -implicitDefEqProofs (maxSteps := 2000000) only [bg_eq, a125, x_within, heR, ruB, rh_no, Int.reduceLT, Int.reduceLE, Int.reduceAdd, Int.reduceSub, Int.reduceMul, Int.reduceNeg, Int.reduceToNat, Int.reduceEq, Int.reduceNe, Int.reduceTDiv, Int.reduceTMod, implies_true, putL, appN, appX, appC, Eng.Fi, reduceCtorEq, exists_eq_left', exists_eq_left, if_true, if_false, List.replicate, Nat.reduceAdd, Nat.reduceSub, Nat.reduceMul, Nat.reduceLeDiff, Nat.reduceLT, Nat.reduceEqDiff]
def cf_isHeight : List AV → Option AV
  | [.int .i64 n] => some (.bool (decide (heR n)))
  | _ => none
theorem g_isHeight : Fn P 125 cf_isHeight := fun args v h => by
  unfold cf_isHeight at h; split at h
  · have h := Option.some.inj h; subst h; exact k_isHeight _
  · cases h
theorem x_isHeight (n : Int) : cf_isHeight [.int .i64 n] = some (.bool (decide (heR n))) := rfl
def ptR (p : Pt) : Prop := siR p.y ∧ heR p.z
instance (p : Pt) : Decidable (ptR p) := by unfold ptR; infer_instance
def ptE (p : Pt) : Int := unl (ptR p) 2
theorem k_pointErr (y z : Int) : FOk P 85 [ePt ⟨y, z⟩] (I (ptE ⟨y, z⟩)) := by
  refine c85.fok rfl (Cor.run (addC_good g_unless (addC_good g_isHeight (addC_good g_isSide (noC_good _)))) (noHx_good _) hm ?_)
  simp +contextual -implicitDefEqProofs (maxSteps := 2000000) only [bg_eq, a85, x_isSide, x_isHeight, x_unless, ptE, ptR, ruB, rh_no, Int.reduceLT, Int.reduceLE, Int.reduceAdd, Int.reduceSub, Int.reduceMul, Int.reduceNeg, Int.reduceToNat, Int.reduceEq, Int.reduceNe, Int.reduceTDiv, Int.reduceTMod, implies_true, putL, appN, appX, appC, Eng.Fi, reduceCtorEq, exists_eq_left', exists_eq_left, if_true, if_false, List.replicate, Nat.reduceAdd, Nat.reduceSub, Nat.reduceMul, Nat.reduceLeDiff, Nat.reduceLT, Nat.reduceEqDiff]
def cf_pointErr : List AV → Option AV
  | [.agg [.int .i64 y, .int .i64 z]] => some (.int .i64 (ptE ⟨y, z⟩))
  | _ => none
theorem g_pointErr : Fn P 85 cf_pointErr := fun args v h => by
  unfold cf_pointErr at h; split at h
  · have h := Option.some.inj h; subst h; exact k_pointErr _ _
  · cases h
theorem x_pointErr (y z : Int) : cf_pointErr [.agg [.int .i64 y, .int .i64 z]] = some (.int .i64 (ptE ⟨y, z⟩)) := rfl
def suE (s : Su) : Int := firstE [ptE ⟨s.y, s.z⟩, unl (1 ≤ s.c ∧ s.c ≤ 10000) 2]
theorem k_setupErr (y z c : Int) : FOk P 84 [eSu ⟨y, z, c⟩] (I (suE ⟨y, z, c⟩)) := by
  refine c84.fok rfl (Cor.run (addC_good g_first (addC_good g_unless (addC_good g_within (addC_good g_pointErr (noC_good _))))) (noHx_good _) hm ?_)
  simp +contextual -implicitDefEqProofs (maxSteps := 2000000) only [bg_eq, a84, x_pointErr, x_within, x_unless, x_first, y_first, suE, ruB, rh_no, Int.reduceLT, Int.reduceLE, Int.reduceAdd, Int.reduceSub, Int.reduceMul, Int.reduceNeg, Int.reduceToNat, Int.reduceEq, Int.reduceNe, Int.reduceTDiv, Int.reduceTMod, implies_true, putL, appN, appX, appC, Eng.Fi, reduceCtorEq, exists_eq_left', exists_eq_left, if_true, if_false, List.replicate, Nat.reduceAdd, Nat.reduceSub, Nat.reduceMul, Nat.reduceLeDiff, Nat.reduceLT, Nat.reduceEqDiff]
def cf_setupErr : List AV → Option AV
  | [.agg [.int .i64 y, .int .i64 z, .int .i64 c]] => some (.int .i64 (suE ⟨y, z, c⟩))
  | _ => none
theorem g_setupErr : Fn P 84 cf_setupErr := fun args v h => by
  unfold cf_setupErr at h; split at h
  · have h := Option.some.inj h; subst h; exact k_setupErr _ _ _
  · cases h
theorem x_setupErr (y z c : Int) : cf_setupErr [.agg [.int .i64 y, .int .i64 z, .int .i64 c]] = some (.int .i64 (suE ⟨y, z, c⟩)) := rfl
theorem k_isHalf (n : Int) : FOk P 122 [I n] (.bool (decide (1 ≤ n ∧ n ≤ 100))) := by
  refine c122.fok rfl (Cor.run (addC_good g_within (noC_good _)) (noHx_good _) hm ?_)
  simp +contextual -implicitDefEqProofs (maxSteps := 2000000) only [bg_eq, a122, x_within, ruB, rh_no, Int.reduceLT, Int.reduceLE, Int.reduceAdd, Int.reduceSub, Int.reduceMul, Int.reduceNeg, Int.reduceToNat, Int.reduceEq, Int.reduceNe, Int.reduceTDiv, Int.reduceTMod, implies_true, putL, appN, appX, appC, Eng.Fi, reduceCtorEq, exists_eq_left', exists_eq_left, if_true, if_false, List.replicate, Nat.reduceAdd, Nat.reduceSub, Nat.reduceMul, Nat.reduceLeDiff, Nat.reduceLT, Nat.reduceEqDiff]
def cf_isHalf : List AV → Option AV
  | [.int .i64 n] => some (.bool (decide (1 ≤ n ∧ n ≤ 100)))
  | _ => none
theorem g_isHalf : Fn P 122 cf_isHalf := fun args v h => by
  unfold cf_isHalf at h; split at h
  · have h := Option.some.inj h; subst h; exact k_isHalf _
  · cases h
theorem x_isHalf (n : Int) : cf_isHalf [.int .i64 n] = some (.bool (decide (1 ≤ n ∧ n ≤ 100))) := rfl
theorem k_isStrength (n : Int) : FOk P 123 [I n] (.bool (decide (1 ≤ n ∧ n ≤ 10000))) := by
  refine c123.fok rfl (Cor.run (addC_good g_within (noC_good _)) (noHx_good _) hm ?_)
  simp +contextual -implicitDefEqProofs (maxSteps := 2000000) only [bg_eq, a123, x_within, ruB, rh_no, Int.reduceLT, Int.reduceLE, Int.reduceAdd, Int.reduceSub, Int.reduceMul, Int.reduceNeg, Int.reduceToNat, Int.reduceEq, Int.reduceNe, Int.reduceTDiv, Int.reduceTMod, implies_true, putL, appN, appX, appC, Eng.Fi, reduceCtorEq, exists_eq_left', exists_eq_left, if_true, if_false, List.replicate, Nat.reduceAdd, Nat.reduceSub, Nat.reduceMul, Nat.reduceLeDiff, Nat.reduceLT, Nat.reduceEqDiff]
def cf_isStrength : List AV → Option AV
  | [.int .i64 n] => some (.bool (decide (1 ≤ n ∧ n ≤ 10000)))
  | _ => none
theorem g_isStrength : Fn P 123 cf_isStrength := fun args v h => by
  unfold cf_isStrength at h; split at h
  · have h := Option.some.inj h; subst h; exact k_isStrength _
  · cases h
theorem x_isStrength (n : Int) : cf_isStrength [.int .i64 n] = some (.bool (decide (1 ≤ n ∧ n ≤ 10000))) := rfl
def paE (p : Pa) : Int := firstE [ptE ⟨p.y, p.z⟩, unl ((1 ≤ p.h ∧ p.h ≤ 100) ∧ (1 ≤ p.s ∧ p.s ≤ 10000)) 2]
theorem k_CheckPair (y z h s : Int) : FOk P 83 [ePa ⟨y, z, h, s⟩] (I (paE ⟨y, z, h, s⟩)) := by
  refine c83.fok rfl (Cor.run (addC_good g_first (addC_good g_unless (addC_good g_isStrength (addC_good g_isHalf (addC_good g_pointErr (noC_good _)))))) (noHx_good _) hm ?_)
  simp +contextual -implicitDefEqProofs (maxSteps := 2000000) only [bg_eq, a83, x_pointErr, x_isHalf, x_isStrength, x_unless, x_first, y_first, paE, ruB, rh_no, Int.reduceLT, Int.reduceLE, Int.reduceAdd, Int.reduceSub, Int.reduceMul, Int.reduceNeg, Int.reduceToNat, Int.reduceEq, Int.reduceNe, Int.reduceTDiv, Int.reduceTMod, implies_true, putL, appN, appX, appC, Eng.Fi, reduceCtorEq, exists_eq_left', exists_eq_left, if_true, if_false, List.replicate, Nat.reduceAdd, Nat.reduceSub, Nat.reduceMul, Nat.reduceLeDiff, Nat.reduceLT, Nat.reduceEqDiff]
def cf_CheckPair : List AV → Option AV
  | [.agg [.int .i64 y, .int .i64 z, .int .i64 h, .int .i64 s]] => some (.int .i64 (paE ⟨y, z, h, s⟩))
  | _ => none
theorem g_CheckPair : Fn P 83 cf_CheckPair := fun args v h => by
  unfold cf_CheckPair at h; split at h
  · have h := Option.some.inj h; subst h; exact k_CheckPair _ _ _ _
  · cases h
theorem x_CheckPair (y z h s : Int) : cf_CheckPair [.agg [.int .i64 y, .int .i64 z, .int .i64 h, .int .i64 s]] = some (.int .i64 (paE ⟨y, z, h, s⟩)) := rfl
end Wa
