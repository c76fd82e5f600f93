import Derived.Test.YtabkbhpeeefmgaaEngS9
import Derived.Test.YtabkbhpeeefmgaaEngZ
import Derived.Test.YtabkbhpeeefmgaaProg
import Derived.Test.YtabkbhpeeefmgaaEngSG
open Go Go.Proofs Eng
set_option maxRecDepth 100000
set_option linter.unusedSimpArgs false
set_option linter.unusedVariables false
def a20 : AC := .seq (.ops false [] [⟨some 6, .p (.mov), [.c (.bool false)], none⟩]) (.seq (.ops false [] [⟨some 7, .p (.mov), [.t 1], none⟩, ⟨some 8, .p (.mov), [.t 0], none⟩, ⟨some 9, .p (.binI .leq), [.t 7, .t 8], none⟩, ⟨some 10, .p (.mov), [.t 9], none⟩, ⟨some 11, .p (.mov), [.t 0], some (10, true)⟩, ⟨some 12, .p (.mov), [.t 2], some (10, true)⟩, ⟨some 13, .p (.binI .leq), [.t 11, .t 12], some (10, true)⟩, ⟨some 14, .p (.pick), [.t 10, .t 13, .c (.bool false)], none⟩, ⟨some 6, .p (.mov), [.t 14], none⟩]) (.ret))
theorem c20 : FnC Try.prog 20 15 a20 [.tmp 6] := ⟨Try.call20, _, _, Try.func20, rfl, by kernel_rfl, by kernel_rfl, rfl⟩
def a79 : AC := .seq (.ops false [] [⟨some 2, .p (.mov), [.c (.int .i64 0)], none⟩]) (.seq (.seq (.ops false [] [⟨some 5, .p (.mov), [.t 0], none⟩, ⟨some 6, .p (.lenS), [.t 5], none⟩, ⟨some 7, .p (.mov), [.c (.int .i64 0)], none⟩]) (.block 0 (.loop (.seq (.ops false [] [⟨some 8, .p (.binI .lss), [.t 7, .t 6], none⟩]) (.seq (.cond (.t 8) (.skip) (.exit 0)) (.seq (.block 1 (.seq (.ops false [] [⟨some 9, .p (.iaddrS 1), [.t 5, .t 7], none⟩, ⟨some 10, .load 1 false, [.t 9], none⟩, ⟨some 4, .p (.mov), [.t 10], none⟩]) (.seq (.ops false [] [⟨some 11, .p (.mov), [.t 4], none⟩, ⟨some 12, .p (.binI .neq), [.t 11, .c (.int .i64 0)], none⟩]) (.cond (.t 12) (.seq (.ops false [] [⟨some 13, .p (.mov), [.t 4], none⟩, ⟨some 2, .p (.mov), [.t 13], none⟩]) (.ret)) (.skip))))) (.ops false [] [⟨some 14, .p (.binI .add), [.t 7, .c (.int .i64 1)], none⟩, ⟨some 7, .p (.mov), [.t 14], none⟩]))))))) (.seq (.ops false [] [⟨some 2, .p (.mov), [.c (.int .i64 0)], none⟩]) (.ret)))
theorem c79 : FnC Try.prog 79 15 a79 [.tmp 2] := ⟨Try.call79, _, _, Try.func79, rfl, by kernel_rfl, by kernel_rfl, rfl⟩
def a91 : AC := .seq (.ops false [] [⟨some 4, .p (.mov), [.c (.int .i64 0)], none⟩]) (.seq (.seq (.ops false [] [⟨some 5, .p (.mov), [.t 0], none⟩]) (.cond (.t 5) (.seq (.ops false [] [⟨some 4, .p (.mov), [.c (.int .i64 0)], none⟩]) (.ret)) (.skip))) (.seq (.ops false [] [⟨some 6, .p (.mov), [.t 1], none⟩, ⟨some 4, .p (.mov), [.t 6], none⟩]) (.ret)))
theorem c91 : FnC Try.prog 91 7 a91 [.tmp 4] := ⟨Try.call91, _, _, Try.func91, rfl, by kernel_rfl, by kernel_rfl, rfl⟩
def a92 : AC := .seq (.ops false [] [⟨some 1, .box 48 2 1 true, [.t 0], none⟩, ⟨some 2, .p (.mov), [.c (.int .i64 0)], none⟩]) (.seq (.ops false [] [⟨some 3, .p (.faddr 0), [.t 1], none⟩, ⟨some 4, .load 1 false, [.t 3], none⟩, ⟨some 5, .p (.faddr 1), [.t 1], none⟩, ⟨some 6, .load 1 false, [.t 5], none⟩, ⟨some 7, .p (.binI .leq), [.t 4, .t 6], none⟩, ⟨some 8, .call 91, [.t 7, .c (.int .i64 9)], none⟩, ⟨some 2, .p (.mov), [.t 8], none⟩]) (.ret))
theorem c92 : FnC Try.prog 92 9 a92 [.tmp 2] := ⟨Try.call92, _, _, Try.func92, rfl, by kernel_rfl, by kernel_rfl, rfl⟩
def a103 : AC := .seq (.ops false [] [⟨some 6, .p (.mov), [.c (.bool false)], none⟩]) (.seq (.ops false [] [⟨some 7, .p (.mov), [.t 1], none⟩, ⟨some 8, .p (.mov), [.t 0], none⟩, ⟨some 9, .p (.binI .leq), [.t 7, .t 8], none⟩, ⟨some 10, .p (.mov), [.t 9], none⟩, ⟨some 11, .p (.mov), [.t 0], some (10, true)⟩, ⟨some 12, .p (.mov), [.t 2], some (10, true)⟩, ⟨some 13, .p (.binI .leq), [.t 11, .t 12], some (10, true)⟩, ⟨some 14, .p (.pick), [.t 10, .t 13, .c (.bool false)], none⟩, ⟨some 6, .p (.mov), [.t 14], none⟩]) (.ret))
theorem c103 : FnC Try.prog 103 15 a103 [.tmp 6] := ⟨Try.call103, _, _, Try.func103, rfl, by kernel_rfl, by kernel_rfl, rfl⟩
def a113 : AC := .seq (.ops false [] [⟨some 1, .box 90 3 1 true, [.t 0], none⟩, ⟨some 2, .p (.mov), [.c (.int .i64 0)], none⟩]) (.seq (.ops true [] [⟨some 3, .p (.faddr 0), [.t 1], none⟩, ⟨some 4, .load 2 true, [.t 3], none⟩, ⟨some 5, .call 114, [.t 4], none⟩, ⟨some 6, .p (.faddr 2), [.t 1], none⟩, ⟨some 7, .load 1 false, [.t 6], none⟩, ⟨some 8, .call 103, [.t 7, .c (.int .i64 1), .c (.int .i64 10000)], none⟩, ⟨some 9, .call 91, [.t 8, .c (.int .i64 2)], none⟩, ⟨some 10, .fbs 1, [.t 5, .t 9], none⟩, ⟨some 11, .call 79, [.t 10], none⟩, ⟨some 2, .p (.mov), [.t 11], none⟩]) (.ret))
theorem c113 : FnC Try.prog 113 12 a113 [.tmp 2] := ⟨Try.call113, _, _, Try.func113, rfl, by kernel_rfl, by kernel_rfl, rfl⟩
def a114 : AC := .seq (.ops false [] [⟨some 1, .box 44 2 1 true, [.t 0], none⟩, ⟨some 2, .p (.mov), [.c (.int .i64 0)], none⟩]) (.seq (.ops false [] [⟨some 3, .p (.faddr 0), [.t 1], none⟩, ⟨some 4, .load 1 false, [.t 3], none⟩, ⟨some 5, .call 144, [.t 4], none⟩, ⟨some 6, .p (.mov), [.t 5], none⟩, ⟨some 7, .p (.faddr 1), [.t 1], some (6, true)⟩, ⟨some 8, .load 1 false, [.t 7], some (6, true)⟩, ⟨some 9, .call 145, [.t 8], some (6, true)⟩, ⟨some 10, .p (.pick), [.t 6, .t 9, .c (.bool false)], none⟩, ⟨some 11, .call 91, [.t 10, .c (.int .i64 2)], none⟩, ⟨some 2, .p (.mov), [.t 11], none⟩]) (.ret))
theorem c114 : FnC Try.prog 114 12 a114 [.tmp 2] := ⟨Try.call114, _, _, Try.func114, rfl, by kernel_rfl, by kernel_rfl, rfl⟩
def a116 : AC := .seq (.ops false [] [⟨some 4, .p (.mov), [.c (.bool false)], none⟩]) (.seq (.ops false [] [⟨some 5, .p (.mov), [.t 0], none⟩, ⟨some 6, .p (.mov), [.t 1], none⟩, ⟨some 7, .p (.neg), [.t 6], none⟩, ⟨some 8, .p (.mov), [.t 1], none⟩, ⟨some 9, .call 103, [.t 5, .t 7, .t 8], none⟩, ⟨some 4, .p (.mov), [.t 9], none⟩]) (.ret))
theorem c116 : FnC Try.prog 116 10 a116 [.tmp 4] := ⟨Try.call116, _, _, Try.func116, rfl, by kernel_rfl, by kernel_rfl, rfl⟩
def a122 : AC := .seq (.ops false [] [⟨some 1, .box 108 4 1 true, [.t 0], none⟩, ⟨some 2, .p (.mov), [.c (.int .i64 0)], none⟩]) (.seq (.ops true [] [⟨some 3, .p (.faddr 0), [.t 1], none⟩, ⟨some 4, .load 2 true, [.t 3], none⟩, ⟨some 5, .call 114, [.t 4], none⟩, ⟨some 6, .p (.faddr 2), [.t 1], none⟩, ⟨some 7, .load 1 false, [.t 6], none⟩, ⟨some 8, .call 147, [.t 7], none⟩, ⟨some 9, .p (.mov), [.t 8], none⟩, ⟨some 10, .p (.faddr 3), [.t 1], some (9, true)⟩, ⟨some 11, .load 1 false, [.t 10], some (9, true)⟩, ⟨some 12, .call 150, [.t 11], some (9, true)⟩, ⟨some 13, .p (.pick), [.t 9, .t 12, .c (.bool false)], none⟩, ⟨some 14, .call 91, [.t 13, .c (.int .i64 2)], none⟩, ⟨some 15, .fbs 1, [.t 5, .t 14], none⟩, ⟨some 16, .call 79, [.t 15], none⟩, ⟨some 2, .p (.mov), [.t 16], none⟩]) (.ret))
theorem c122 : FnC Try.prog 122 17 a122 [.tmp 2] := ⟨Try.call122, _, _, Try.func122, rfl, by kernel_rfl, by kernel_rfl, rfl⟩
def a144 : AC := .seq (.ops false [] [⟨some 2, .p (.mov), [.c (.bool false)], none⟩]) (.seq (.ops false [] [⟨some 3, .p (.mov), [.t 0], none⟩, ⟨some 4, .call 116, [.t 3, .c (.int .i64 1000)], none⟩, ⟨some 2, .p (.mov), [.t 4], none⟩]) (.ret))
theorem c144 : FnC Try.prog 144 5 a144 [.tmp 2] := ⟨Try.call144, _, _, Try.func144, rfl, by kernel_rfl, by kernel_rfl, rfl⟩
def a145 : AC := .seq (.ops false [] [⟨some 2, .p (.mov), [.c (.bool false)], none⟩]) (.seq (.ops false [] [⟨some 3, .p (.mov), [.t 0], none⟩, ⟨some 4, .call 103, [.t 3, .c (.int .i64 0), .c (.int .i64 1000)], none⟩, ⟨some 2, .p (.mov), [.t 4], none⟩]) (.ret))
theorem c145 : FnC Try.prog 145 5 a145 [.tmp 2] := ⟨Try.call145, _, _, Try.func145, rfl, by kernel_rfl, by kernel_rfl, rfl⟩
def a147 : AC := .seq (.ops false [] [⟨some 2, .p (.mov), [.c (.bool false)], none⟩]) (.seq (.ops false [] [⟨some 3, .p (.mov), [.t 0], none⟩, ⟨some 4, .call 103, [.t 3, .c (.int .i64 1), .c (.int .i64 100)], none⟩, ⟨some 2, .p (.mov), [.t 4], none⟩]) (.ret))
theorem c147 : FnC Try.prog 147 5 a147 [.tmp 2] := ⟨Try.call147, _, _, Try.func147, rfl, by kernel_rfl, by kernel_rfl, rfl⟩
def a150 : AC := .seq (.ops false [] [⟨some 2, .p (.mov), [.c (.bool false)], none⟩]) (.seq (.ops false [] [⟨some 3, .p (.mov), [.t 0], none⟩, ⟨some 4, .call 103, [.t 3, .c (.int .i64 1), .c (.int .i64 10000)], none⟩, ⟨some 2, .p (.mov), [.t 4], none⟩]) (.ret))
theorem c150 : FnC Try.prog 150 5 a150 [.tmp 2] := ⟨Try.call150, _, _, Try.func150, rfl, by kernel_rfl, by kernel_rfl, rfl⟩
namespace Wa
theorem hm : Try.prog.follows .mixedOrders = true := by kernel_rfl
noncomputable abbrev P := Try.prog
structure Rn where
  lo : Int
  hi : Int
  deriving DecidableEq
abbrev eRn (x : Rn) : AV := .agg [I x.lo, I x.hi]
structure Pt where
  y : Int
  z : Int
  deriving DecidableEq
abbrev ePt (x : Pt) : AV := .agg [I x.y, I x.z]
structure Vo where
  y : Int
  z : Int
  s : Int
  deriving DecidableEq
abbrev eVo (x : Vo) : AV := .agg [I x.y, I x.z, I x.s]
def dVo : AV → Option Vo
  | .agg [.int .i64 y, .int .i64 z, .int .i64 s] => some ⟨y, z, s⟩
  | _ => none
theorem dVo_e (x : Vo) : dVo (eVo x) = some x := rfl
theorem dVo_inv (v : AV) (x : Vo) (h : dVo v = some x) : v = eVo x := by
  unfold dVo at h
  split at h
  · cases h; rfl
  · cases h
theorem free_Vo (φ : Nat → Fate) (l : List Vo) : subs φ (l.map eVo) = l.map eVo := subs_mapE φ _ (fun _ => rfl) l
structure Su where
  y : Int
  z : Int
  c : Int
  deriving DecidableEq
abbrev eSu (x : Su) : AV := .agg [I x.y, I x.z, I x.c]
structure Pa where
  y : Int
  z : Int
  h : Int
  s : Int
  deriving DecidableEq
abbrev ePa (x : Pa) : AV := .agg [I x.y, I x.z, I x.h, I x.s]
structure Bx where
  yl : Int
  yh : Int
  zl : Int
  zh : Int
  sl : Int
  sh : Int
  deriving DecidableEq
abbrev eBx (x : Bx) : AV := .agg [I x.yl, I x.yh, I x.zl, I x.zh, I x.sl, I x.sh]
structure Co where
  yl : Int
  yh : Int
  zl : Int
  zh : Int
  lim : Int
  fr : Int
  to : Int
  deriving DecidableEq
abbrev eCo (x : Co) : AV := .agg [I x.yl, I x.yh, I x.zl, I x.zh, I x.lim, I x.fr, I x.to]
abbrev eI (n : Int) : AV := I n
theorem free_I (φ : Nat → Fate) (l : List Int) : subs φ (l.map eI) = l.map eI := subs_mapE φ _ (fun _ => rfl) l
theorem mx {n : Nat} (h : n ≤ 100000) : (n ≤ maxLen) = True := by
  simp only [eq_iff_iff, iff_true]; exact Nat.le_trans h (by decide)
theorem map_inj {α : Type} {e : α → AV} (h : ∀ x y, e x = e y → x = y) : ∀ (l m : List α), l.map e = m.map e → l = m
  | [], [], _ => rfl
  | [], _ :: _, hh => by simp at hh
  | _ :: _, [], hh => by simp at hh
  | x :: l, y :: m, hh => by
    simp only [List.map_cons, List.cons.injEq] at hh
    rw [h x y hh.1, map_inj h l m hh.2]
theorem subs_append (φ : Nat → Fate) : ∀ (a b : List AV), subs φ (a ++ b) = subs φ a ++ subs φ b
  | [], b => rfl
  | v :: a, b => by rw [List.cons_append, subs, subs, subs_append φ a b]; rfl
theorem k_within (n lo hi : Int) : FOk P 103 [I n, I lo, I hi] (.bool (decide (lo ≤ n ∧ n ≤ hi))) := by
  refine c103.fok rfl (Cor.run (noC_good _) (noHx_good _) hm ?_)
  simp +contextual -implicitDefEqProofs (maxSteps := 2000000) only [bg_eq, a103, ruB, rh_no, Int.reduceLT, Int.reduceLE, Int.reduceAdd, Int.reduceSub, Int.reduceMul, Int.reduceNeg, Int.reduceToNat, Int.reduceEq, Int.reduceNe, Int.reduceTDiv, Int.reduceTMod, implies_true, putL, appN, appX, appC, Eng.Fi, reduceCtorEq, exists_eq_left', exists_eq_left, if_true, if_false, List.replicate, Nat.reduceAdd, Nat.reduceSub, Nat.reduceMul, Nat.reduceLeDiff, Nat.reduceLT, Nat.reduceEqDiff]
def cf_within : List AV → Option AV
  | [.int .i64 n, .int .i64 lo, .int .i64 hi] => some (.bool (decide (lo ≤ n ∧ n ≤ hi)))
  | _ => none
theorem g_within : Fn P 103 cf_within := fun args v h => by
  unfold cf_within at h; split at h
  · have h := Option.some.inj h; subst h; exact k_within _ _ _
  · cases h
theorem x_within (n lo hi : Int) : cf_within [.int .i64 n, .int .i64 lo, .int .i64 hi] = some (.bool (decide (lo ≤ n ∧ n ≤ hi))) := rfl
theorem k_Within (n lo hi : Int) : FOk P 20 [I n, I lo, I hi] (.bool (decide (lo ≤ n ∧ n ≤ hi))) := by
  refine c20.fok rfl (Cor.run (noC_good _) (noHx_good _) hm ?_)
  simp +contextual -implicitDefEqProofs (maxSteps := 2000000) only [bg_eq, a20, ruB, rh_no, Int.reduceLT, Int.reduceLE, Int.reduceAdd, Int.reduceSub, Int.reduceMul, Int.reduceNeg, Int.reduceToNat, Int.reduceEq, Int.reduceNe, Int.reduceTDiv, Int.reduceTMod, implies_true, putL, appN, appX, appC, Eng.Fi, reduceCtorEq, exists_eq_left', exists_eq_left, if_true, if_false, List.replicate, Nat.reduceAdd, Nat.reduceSub, Nat.reduceMul, Nat.reduceLeDiff, Nat.reduceLT, Nat.reduceEqDiff]
def cf_Within : List AV → Option AV
  | [.int .i64 n, .int .i64 lo, .int .i64 hi] => some (.bool (decide (lo ≤ n ∧ n ≤ hi)))
  | _ => none
theorem g_Within : Fn P 20 cf_Within := fun args v h => by
  unfold cf_Within at h; split at h
  · have h := Option.some.inj h; subst h; exact k_Within _ _ _
  · cases h
theorem x_Within (n lo hi : Int) : cf_Within [.int .i64 n, .int .i64 lo, .int .i64 hi] = some (.bool (decide (lo ≤ n ∧ n ≤ hi))) := rfl
theorem k_sized (n lim : Int) (hl : 0 ≤ lim ∧ lim ≤ 1099511627776) : FOk P 116 [I n, I lim] (.bool (decide (-lim ≤ n ∧ n ≤ lim))) := by
  have w : IntKind.wrap .i64 (0 - lim) = -lim := by rw [wrap64 (by omega) (by omega)]; omega
  refine c116.fok rfl (Cor.run (addC_good g_within (noC_good _)) (noHx_good _) hm ?_)
  simp +contextual -implicitDefEqProofs (maxSteps := 2000000) only [bg_eq, a116, w, x_within, ruB, rh_no, Int.reduceLT, Int.reduceLE, Int.reduceAdd, Int.reduceSub, Int.reduceMul, Int.reduceNeg, Int.reduceToNat, Int.reduceEq, Int.reduceNe, Int.reduceTDiv, Int.reduceTMod, implies_true, putL, appN, appX, appC, Eng.Fi, reduceCtorEq, exists_eq_left', exists_eq_left, if_true, if_false, List.replicate, Nat.reduceAdd, Nat.reduceSub, Nat.reduceMul, Nat.reduceLeDiff, Nat.reduceLT, Nat.reduceEqDiff]
def cf_sized : List AV → Option AV
  | [.int .i64 n, .int .i64 lim] => if 0 ≤ lim ∧ lim ≤ 1099511627776 then some (.bool (decide (-lim ≤ n ∧ n ≤ lim))) else none
  | _ => none
theorem g_sized : Fn P 116 cf_sized := fun args v hh => by
  unfold cf_sized at hh; split at hh
  · split at hh
    · rename_i hc; have hk := Option.some.inj hh; subst hk; exact k_sized _ _ hc
    · cases hh
  · cases hh
theorem x_sized (n : Int) (lim : Int) (hc : (0 ≤ lim ∧ lim ≤ 1099511627776) = True) : cf_sized [.int .i64 n, .int .i64 lim] = some (.bool (decide (-lim ≤ n ∧ n ≤ lim))) := by
  exact if_pos (by rw [hc]; trivial)
def unl (ok : Prop) [Decidable ok] (e : Int) : Int := if ok then 0 else e
theorem unl_t {ok : Prop} [Decidable ok] (e : Int) (h : ok) : unl ok e = 0 := if_pos h
theorem unl_f {ok : Prop} [Decidable ok] (e : Int) (h : ¬ ok) : unl ok e = e := if_neg h
theorem unl_zero {p : Prop} [Decidable p] {e : Int} (h : unl p e = 0) (he : e ≠ 0) : p := by
  unfold unl at h
  split at h
  · assumption
  · exact absurd h he
theorem k_unless (ok : Bool) (e : Int) : FOk P 91 [B ok, I e] (I (unl (ok = true) e)) := by
  refine c91.fok rfl (Cor.run (noC_good _) (noHx_good _) hm ?_)
  simp +contextual -implicitDefEqProofs (maxSteps := 2000000) only [bg_eq, a91, CV_b, ruB, rh_no, Int.reduceLT, Int.reduceLE, Int.reduceAdd, Int.reduceSub, Int.reduceMul, Int.reduceNeg, Int.reduceToNat, Int.reduceEq, Int.reduceNe, Int.reduceTDiv, Int.reduceTMod, implies_true, putL, appN, appX, appC, Eng.Fi, reduceCtorEq, exists_eq_left', exists_eq_left, if_true, if_false, List.replicate, Nat.reduceAdd, Nat.reduceSub, Nat.reduceMul, Nat.reduceLeDiff, Nat.reduceLT, Nat.reduceEqDiff]
  simp only [unl]
  cases ok <;> simp
def cf_unless : List AV → Option AV
  | [.bool ok, .int .i64 e] => some (I (unl (ok = true) e))
  | _ => none
theorem g_unless : Fn P 91 cf_unless := fun args v h => by
  unfold cf_unless at h; split at h
  · cases h; exact k_unless _ _
  · cases h
theorem x_unless (p : Prop) [Decidable p] (e : Int) : cf_unless [.bool (decide p), .int .i64 e] = some (.int .i64 (unl p e)) := by simp [cf_unless, unl]
def firstE : List Int → Int
  | [] => 0
  | e :: l => if e = 0 then firstE l else e
def S86 (l : List Int) (n : Nat) : AState := ⟨[.vs (l.map I), .any, I 0, .any, .any, .vs (l.map I), I l.length, I n, .any, .any, .any, .any, .any, .any, .any], [], 0⟩
theorem k_first (l : List Int) (hl : l.length ≤ 1099511627776) : FOk P 79 [.vs (l.map I)] (I (firstE l)) := by
  refine c79.fok (by simp only [subs, sub1, subs_I]) (Cor.run (noC_good _) (noHx_good _) hm ?_)
  simp +contextual -implicitDefEqProofs (maxSteps := 2000000) only [bg_eq, a79, List.length_map, ruB, rh_no, Int.reduceLT, Int.reduceLE, Int.reduceAdd, Int.reduceSub, Int.reduceMul, Int.reduceNeg, Int.reduceToNat, Int.reduceEq, Int.reduceNe, Int.reduceTDiv, Int.reduceTMod, implies_true, putL, appN, appX, appC, Eng.Fi, reduceCtorEq, exists_eq_left', exists_eq_left, if_true, if_false, List.replicate, Nat.reduceAdd, Nat.reduceSub, Nat.reduceMul, Nat.reduceLeDiff, Nat.reduceLT, Nat.reduceEqDiff]
  refine Cor.lp (noC_good _) (noHx_good _) hm (S86 l) (fun n => n ≤ l.length ∧ firstE l = firstE (l.drop n)) (fun n => l.length - n) (a := 0) ⟨Nat.zero_le _, by simp⟩ (Wkn.keep [0, 2, 5, 6, 7] rfl) ?_
  intro f n ⟨hn, hf⟩ go
  rcases Nat.lt_or_ge n l.length with h | h
  · have e1 : decide ((n : Int) < (l.length : Int)) = true := lt_t h
    have e2 : (l.map I)[n]? = some (I l[n]) := get_e I l h
    have e3 : IntKind.wrap .i64 ((n : Int) + 1) = ((n + 1 : Nat) : Int) := suc_w (by omega)
    have e4 : l.drop n = l[n] :: l.drop (n + 1) := List.drop_eq_getElem_cons h
    rw [e4] at hf
    simp +contextual -implicitDefEqProofs (maxSteps := 2000000) only [S86, e1, e2, e3, ruB, rh_no, Int.reduceLT, Int.reduceLE, Int.reduceAdd, Int.reduceSub, Int.reduceMul, Int.reduceNeg, Int.reduceToNat, Int.reduceEq, Int.reduceNe, Int.reduceTDiv, Int.reduceTMod, implies_true, putL, appN, appX, appC, Eng.Fi, reduceCtorEq, exists_eq_left', exists_eq_left, if_true, if_false, List.replicate, Nat.reduceAdd, Nat.reduceSub, Nat.reduceMul, Nat.reduceLeDiff, Nat.reduceLT, Nat.reduceEqDiff]
    refine ⟨fun h0 => ?_, fun h0 => go _ (n + 1) ⟨h, ?_⟩ (by omega) (Wkn.keep [0, 2, 5, 6, 7] rfl)⟩
    · rw [hf, firstE, if_neg h0]
    · rw [hf, firstE, if_pos h0]
  · have e1 : decide ((n : Int) < (l.length : Int)) = false := lt_f h
    simp +contextual -implicitDefEqProofs (maxSteps := 2000000) only [S86, e1, ruB, rh_no, Int.reduceLT, Int.reduceLE, Int.reduceAdd, Int.reduceSub, Int.reduceMul, Int.reduceNeg, Int.reduceToNat, Int.reduceEq, Int.reduceNe, Int.reduceTDiv, Int.reduceTMod, implies_true, putL, appN, appX, appC, Eng.Fi, reduceCtorEq, exists_eq_left', exists_eq_left, if_true, if_false, List.replicate, Nat.reduceAdd, Nat.reduceSub, Nat.reduceMul, Nat.reduceLeDiff, Nat.reduceLT, Nat.reduceEqDiff]
    rw [hf, List.drop_eq_nil_of_le h]; rfl
def rfirst : Option (List Int) → Option AV
  | some l => if l.length ≤ 1099511627776 then some (I (firstE l)) else none
  | none => none
def cf_first : List AV → Option AV
  | [.vs vals] => rfirst (decL decI vals)
  | _ => none
theorem g_first : Fn P 79 cf_first := fun args v h => by
  unfold cf_first at h; split at h
  · unfold rfirst at h; split at h
    · rename_i l h1
      split at h
      · cases h; rw [decL_inv decI I (fun v x => decI_inv) h1]; exact k_first l ‹_›
      · cases h
    · cases h
  · cases h
theorem x_first (vals : List AV) : cf_first [.vs vals] = rfirst (decL decI vals) := rfl
theorem y_first (l : List Int) (h : (l.length ≤ 1099511627776) = True) : rfirst (some l) = some (.int .i64 (firstE l)) := by simp only [rfirst, h, if_true]
theorem firstE_zero : ∀ {l : List Int}, firstE l = 0 → ∀ e ∈ l, e = 0
  | [], _, e, he => by simp at he
  | x :: l, h, e, he => by
    simp only [firstE] at h
    split at h
    · rename_i hx
      rcases List.mem_cons.1 he with rfl | he
      · exact hx
      · exact firstE_zero h e he
    · rename_i hx; exact absurd h hx
theorem firstE_all : ∀ {l : List Int}, (∀ e ∈ l, e = 0) → firstE l = 0
  | [], _ => rfl
  | x :: l, h => by rw [firstE, if_pos (h x (by simp))]; exact firstE_all fun e he => h e (by simp [he])
theorem k_orderErr (a b : Int) : FOk P 92 [eRn ⟨a, b⟩] (I (unl (a ≤ b) 9)) := by
  refine c92.fok rfl (Cor.run (addC_good g_unless (noC_good _)) (noHx_good _) hm ?_)
  simp +contextual -implicitDefEqProofs (maxSteps := 2000000) only [bg_eq, a92, x_unless, ruB, rh_no, Int.reduceLT, Int.reduceLE, Int.reduceAdd, Int.reduceSub, Int.reduceMul, Int.reduceNeg, Int.reduceToNat, Int.reduceEq, Int.reduceNe, Int.reduceTDiv, Int.reduceTMod, implies_true, putL, appN, appX, appC, Eng.Fi, reduceCtorEq, exists_eq_left', exists_eq_left, if_true, if_false, List.replicate, Nat.reduceAdd, Nat.reduceSub, Nat.reduceMul, Nat.reduceLeDiff, Nat.reduceLT, Nat.reduceEqDiff]
def cf_orderErr : List AV → Option AV
  | [.agg [.int .i64 a, .int .i64 b]] => some (.int .i64 (unl (a ≤ b) 9))
  | _ => none
theorem g_orderErr : Fn P 92 cf_orderErr := fun args v h => by
  unfold cf_orderErr at h; split at h
  · have h := Option.some.inj h; subst h; exact k_orderErr _ _
  · cases h
theorem x_orderErr (a b : Int) : cf_orderErr [.agg [.int .i64 a, .int .i64 b]] = some (.int .i64 (unl (a ≤ b) 9)) := rfl
def siR (n : Int) : Prop := -1000 ≤ n ∧ n ≤ 1000
def heR (n : Int) : Prop := 0 ≤ n ∧ n ≤ 1000
instance (n : Int) : Decidable (siR n) := by unfold siR; infer_instance
instance (n : Int) : Decidable (heR n) := by unfold heR; infer_instance
theorem x_sized' (n lim : Int) (h : (0 ≤ lim ∧ lim ≤ 1099511627776) = True) (m : Int) (hm : -lim = m) : cf_sized [.int .i64 n, .int .i64 lim] = some (.bool (decide (m ≤ n ∧ n ≤ lim))) := by subst hm; exact x_sized n lim h
theorem k_isSide (n : Int) : FOk P 144 [I n] (.bool (decide (siR n))) := by
  have y := x_sized' n 1000 (by simp) (-1000) rfl
  refine c144.fok rfl (Cor.run (addC_good g_sized (noC_good _)) (noHx_good _) hm ?_)
  simp +contextual -implicitDefEqProofs (maxSteps := 2000000) only [bg_eq, a144, y, siR, ruB, rh_no, Int.reduceLT, Int.reduceLE, Int.reduceAdd, Int.reduceSub, Int.reduceMul, Int.reduceNeg, Int.reduceToNat, Int.reduceEq, Int.reduceNe, Int.reduceTDiv, Int.reduceTMod, implies_true, putL, appN, appX, appC, Eng.Fi, reduceCtorEq, exists_eq_left', exists_eq_left, if_true, if_false, List.replicate, Nat.reduceAdd, Nat.reduceSub, Nat.reduceMul, Nat.reduceLeDiff, Nat.reduceLT, Nat.reduceEqDiff]
def cf_isSide : List AV → Option AV
  | [.int .i64 n] => some (.bool (decide (siR n)))
  | _ => none
theorem g_isSide : Fn P 144 cf_isSide := fun args v h => by
  unfold cf_isSide at h; split at h
  · have h := Option.some.inj h; subst h; exact k_isSide _
  · cases h
theorem x_isSide (n : Int) : cf_isSide [.int .i64 n] = some (.bool (decide (siR n))) := rfl
theorem k_isHeight (n : Int) : FOk P 145 [I n] (.bool (decide (heR n))) := by
  refine c145.fok rfl (Cor.run (addC_good g_within (noC_good _)) (noHx_good _) hm ?_)
  simp +contextual -implicitDefEqProofs (maxSteps := 2000000) only [bg_eq, a145, x_within, heR, ruB, rh_no, Int.reduceLT, Int.reduceLE, Int.reduceAdd, Int.reduceSub, Int.reduceMul, Int.reduceNeg, Int.reduceToNat, Int.reduceEq, Int.reduceNe, Int.reduceTDiv, Int.reduceTMod, implies_true, putL, appN, appX, appC, Eng.Fi, reduceCtorEq, exists_eq_left', exists_eq_left, if_true, if_false, List.replicate, Nat.reduceAdd, Nat.reduceSub, Nat.reduceMul, Nat.reduceLeDiff, Nat.reduceLT, Nat.reduceEqDiff]
def cf_isHeight : List AV → Option AV
  | [.int .i64 n] => some (.bool (decide (heR n)))
  | _ => none
theorem g_isHeight : Fn P 145 cf_isHeight := fun args v h => by
  unfold cf_isHeight at h; split at h
  · have h := Option.some.inj h; subst h; exact k_isHeight _
  · cases h
theorem x_isHeight (n : Int) : cf_isHeight [.int .i64 n] = some (.bool (decide (heR n))) := rfl
def ptR (p : Pt) : Prop := siR p.y ∧ heR p.z
instance (p : Pt) : Decidable (ptR p) := by unfold ptR; infer_instance
def ptE (p : Pt) : Int := unl (ptR p) 2
theorem k_pointErr (y z : Int) : FOk P 114 [ePt ⟨y, z⟩] (I (ptE ⟨y, z⟩)) := by
  refine c114.fok rfl (Cor.run (addC_good g_unless (addC_good g_isHeight (addC_good g_isSide (noC_good _)))) (noHx_good _) hm ?_)
  simp +contextual -implicitDefEqProofs (maxSteps := 2000000) only [bg_eq, a114, x_isSide, x_isHeight, x_unless, ptE, ptR, ruB, rh_no, Int.reduceLT, Int.reduceLE, Int.reduceAdd, Int.reduceSub, Int.reduceMul, Int.reduceNeg, Int.reduceToNat, Int.reduceEq, Int.reduceNe, Int.reduceTDiv, Int.reduceTMod, implies_true, putL, appN, appX, appC, Eng.Fi, reduceCtorEq, exists_eq_left', exists_eq_left, if_true, if_false, List.replicate, Nat.reduceAdd, Nat.reduceSub, Nat.reduceMul, Nat.reduceLeDiff, Nat.reduceLT, Nat.reduceEqDiff]
def cf_pointErr : List AV → Option AV
  | [.agg [.int .i64 y, .int .i64 z]] => some (.int .i64 (ptE ⟨y, z⟩))
  | _ => none
theorem g_pointErr : Fn P 114 cf_pointErr := fun args v h => by
  unfold cf_pointErr at h; split at h
  · have h := Option.some.inj h; subst h; exact k_pointErr _ _
  · cases h
theorem x_pointErr (y z : Int) : cf_pointErr [.agg [.int .i64 y, .int .i64 z]] = some (.int .i64 (ptE ⟨y, z⟩)) := rfl
def suE (s : Su) : Int := firstE [ptE ⟨s.y, s.z⟩, unl (1 ≤ s.c ∧ s.c ≤ 10000) 2]
theorem k_setupErr (y z c : Int) : FOk P 113 [eSu ⟨y, z, c⟩] (I (suE ⟨y, z, c⟩)) := by
  refine c113.fok rfl (Cor.run (addC_good g_first (addC_good g_unless (addC_good g_within (addC_good g_pointErr (noC_good _))))) (noHx_good _) hm ?_)
  simp +contextual -implicitDefEqProofs (maxSteps := 2000000) only [bg_eq, a113, x_pointErr, x_within, x_unless, x_first, y_first, suE, ruB, rh_no, Int.reduceLT, Int.reduceLE, Int.reduceAdd, Int.reduceSub, Int.reduceMul, Int.reduceNeg, Int.reduceToNat, Int.reduceEq, Int.reduceNe, Int.reduceTDiv, Int.reduceTMod, implies_true, putL, appN, appX, appC, Eng.Fi, reduceCtorEq, exists_eq_left', exists_eq_left, if_true, if_false, List.replicate, Nat.reduceAdd, Nat.reduceSub, Nat.reduceMul, Nat.reduceLeDiff, Nat.reduceLT, Nat.reduceEqDiff]
def cf_setupErr : List AV → Option AV
  | [.agg [.int .i64 y, .int .i64 z, .int .i64 c]] => some (.int .i64 (suE ⟨y, z, c⟩))
  | _ => none
theorem g_setupErr : Fn P 113 cf_setupErr := fun args v h => by
  unfold cf_setupErr at h; split at h
  · have h := Option.some.inj h; subst h; exact k_setupErr _ _ _
  · cases h
theorem x_setupErr (y z c : Int) : cf_setupErr [.agg [.int .i64 y, .int .i64 z, .int .i64 c]] = some (.int .i64 (suE ⟨y, z, c⟩)) := rfl
theorem k_isHalf (n : Int) : FOk P 147 [I n] (.bool (decide (1 ≤ n ∧ n ≤ 100))) := by
  refine c147.fok rfl (Cor.run (addC_good g_within (noC_good _)) (noHx_good _) hm ?_)
  simp +contextual -implicitDefEqProofs (maxSteps := 2000000) only [bg_eq, a147, x_within, ruB, rh_no, Int.reduceLT, Int.reduceLE, Int.reduceAdd, Int.reduceSub, Int.reduceMul, Int.reduceNeg, Int.reduceToNat, Int.reduceEq, Int.reduceNe, Int.reduceTDiv, Int.reduceTMod, implies_true, putL, appN, appX, appC, Eng.Fi, reduceCtorEq, exists_eq_left', exists_eq_left, if_true, if_false, List.replicate, Nat.reduceAdd, Nat.reduceSub, Nat.reduceMul, Nat.reduceLeDiff, Nat.reduceLT, Nat.reduceEqDiff]
def cf_isHalf : List AV → Option AV
  | [.int .i64 n] => some (.bool (decide (1 ≤ n ∧ n ≤ 100)))
  | _ => none
theorem g_isHalf : Fn P 147 cf_isHalf := fun args v h => by
  unfold cf_isHalf at h; split at h
  · have h := Option.some.inj h; subst h; exact k_isHalf _
  · cases h
theorem x_isHalf (n : Int) : cf_isHalf [.int .i64 n] = some (.bool (decide (1 ≤ n ∧ n ≤ 100))) := rfl
theorem k_isStrength (n : Int) : FOk P 150 [I n] (.bool (decide (1 ≤ n ∧ n ≤ 10000))) := by
  refine c150.fok rfl (Cor.run (addC_good g_within (noC_good _)) (noHx_good _) hm ?_)
  simp +contextual -implicitDefEqProofs (maxSteps := 2000000) only [bg_eq, a150, x_within, ruB, rh_no, Int.reduceLT, Int.reduceLE, Int.reduceAdd, Int.reduceSub, Int.reduceMul, Int.reduceNeg, Int.reduceToNat, Int.reduceEq, Int.reduceNe, Int.reduceTDiv, Int.reduceTMod, implies_true, putL, appN, appX, appC, Eng.Fi, reduceCtorEq, exists_eq_left', exists_eq_left, if_true, if_false, List.replicate, Nat.reduceAdd, Nat.reduceSub, Nat.reduceMul, Nat.reduceLeDiff, Nat.reduceLT, Nat.reduceEqDiff]
def cf_isStrength : List AV → Option AV
  | [.int .i64 n] => some (.bool (decide (1 ≤ n ∧ n ≤ 10000)))
  | _ => none
theorem g_isStrength : Fn P 150 cf_isStrength := fun args v h => by
  unfold cf_isStrength at h; split at h
  · have h := Option.some.inj h; subst h; exact k_isStrength _
  · cases h
theorem x_isStrength (n : Int) : cf_isStrength [.int .i64 n] = some (.bool (decide (1 ≤ n ∧ n ≤ 10000))) := rfl
def paE (p : Pa) : Int := firstE [ptE ⟨p.y, p.z⟩, unl ((1 ≤ p.h ∧ p.h ≤ 100) ∧ (1 ≤ p.s ∧ p.s ≤ 10000)) 2]
theorem k_CheckPair (y z h s : Int) : FOk P 122 [ePa ⟨y, z, h, s⟩] (I (paE ⟨y, z, h, s⟩)) := by
  refine c122.fok rfl (Cor.run (addC_good g_first (addC_good g_unless (addC_good g_isStrength (addC_good g_isHalf (addC_good g_pointErr (noC_good _)))))) (noHx_good _) hm ?_)
  simp +contextual -implicitDefEqProofs (maxSteps := 2000000) only [bg_eq, a122, x_pointErr, x_isHalf, x_isStrength, x_unless, x_first, y_first, paE, ruB, rh_no, Int.reduceLT, Int.reduceLE, Int.reduceAdd, Int.reduceSub, Int.reduceMul, Int.reduceNeg, Int.reduceToNat, Int.reduceEq, Int.reduceNe, Int.reduceTDiv, Int.reduceTMod, implies_true, putL, appN, appX, appC, Eng.Fi, reduceCtorEq, exists_eq_left', exists_eq_left, if_true, if_false, List.replicate, Nat.reduceAdd, Nat.reduceSub, Nat.reduceMul, Nat.reduceLeDiff, Nat.reduceLT, Nat.reduceEqDiff]
def cf_CheckPair : List AV → Option AV
  | [.agg [.int .i64 y, .int .i64 z, .int .i64 h, .int .i64 s]] => some (.int .i64 (paE ⟨y, z, h, s⟩))
  | _ => none
theorem g_CheckPair : Fn P 122 cf_CheckPair := fun args v h => by
  unfold cf_CheckPair at h; split at h
  · have h := Option.some.inj h; subst h; exact k_CheckPair _ _ _ _
  · cases h
theorem x_CheckPair (y z h s : Int) : cf_CheckPair [.agg [.int .i64 y, .int .i64 z, .int .i64 h, .int .i64 s]] = some (.int .i64 (paE ⟨y, z, h, s⟩)) := rfl
end Wa
