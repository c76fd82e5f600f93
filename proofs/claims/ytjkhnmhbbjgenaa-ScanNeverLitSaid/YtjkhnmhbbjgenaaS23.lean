import Derived.Test.YtjkhnmhbbjgenaaEngS9
import Derived.Test.YtjkhnmhbbjgenaaS22
open Go Go.Proofs Eng
set_option maxRecDepth 100000
set_option linter.unusedSimpArgs false
set_option linter.unusedVariables false
def a48 : AC := .seq (.ops false [] [⟨some 3, .box 42 7 1 true, [.t 0], none⟩, ⟨some 4, .box 37 2 1 true, [.t 1], none⟩, ⟨some 5, .box 37 2 1 true, [.t 2], none⟩, ⟨some 6, .p (.mov), [.c (.bool false)], none⟩, ⟨some 7, .p (.mov), [.c (.int .i64 0)], none⟩]) (.seq (.seq (.ops false [] [⟨some 11, .load 7 true, [.t 3], none⟩, ⟨some 12, .load 2 true, [.t 4], none⟩, ⟨some 13, .load 2 true, [.t 5], none⟩, ⟨some 14, .call 97, [.t 11, .t 12, .t 13], none⟩, ⟨some 8, .p (.mov), [.t 14], none⟩]) (.seq (.ops false [] [⟨some 15, .p (.mov), [.t 8], none⟩, ⟨some 16, .p (.binI .neq), [.t 15, .c (.int .i64 0)], none⟩]) (.cond (.t 16) (.seq (.ops false [] [⟨some 17, .p (.mov), [.t 8], none⟩, ⟨some 6, .p (.mov), [.c (.bool false)], none⟩, ⟨some 7, .p (.mov), [.t 17], none⟩]) (.ret)) (.skip)))) (.seq (.ops false [] [⟨some 19, .load 7 true, [.t 3], none⟩, ⟨some 20, .load 2 true, [.t 4], none⟩, ⟨some 21, .load 2 true, [.t 5], none⟩, ⟨some 22, .call 84, [.t 19, .t 20, .t 21], none⟩, ⟨some 18, .p (.mov), [.t 22], none⟩, ⟨some 23, .p (.ext 0), [.t 18], none⟩, ⟨some 24, .p (.ext 1), [.t 18], none⟩, ⟨some 9, .alloc 37 2 [.agg [.int .i64 0, .int .i64 0]], [], none⟩, ⟨none, .store 2 true, [.t 9, .t 23], none⟩, ⟨some 10, .p (.mov), [.t 24], none⟩]) (.seq (.ops false [] [⟨some 25, .p (.mov), [.t 10], none⟩, ⟨some 26, .p (.notB), [.t 25], none⟩, ⟨some 6, .p (.mov), [.t 26], none⟩, ⟨some 7, .p (.mov), [.c (.int .i64 0)], none⟩]) (.ret))))
theorem c48 : FnC Try.prog 48 27 a48 [.tmp 6, .tmp 7] := ⟨Try.call48, _, _, Try.func48, rfl, by kernel_rfl, by kernel_rfl, rfl⟩
namespace Sc
def dkV (h : Hd) (a b : Dr) : AV := if mvE h a b = 0 then .tup [B (litL h a b).isNone, I 0] else .tup [B false, I (mvE h a b)]
theorem liB_of {h : Hd} {a b : Dr} (hz : mvE h a b = 0) : liB h a b := by
  obtain ⟨h1, h2, h3⟩ := mvE_zero hz
  have hz := hdE_zero h1
  exact ⟨⟨by have := hz.1.2; omega, fun s hs => (hz.2.1 s hs).1⟩, h2, h3⟩
theorem k_IsDark (h : Hd) (a b : Dr) (hl : h.res.length ≤ 1099511627776) : FOk P 48 [eHd h, eDr a, eDr b] (dkV h a b) := by
  have ye := x_moveErr h a b (by simp only [hl])
  by_cases h1 : mvE h a b = 0
  · have y := x_lit h a b (by simp only [eq_iff_iff, iff_true]; exact liB_of h1)
    have e0 : dkV h a b = .tup [B (litL h a b).isNone, I 0] := if_pos h1
    rw [e0]
    cases hx : litL h a b with
    | none =>
      rw [hx] at y; simp only [litV] at y
      refine c48.fok (by simp only [free_Hs, free_Hd, subs, sub1, free_Se]) (Cor.run (addC_good g_lit (addC_good g_moveErr (noC_good _))) (noHx_good _) hm ?_)
      simp +contextual -implicitDefEqProofs (maxSteps := 2000000) only [bg_eq, a48, ye, h1, y, Option.isNone_none, ruB, rh_no, Int.reduceLT, Int.reduceLE, Int.reduceAdd, Int.reduceSub, Int.reduceMul, Int.reduceNeg, Int.reduceToNat, Int.reduceEq, Int.reduceNe, Int.reduceTDiv, Int.reduceTMod, implies_true, putL, appN, appX, appC, Eng.Fi, reduceCtorEq, exists_eq_left', exists_eq_left, if_true, if_false, List.replicate, Nat.reduceAdd, Nat.reduceSub, Nat.reduceMul, Nat.reduceLeDiff, Nat.reduceLT, Nat.reduceEqDiff]
    | some x =>
      rw [hx] at y; simp only [litV] at y
      refine c48.fok (by simp only [free_Hs, free_Hd, subs, sub1, free_Se]) (Cor.run (addC_good g_lit (addC_good g_moveErr (noC_good _))) (noHx_good _) hm ?_)
      simp +contextual -implicitDefEqProofs (maxSteps := 2000000) only [bg_eq, a48, ye, h1, y, Option.isNone_some, ruB, rh_no, Int.reduceLT, Int.reduceLE, Int.reduceAdd, Int.reduceSub, Int.reduceMul, Int.reduceNeg, Int.reduceToNat, Int.reduceEq, Int.reduceNe, Int.reduceTDiv, Int.reduceTMod, implies_true, putL, appN, appX, appC, Eng.Fi, reduceCtorEq, exists_eq_left', exists_eq_left, if_true, if_false, List.replicate, Nat.reduceAdd, Nat.reduceSub, Nat.reduceMul, Nat.reduceLeDiff, Nat.reduceLT, Nat.reduceEqDiff]
  · have e0 : dkV h a b = .tup [B false, I (mvE h a b)] := if_neg h1
    rw [e0]
    refine c48.fok (by simp only [free_Hs, free_Hd, subs, sub1, free_Se]) (Cor.run (addC_good g_lit (addC_good g_moveErr (noC_good _))) (noHx_good _) hm ?_)
    simp +contextual -implicitDefEqProofs (maxSteps := 2000000) only [bg_eq, a48, ye, h1, not_false_eq_true, ruB, rh_no, Int.reduceLT, Int.reduceLE, Int.reduceAdd, Int.reduceSub, Int.reduceMul, Int.reduceNeg, Int.reduceToNat, Int.reduceEq, Int.reduceNe, Int.reduceTDiv, Int.reduceTMod, implies_true, putL, appN, appX, appC, Eng.Fi, reduceCtorEq, exists_eq_left', exists_eq_left, if_true, if_false, List.replicate, Nat.reduceAdd, Nat.reduceSub, Nat.reduceMul, Nat.reduceLeDiff, Nat.reduceLT, Nat.reduceEqDiff]
def cf_IsDark : List AV → Option AV
  | [h_v, .agg [.int .i64 a_az, .int .i64 a_el], .agg [.int .i64 b_az, .int .i64 b_el]] => onH h_v fun h => if h.res.length ≤ 1099511627776 then some (dkV h (⟨a_az, a_el⟩ : Dr) (⟨b_az, b_el⟩ : Dr)) else none
  | _ => none
theorem g_IsDark : Fn P 48 cf_IsDark := fun args v hh => by
  unfold cf_IsDark at hh; split at hh
  · obtain ⟨h, rfl, hh1⟩ := onH_inv hh
    split at hh1
    · rename_i hc; have hk := Option.some.inj hh1; subst hk; exact k_IsDark _ ⟨_, _⟩ ⟨_, _⟩ hc
    · cases hh1
  · cases hh
theorem x_IsDark (h : Hd) (a : Dr) (b : Dr) (hc : (h.res.length ≤ 1099511627776) = True) : cf_IsDark [eHd h, .agg [I a.az, I a.el], .agg [I b.az, I b.el]] = some (dkV h a b) := by
  simp only [cf_IsDark, onH_e]
  exact if_pos (by rw [hc]; trivial)
end Sc
