import Derived.Test.YtjkhnmhbbjgenaaEngS9
import Derived.Test.YtjkhnmhbbjgenaaS2
open Go Go.Proofs Eng
set_option maxRecDepth 100000
set_option linter.unusedSimpArgs false
set_option linter.unusedVariables false
def a41 : AC := .seq (.ops false [] [⟨some 1, .box 42 7 1 true, [.t 0], none⟩, ⟨some 2, .p (.mov), [.c (.int .i64 0)], none⟩, ⟨some 3, .p (.mov), [.c (.int .i64 0)], none⟩]) (.seq (.ops true [] [⟨some 8, .p (.faddr 0), [.t 1], none⟩, ⟨some 9, .load 2 true, [.t 8], none⟩, ⟨some 10, .call 91, [.t 9], none⟩, ⟨some 11, .p (.faddr 2), [.t 1], none⟩, ⟨some 12, .load 2 true, [.t 11], none⟩, ⟨some 13, .call 37, [.t 12], none⟩, ⟨some 14, .p (.faddr 4), [.t 1], none⟩, ⟨some 15, .load 2 true, [.t 14], none⟩, ⟨some 16, .call 37, [.t 15], none⟩, ⟨some 17, .p (.faddr 6), [.t 1], none⟩, ⟨some 18, .load 1 false, [.t 17], none⟩, ⟨some 19, .p (.lenS), [.t 18], none⟩, ⟨some 20, .p (.binI .leq), [.t 19, .c (.int .i64 6)], none⟩, ⟨some 21, .call 79, [.t 20, .c (.int .i64 8)], none⟩, ⟨some 22, .fbs 1, [.t 10, .t 13, .t 16, .t 21], none⟩, ⟨some 23, .call 86, [.t 22], none⟩, ⟨some 4, .p (.mov), [.t 23], none⟩]) (.seq (.seq (.ops false [] [⟨some 24, .p (.mov), [.t 4], none⟩, ⟨some 25, .p (.binI .neq), [.t 24, .c (.int .i64 0)], none⟩]) (.cond (.t 25) (.seq (.ops false [] [⟨some 26, .p (.mov), [.t 4], none⟩, ⟨some 2, .p (.mov), [.c (.int .i64 0)], none⟩, ⟨some 3, .p (.mov), [.t 26], none⟩]) (.ret)) (.skip))) (.seq (.seq (.ops false [] [⟨some 27, .p (.faddr 6), [.t 1], none⟩, ⟨some 28, .load 1 false, [.t 27], none⟩, ⟨some 29, .p (.lenS), [.t 28], none⟩, ⟨some 30, .p (.mov), [.c (.int .i64 0)], none⟩]) (.block 0 (.loop (.seq (.ops false [] [⟨some 31, .p (.binI .lss), [.t 30, .t 29], none⟩]) (.seq (.cond (.t 31) (.skip) (.exit 0)) (.seq (.block 1 (.seq (.ops false [] [⟨some 32, .p (.mov), [.t 30], none⟩, ⟨some 33, .p (.iaddrS 4), [.t 28, .t 30], none⟩, ⟨some 34, .load 4 true, [.t 33], none⟩, ⟨some 6, .alloc 121 4 [.agg [.int .i64 0, .int .i64 0, .int .i64 0, .int .i64 0]], [], none⟩, ⟨some 5, .p (.mov), [.t 32], none⟩, ⟨none, .store 4 true, [.t 6, .t 34], none⟩]) (.seq (.ops true [] [⟨some 35, .p (.faddr 0), [.t 6], none⟩, ⟨some 36, .p (.faddr 0), [.t 35], none⟩, ⟨some 37, .load 1 false, [.t 36], none⟩, ⟨some 38, .call 92, [.t 37], none⟩, ⟨some 39, .p (.mov), [.t 38], none⟩, ⟨some 40, .p (.faddr 0), [.t 6], some (39, true)⟩, ⟨some 41, .p (.faddr 1), [.t 40], some (39, true)⟩, ⟨some 42, .load 1 false, [.t 41], some (39, true)⟩, ⟨some 43, .call 92, [.t 42], some (39, true)⟩, ⟨some 44, .p (.pick), [.t 39, .t 43, .c (.bool false)], none⟩, ⟨some 45, .p (.mov), [.t 44], none⟩, ⟨some 46, .p (.faddr 2), [.t 6], some (45, true)⟩, ⟨some 47, .p (.faddr 0), [.t 46], some (45, true)⟩, ⟨some 48, .load 1 false, [.t 47], some (45, true)⟩, ⟨some 49, .call 93, [.t 48], some (45, true)⟩, ⟨some 50, .p (.pick), [.t 45, .t 49, .c (.bool false)], none⟩, ⟨some 51, .p (.mov), [.t 50], none⟩, ⟨some 52, .p (.faddr 2), [.t 6], some (51, true)⟩, ⟨some 53, .p (.faddr 1), [.t 52], some (51, true)⟩, ⟨some 54, .load 1 false, [.t 53], some (51, true)⟩, ⟨some 55, .call 93, [.t 54], some (51, true)⟩, ⟨some 56, .p (.pick), [.t 51, .t 55, .c (.bool false)], none⟩, ⟨some 57, .call 79, [.t 56, .c (.int .i64 2)], none⟩, ⟨some 58, .p (.faddr 2), [.t 6], none⟩, ⟨some 59, .p (.faddr 0), [.t 58], none⟩, ⟨some 60, .load 1 false, [.t 59], none⟩, ⟨some 61, .p (.faddr 2), [.t 6], none⟩, ⟨some 62, .p (.faddr 1), [.t 61], none⟩, ⟨some 63, .load 1 false, [.t 62], none⟩, ⟨some 64, .p (.binI .leq), [.t 60, .t 63], none⟩, ⟨some 65, .call 79, [.t 64, .c (.int .i64 9)], none⟩, ⟨some 66, .fbs 1, [.t 57, .t 65], none⟩, ⟨some 67, .call 86, [.t 66], none⟩, ⟨some 7, .p (.mov), [.t 67], none⟩]) (.seq (.ops false [] [⟨some 68, .p (.mov), [.t 7], none⟩, ⟨some 69, .p (.binI .neq), [.t 68, .c (.int .i64 0)], none⟩]) (.cond (.t 69) (.seq (.ops false [] [⟨some 70, .p (.mov), [.t 5], none⟩, ⟨some 71, .p (.mov), [.t 7], none⟩, ⟨some 2, .p (.mov), [.t 70], none⟩, ⟨some 3, .p (.mov), [.t 71], none⟩]) (.ret)) (.skip)))))) (.ops false [] [⟨some 72, .p (.binI .add), [.t 30, .c (.int .i64 1)], none⟩, ⟨some 30, .p (.mov), [.t 72], none⟩]))))))) (.seq (.ops false [] [⟨some 73, .load 7 true, [.t 1], none⟩, ⟨some 74, .p (.faddr 0), [.t 1], none⟩, ⟨some 75, .load 2 true, [.t 74], none⟩, ⟨some 76, .call 94, [.t 73, .t 75], none⟩, ⟨some 77, .p (.notB), [.t 76], none⟩, ⟨some 78, .call 79, [.t 77, .c (.int .i64 22)], none⟩, ⟨some 2, .p (.mov), [.c (.int .i64 0)], none⟩, ⟨some 3, .p (.mov), [.t 78], none⟩]) (.ret)))))
theorem c41 : FnC Try.prog 41 79 a41 [.tmp 2, .tmp 3] := ⟨Try.call41, _, _, Try.func41, rfl, by kernel_rfl, by kernel_rfl, rfl⟩
def a95 : AC := .seq (.ops false [] [⟨some 1, .box 42 7 1 true, [.t 0], none⟩, ⟨some 2, .p (.mov), [.c (.int .i64 0)], none⟩]) (.seq (.ops false [] [⟨some 6, .load 7 true, [.t 1], none⟩, ⟨some 7, .call 41, [.t 6], none⟩, ⟨some 5, .p (.mov), [.t 7], none⟩, ⟨some 8, .p (.ext 0), [.t 5], none⟩, ⟨some 9, .p (.ext 1), [.t 5], none⟩, ⟨some 3, .p (.mov), [.t 8], none⟩, ⟨some 4, .p (.mov), [.t 9], none⟩]) (.seq (.ops false [] [⟨some 10, .p (.mov), [.t 4], none⟩, ⟨some 2, .p (.mov), [.t 10], none⟩]) (.ret)))
theorem c95 : FnC Try.prog 95 11 a95 [.tmp 2] := ⟨Try.call95, _, _, Try.func95, rfl, by kernel_rfl, by kernel_rfl, rfl⟩
def a98 : AC := .seq (.ops false [] [⟨some 3, .box 42 7 1 true, [.t 0], none⟩, ⟨some 4, .box 37 2 1 true, [.t 1], none⟩, ⟨some 5, .box 37 2 1 true, [.t 2], none⟩, ⟨some 6, .p (.mov), [.c (.int .i64 0)], none⟩]) (.seq (.ops false [] [⟨some 12, .p (.faddr 0), [.t 4], none⟩, ⟨some 13, .load 1 false, [.t 12], none⟩, ⟨some 14, .p (.faddr 0), [.t 5], none⟩, ⟨some 15, .load 1 false, [.t 14], none⟩, ⟨some 16, .call 124, [.t 13, .t 15], none⟩, ⟨some 11, .p (.mov), [.t 16], none⟩, ⟨some 17, .p (.ext 0), [.t 11], none⟩, ⟨some 18, .p (.ext 1), [.t 11], none⟩, ⟨some 7, .p (.mov), [.t 17], none⟩, ⟨some 8, .p (.mov), [.t 18], none⟩]) (.seq (.ops false [] [⟨some 20, .p (.faddr 1), [.t 4], none⟩, ⟨some 21, .load 1 false, [.t 20], none⟩, ⟨some 22, .p (.faddr 1), [.t 5], none⟩, ⟨some 23, .load 1 false, [.t 22], none⟩, ⟨some 24, .call 125, [.t 21, .t 23], none⟩, ⟨some 19, .p (.mov), [.t 24], none⟩, ⟨some 25, .p (.ext 0), [.t 19], none⟩, ⟨some 26, .p (.ext 1), [.t 19], none⟩, ⟨some 9, .p (.mov), [.t 25], none⟩, ⟨some 10, .p (.mov), [.t 26], none⟩]) (.seq (.ops true [] [⟨some 27, .p (.faddr 2), [.t 3], none⟩, ⟨some 28, .load 2 true, [.t 27], none⟩, ⟨some 29, .p (.mov), [.t 8], none⟩, ⟨some 30, .call 89, [.t 28, .t 29], none⟩, ⟨some 31, .p (.faddr 4), [.t 3], none⟩, ⟨some 32, .load 2 true, [.t 31], none⟩, ⟨some 33, .p (.mov), [.t 10], none⟩, ⟨some 34, .call 89, [.t 32, .t 33], none⟩, ⟨some 35, .p (.binI .add), [.t 30, .t 34], none⟩, ⟨some 6, .p (.mov), [.t 35], none⟩]) (.ret))))
theorem c98 : FnC Try.prog 98 36 a98 [.tmp 6] := ⟨Try.call98, _, _, Try.func98, rfl, by kernel_rfl, by kernel_rfl, rfl⟩
def a124 : AC := .seq (.ops false [] [⟨some 4, .p (.mov), [.c (.int .i64 0)], none⟩, ⟨some 5, .p (.mov), [.c (.int .i64 0)], none⟩]) (.seq (.seq (.ops false [] [⟨some 7, .p (.mov), [.t 0], none⟩, ⟨some 8, .p (.mov), [.t 1], none⟩, ⟨some 9, .call 118, [.t 7, .t 8], none⟩, ⟨some 6, .p (.mov), [.t 9], none⟩]) (.seq (.ops false [] [⟨some 10, .p (.mov), [.t 6], none⟩, ⟨some 11, .p (.binI .mul), [.c (.int .i64 2), .t 10], none⟩, ⟨some 12, .p (.binI .leq), [.t 11, .c (.int .i64 360)], none⟩]) (.cond (.t 12) (.seq (.ops false [] [⟨some 13, .p (.mov), [.t 6], none⟩, ⟨some 4, .p (.mov), [.c (.int .i64 1)], none⟩, ⟨some 5, .p (.mov), [.t 13], none⟩]) (.ret)) (.skip)))) (.seq (.ops false [] [⟨some 14, .p (.mov), [.t 1], none⟩, ⟨some 15, .p (.mov), [.t 0], none⟩, ⟨some 16, .call 118, [.t 14, .t 15], none⟩, ⟨some 4, .p (.mov), [.c (.int .i64 (-1))], none⟩, ⟨some 5, .p (.mov), [.t 16], none⟩]) (.ret)))
theorem c124 : FnC Try.prog 124 17 a124 [.tmp 4, .tmp 5] := ⟨Try.call124, _, _, Try.func124, rfl, by kernel_rfl, by kernel_rfl, rfl⟩
def a125 : AC := .seq (.ops false [] [⟨some 4, .p (.mov), [.c (.int .i64 0)], none⟩, ⟨some 5, .p (.mov), [.c (.int .i64 0)], none⟩]) (.seq (.seq (.ops false [] [⟨some 6, .p (.mov), [.t 0], none⟩, ⟨some 7, .p (.mov), [.t 1], none⟩, ⟨some 8, .p (.binI .leq), [.t 6, .t 7], none⟩]) (.cond (.t 8) (.seq (.ops false [] [⟨some 9, .p (.mov), [.t 1], none⟩, ⟨some 10, .p (.mov), [.t 0], none⟩, ⟨some 11, .p (.binI .sub), [.t 9, .t 10], none⟩, ⟨some 4, .p (.mov), [.c (.int .i64 1)], none⟩, ⟨some 5, .p (.mov), [.t 11], none⟩]) (.ret)) (.skip))) (.seq (.ops false [] [⟨some 12, .p (.mov), [.t 0], none⟩, ⟨some 13, .p (.mov), [.t 1], none⟩, ⟨some 14, .p (.binI .sub), [.t 12, .t 13], none⟩, ⟨some 4, .p (.mov), [.c (.int .i64 (-1))], none⟩, ⟨some 5, .p (.mov), [.t 14], none⟩]) (.ret)))
theorem c125 : FnC Try.prog 125 15 a125 [.tmp 4, .tmp 5] := ⟨Try.call125, _, _, Try.func125, rfl, by kernel_rfl, by kernel_rfl, rfl⟩
namespace Sc
def cf_isReserved : List AV → Option AV
  | [h_v, .agg [.int .i64 d_az, .int .i64 d_el]] => onH h_v fun h => if okR h.res (⟨d_az, d_el⟩ : Dr) then some (.bool (resv h.res (⟨d_az, d_el⟩ : Dr))) else none
  | _ => none
theorem g_isReserved : Fn P 94 cf_isReserved := fun args v hh => by
  unfold cf_isReserved at hh; split at hh
  · obtain ⟨h, rfl, hh1⟩ := onH_inv hh
    split at hh1
    · rename_i hc; have hk := Option.some.inj hh1; subst hk; exact k_isReserved _ ⟨_, _⟩ hc
    · cases hh1
  · cases hh
theorem x_isReserved (h : Hd) (d : Dr) (hc : (okR h.res d) = True) : cf_isReserved [eHd h, .agg [I d.az, I d.el]] = some (.bool (resv h.res d)) := by
  simp only [cf_isReserved, onH_e]
  exact if_pos (by rw [hc]; trivial)
theorem x_unlessN (b : Bool) (e : Int) : cf_unless [.bool (!b), .int .i64 e] = some (.int .i64 (unl (b = false) e)) := by cases b <;> simp [cf_unless, unl]
theorem x_unlessB (b : Bool) (e : Int) : cf_unless [.bool b, .int .i64 e] = some (.int .i64 (unl (b = true) e)) := by simp [cf_unless]
def secC : Nat → List Se → Option (Nat × Int)
  | _, [] => none
  | n, s :: r => if seE s = 0 then secC (n + 1) r else some (n, seE s)
def hd1 (h : Hd) : Int := firstE [drE h.home, axE h.ra h.aa, axE h.re h.ae, unl ((h.res.length : Int) ≤ 6) 8]
def hdC (h : Hd) : Int × Int := if hd1 h = 0 then (match secC 0 h.res with | some (i, e) => (i, e) | none => (0, unl (resv h.res h.home = false) 22)) else (0, hd1 h)
theorem seE_zero {s : Se} (h : seE s = 0) : seR s ∧ s.elo ≤ s.ehi := ⟨unl_zero (firstE_zero h (unl (seR s) 2) (by simp)) (by decide), unl_zero (firstE_zero h (unl (s.elo ≤ s.ehi) 9) (by simp)) (by decide)⟩
theorem secC_none : ∀ {l : List Se} {n : Nat}, secC n l = none → ∀ s ∈ l, seR s ∧ s.elo ≤ s.ehi
  | [], _, _, s, hs => by simp at hs
  | x :: l, n, h, s, hs => by
    simp only [secC] at h
    split at h
    · rename_i h0
      rcases List.mem_cons.1 hs with rfl | hs
      · exact seE_zero h0
      · exact secC_none h s hs
    · cases h
def S41 (h : Hd) (n : Nat) : AState := ⟨[.any, .ptr 0 7 0 0, .any, .any, .any, .any, .any, .any, .any, .any, .any, .any, .any, .any, .any, .any, .any, .any, .any, .any, .any, .any, .any, .any, .any, .any, .any, .any, .vs (h.res.map eSe), I h.res.length, I n, .any, .any, .any, .any, .any, .any, .any, .any, .any, .any, .any, .any, .any, .any, .any, .any, .any, .any, .any, .any, .any, .any, .any, .any, .any, .any, .any, .any, .any, .any, .any, .any, .any, .any, .any, .any, .any, .any, .any, .any, .any, .any, .any, .any, .any, .any, .any, .any], [⟨0, 0, .rows 42 7 [eHd h]⟩], 1⟩
theorem k_CheckHead (h : Hd) (hl : h.res.length ≤ 1099511627776) : FOk P 41 [eHd h] (.tup [I (hdC h).1, I (hdC h).2]) := by
  have lm : (h.res.map eSe).length = h.res.length := by simp
  by_cases h1 : hd1 h = 0
  · have h1' := h1
    unfold hd1 at h1'
    have hz := firstE_zero h1'
    have hd0 := drE_zero (hz _ (by simp : drE h.home ∈ _))
    have h6 := unl_zero (hz (unl ((h.res.length : Int) ≤ 6) 8) (by simp)) (by decide)
    refine c41.fok (by simp only [free_Hs, free_Hd, subs, sub1, free_Se]) (Cor.run (addC_good g_isReserved (addC_good g_isElevation (addC_good g_isAzimuth (addC_good g_first (addC_good g_unless (addC_good g_CheckAxis (addC_good g_directionErr (noC_good _)))))))) (noHx_good _) hm ?_)
    simp +contextual -implicitDefEqProofs (maxSteps := 2000000) only [bg_eq, a41, x_directionErr, x_CheckAxis, x_unless, x_first, y_first, lm, h1', ruB, rh_no, Int.reduceLT, Int.reduceLE, Int.reduceAdd, Int.reduceSub, Int.reduceMul, Int.reduceNeg, Int.reduceToNat, Int.reduceEq, Int.reduceNe, Int.reduceTDiv, Int.reduceTMod, implies_true, putL, appN, appX, appC, Eng.Fi, reduceCtorEq, exists_eq_left', exists_eq_left, if_true, if_false, List.replicate, Nat.reduceAdd, Nat.reduceSub, Nat.reduceMul, Nat.reduceLeDiff, Nat.reduceLT, Nat.reduceEqDiff]
    refine Cor.lp (addC_good g_isReserved (addC_good g_isElevation (addC_good g_isAzimuth (addC_good g_first (addC_good g_unless (addC_good g_CheckAxis (addC_good g_directionErr (noC_good _)))))))) (noHx_good _) hm (S41 h) (fun n => n ≤ h.res.length ∧ secC 0 h.res = secC n (h.res.drop n) ∧ ∀ s ∈ h.res.take n, seR s) (fun n => h.res.length - n) (a := 0) ⟨Nat.zero_le _, rfl, by simp⟩ (Wkn.to ⟨0, [(0, 0)], [], 1, [1, 28, 29, 30]⟩ rfl rfl (by simp only [Wk.st, keepT, sub1, subs, Wk.hp, ABlk.sub, S41, free_Se]; try rfl)) ?_
    intro f n ⟨hn, hf, hs⟩ go
    rcases Nat.lt_or_ge n h.res.length with hlt | hlt
    · have e1 : decide ((n : Int) < (h.res.length : Int)) = true := lt_t hlt
      have e2 : (h.res.map eSe)[n]? = some (eSe h.res[n]) := get_e eSe h.res hlt
      have e3 : IntKind.wrap .i64 ((n : Int) + 1) = ((n + 1 : Nat) : Int) := suc_w (by omega)
      rw [List.drop_eq_getElem_cons hlt, secC] at hf
      by_cases hc : seE h.res[n] = 0
      · rw [if_pos hc] at hf
        have hc' := hc
        unfold seE seR at hc'
        simp +contextual -implicitDefEqProofs (maxSteps := 2000000) only [S41, e1, e2, e3, x_isAzimuth, x_isElevation, x_unless, x_first, y_first, hc', ruB, rh_no, Int.reduceLT, Int.reduceLE, Int.reduceAdd, Int.reduceSub, Int.reduceMul, Int.reduceNeg, Int.reduceToNat, Int.reduceEq, Int.reduceNe, Int.reduceTDiv, Int.reduceTMod, implies_true, putL, appN, appX, appC, Eng.Fi, reduceCtorEq, exists_eq_left', exists_eq_left, if_true, if_false, List.replicate, Nat.reduceAdd, Nat.reduceSub, Nat.reduceMul, Nat.reduceLeDiff, Nat.reduceLT, Nat.reduceEqDiff]
        refine go _ (n + 1) ⟨hlt, hf, ?_⟩ (by omega) (Wkn.to ⟨0, [(0, 0)], [], 1, [1, 28, 29, 30]⟩ rfl rfl (by simp only [Wk.st, keepT, sub1, subs, Wk.hp, ABlk.sub, S41, free_Se]; try rfl))
        intro s hs'
        rw [List.take_succ_eq_append_getElem hlt] at hs'
        rcases List.mem_append.1 hs' with hs' | hs'
        · exact hs s hs'
        · rw [List.mem_singleton.1 hs']; exact (seE_zero hc).1
      · rw [if_neg hc] at hf
        have hv : hdC h = ((n : Int), seE h.res[n]) := by unfold hdC; rw [if_pos h1, hf]
        rw [hv]
        have hc' := hc
        unfold seE seR at hc'
        simp +contextual -implicitDefEqProofs (maxSteps := 2000000) only [S41, e1, e2, e3, x_isAzimuth, x_isElevation, x_unless, x_first, y_first, hc', seE, seR, not_false_eq_true, ruB, rh_no, Int.reduceLT, Int.reduceLE, Int.reduceAdd, Int.reduceSub, Int.reduceMul, Int.reduceNeg, Int.reduceToNat, Int.reduceEq, Int.reduceNe, Int.reduceTDiv, Int.reduceTMod, implies_true, putL, appN, appX, appC, Eng.Fi, reduceCtorEq, exists_eq_left', exists_eq_left, if_true, if_false, List.replicate, Nat.reduceAdd, Nat.reduceSub, Nat.reduceMul, Nat.reduceLeDiff, Nat.reduceLT, Nat.reduceEqDiff]
    · have e1 : decide ((n : Int) < (h.res.length : Int)) = false := lt_f hlt
      rw [List.drop_eq_nil_of_le hlt, secC] at hf
      have hv : hdC h = (0, unl (resv h.res h.home = false) 22) := by unfold hdC; rw [if_pos h1, hf]
      rw [hv]
      have y := x_isReserved h h.home (by simp only [eq_iff_iff, iff_true]; exact ⟨⟨by omega, fun s hs => (secC_none hf s hs).1⟩, hd0⟩)
      simp +contextual -implicitDefEqProofs (maxSteps := 2000000) only [S41, e1, y, x_unlessN, ruB, rh_no, Int.reduceLT, Int.reduceLE, Int.reduceAdd, Int.reduceSub, Int.reduceMul, Int.reduceNeg, Int.reduceToNat, Int.reduceEq, Int.reduceNe, Int.reduceTDiv, Int.reduceTMod, implies_true, putL, appN, appX, appC, Eng.Fi, reduceCtorEq, exists_eq_left', exists_eq_left, if_true, if_false, List.replicate, Nat.reduceAdd, Nat.reduceSub, Nat.reduceMul, Nat.reduceLeDiff, Nat.reduceLT, Nat.reduceEqDiff]
  · have h1' := h1
    unfold hd1 at h1'
    refine c41.fok (by simp only [free_Hs, free_Hd, subs, sub1, free_Se]) (Cor.run (addC_good g_isReserved (addC_good g_isElevation (addC_good g_isAzimuth (addC_good g_first (addC_good g_unless (addC_good g_CheckAxis (addC_good g_directionErr (noC_good _)))))))) (noHx_good _) hm ?_)
    simp +contextual -implicitDefEqProofs (maxSteps := 2000000) only [bg_eq, a41, x_directionErr, x_CheckAxis, x_unless, x_first, y_first, lm, h1', hdC, hd1, not_false_eq_true, ruB, rh_no, Int.reduceLT, Int.reduceLE, Int.reduceAdd, Int.reduceSub, Int.reduceMul, Int.reduceNeg, Int.reduceToNat, Int.reduceEq, Int.reduceNe, Int.reduceTDiv, Int.reduceTMod, implies_true, putL, appN, appX, appC, Eng.Fi, reduceCtorEq, exists_eq_left', exists_eq_left, if_true, if_false, List.replicate, Nat.reduceAdd, Nat.reduceSub, Nat.reduceMul, Nat.reduceLeDiff, Nat.reduceLT, Nat.reduceEqDiff]
def cf_CheckHead : List AV → Option AV
  | [h_v] => onH h_v fun h => if h.res.length ≤ 1099511627776 then some (.tup [I (hdC h).1, I (hdC h).2]) else none
  | _ => none
theorem g_CheckHead : Fn P 41 cf_CheckHead := fun args v hh => by
  unfold cf_CheckHead at hh; split at hh
  · obtain ⟨h, rfl, hh1⟩ := onH_inv hh
    split at hh1
    · rename_i hc; have hk := Option.some.inj hh1; subst hk; exact k_CheckHead _ hc
    · cases hh1
  · cases hh
theorem x_CheckHead (h : Hd) (hc : (h.res.length ≤ 1099511627776) = True) : cf_CheckHead [eHd h] = some (.tup [I (hdC h).1, I (hdC h).2]) := by
  simp only [cf_CheckHead, onH_e]
  exact if_pos (by rw [hc]; trivial)
def hdE (h : Hd) : Int := (hdC h).2
theorem k_headErr (h : Hd) (hl : h.res.length ≤ 1099511627776) : FOk P 95 [eHd h] (I (hdE h)) := by
  have y := x_CheckHead h (by simp only [hl])
  refine c95.fok (by simp only [free_Hs, free_Hd, subs, sub1, free_Se]) (Cor.run (addC_good g_CheckHead (noC_good _)) (noHx_good _) hm ?_)
  simp +contextual -implicitDefEqProofs (maxSteps := 2000000) only [bg_eq, a95, y, hdE, ruB, rh_no, Int.reduceLT, Int.reduceLE, Int.reduceAdd, Int.reduceSub, Int.reduceMul, Int.reduceNeg, Int.reduceToNat, Int.reduceEq, Int.reduceNe, Int.reduceTDiv, Int.reduceTMod, implies_true, putL, appN, appX, appC, Eng.Fi, reduceCtorEq, exists_eq_left', exists_eq_left, if_true, if_false, List.replicate, Nat.reduceAdd, Nat.reduceSub, Nat.reduceMul, Nat.reduceLeDiff, Nat.reduceLT, Nat.reduceEqDiff]
def cf_headErr : List AV → Option AV
  | [h_v] => onH h_v fun h => if h.res.length ≤ 1099511627776 then some (I (hdE h)) else none
  | _ => none
theorem g_headErr : Fn P 95 cf_headErr := fun args v hh => by
  unfold cf_headErr at hh; split at hh
  · obtain ⟨h, rfl, hh1⟩ := onH_inv hh
    split at hh1
    · rename_i hc; have hk := Option.some.inj hh1; subst hk; exact k_headErr _ hc
    · cases hh1
  · cases hh
theorem x_headErr (h : Hd) (hc : (h.res.length ≤ 1099511627776) = True) : cf_headErr [eHd h] = some (I (hdE h)) := by
  simp only [cf_headErr, onH_e]
  exact if_pos (by rw [hc]; trivial)
theorem hdE_zero {h : Hd} (hh : hdE h = 0) : ((drR h.home ∧ axR h.ra h.aa ∧ axR h.re h.ae) ∧ h.res.length ≤ 6) ∧ (∀ s ∈ h.res, seR s ∧ s.elo ≤ s.ehi) ∧ resv h.res h.home = false := by
  unfold hdE hdC at hh
  split at hh
  · rename_i h1
    unfold hd1 at h1
    have hz := firstE_zero h1
    have h6 := unl_zero (hz (unl ((h.res.length : Int) ≤ 6) 8) (by simp)) (by decide)
    refine ⟨⟨⟨drE_zero (hz _ (by simp : drE h.home ∈ _)), axE_zero (hz _ (by simp : axE h.ra h.aa ∈ _)), axE_zero (hz _ (by simp : axE h.re h.ae ∈ _))⟩, by omega⟩, ?_⟩
    split at hh
    · rename_i i e hs
      exfalso
      have key : ∀ (l : List Se) (n : Nat), secC n l = some (i, e) → e ≠ 0 := by
        intro l
        induction l with
        | nil => intro n h; cases h
        | cons s r ih =>
          intro n h
          simp only [secC] at h
          split at h
          · exact ih _ h
          · cases h; assumption
      exact key _ _ hs hh
    · rename_i hs
      exact ⟨secC_none hs, unl_zero hh (by decide)⟩
  · rename_i h1; exact absurd hh h1
def turnS (a b : Int) : Int := if 2 * upw a b ≤ 360 then 1 else -1
def turnN (a b : Int) : Int := if 2 * upw a b ≤ 360 then upw a b else upw b a
theorem k_turn (a b : Int) (hc : azR a ∧ azR b) : FOk P 124 [I a, I b] (.tup [I (turnS a b), I (turnN a b)]) := by
  obtain ⟨ha, hb⟩ := hc
  unfold azR at ha hb
  have u1 : upB a b = True := by unfold upB; simp only [eq_iff_iff, iff_true]; omega
  have u2 : upB b a = True := by unfold upB; simp only [eq_iff_iff, iff_true]; omega
  have h1 := upw_bd a b
  have e1 : IntKind.wrap .i64 (2 * upw a b) = 2 * upw a b := wrap64 (by omega) (by omega)
  by_cases h : 2 * upw a b ≤ 360
  · simp only [turnS, turnN, if_pos h]
    refine c124.fok rfl (Cor.run (addC_good g_upwards (noC_good _)) (noHx_good _) hm ?_)
    simp +contextual -implicitDefEqProofs (maxSteps := 2000000) only [bg_eq, a124, x_upwards, u1, u2, e1, h, ruB, rh_no, Int.reduceLT, Int.reduceLE, Int.reduceAdd, Int.reduceSub, Int.reduceMul, Int.reduceNeg, Int.reduceToNat, Int.reduceEq, Int.reduceNe, Int.reduceTDiv, Int.reduceTMod, implies_true, putL, appN, appX, appC, Eng.Fi, reduceCtorEq, exists_eq_left', exists_eq_left, if_true, if_false, List.replicate, Nat.reduceAdd, Nat.reduceSub, Nat.reduceMul, Nat.reduceLeDiff, Nat.reduceLT, Nat.reduceEqDiff]
  · simp only [turnS, turnN, if_neg h]
    refine c124.fok rfl (Cor.run (addC_good g_upwards (noC_good _)) (noHx_good _) hm ?_)
    simp +contextual -implicitDefEqProofs (maxSteps := 2000000) only [bg_eq, a124, x_upwards, u1, u2, e1, h, ruB, rh_no, Int.reduceLT, Int.reduceLE, Int.reduceAdd, Int.reduceSub, Int.reduceMul, Int.reduceNeg, Int.reduceToNat, Int.reduceEq, Int.reduceNe, Int.reduceTDiv, Int.reduceTMod, implies_true, putL, appN, appX, appC, Eng.Fi, reduceCtorEq, exists_eq_left', exists_eq_left, if_true, if_false, List.replicate, Nat.reduceAdd, Nat.reduceSub, Nat.reduceMul, Nat.reduceLeDiff, Nat.reduceLT, Nat.reduceEqDiff]
def cf_turn : List AV → Option AV
  | [.int .i64 a, .int .i64 b] => if azR a ∧ azR b then some (.tup [I (turnS a b), I (turnN a b)]) else none
  | _ => none
theorem g_turn : Fn P 124 cf_turn := fun args v hh => by
  unfold cf_turn at hh; split at hh
  · split at hh
    · rename_i hc; have hk := Option.some.inj hh; subst hk; exact k_turn _ _ hc
    · cases hh
  · cases hh
theorem x_turn (a : Int) (b : Int) (hc : (azR a ∧ azR b) = True) : cf_turn [.int .i64 a, .int .i64 b] = some (.tup [I (turnS a b), I (turnN a b)]) := by
  exact if_pos (by rw [hc]; trivial)
def tiltS (a b : Int) : Int := if a ≤ b then 1 else -1
def tiltN (a b : Int) : Int := if a ≤ b then b - a else a - b
theorem k_tilt (a b : Int) (hc : elR a ∧ elR b) : FOk P 125 [I a, I b] (.tup [I (tiltS a b), I (tiltN a b)]) := by
  obtain ⟨ha, hb⟩ := hc
  unfold elR at ha hb
  have e1 : IntKind.wrap .i64 (b - a) = b - a := wrap64 (by omega) (by omega)
  have e2 : IntKind.wrap .i64 (a - b) = a - b := wrap64 (by omega) (by omega)
  by_cases h : a ≤ b
  · simp only [tiltS, tiltN, if_pos h]
    refine c125.fok rfl (Cor.run (noC_good _) (noHx_good _) hm ?_)
    simp +contextual -implicitDefEqProofs (maxSteps := 2000000) only [bg_eq, a125, e1, h, ruB, rh_no, Int.reduceLT, Int.reduceLE, Int.reduceAdd, Int.reduceSub, Int.reduceMul, Int.reduceNeg, Int.reduceToNat, Int.reduceEq, Int.reduceNe, Int.reduceTDiv, Int.reduceTMod, implies_true, putL, appN, appX, appC, Eng.Fi, reduceCtorEq, exists_eq_left', exists_eq_left, if_true, if_false, List.replicate, Nat.reduceAdd, Nat.reduceSub, Nat.reduceMul, Nat.reduceLeDiff, Nat.reduceLT, Nat.reduceEqDiff]
  · simp only [tiltS, tiltN, if_neg h]
    refine c125.fok rfl (Cor.run (noC_good _) (noHx_good _) hm ?_)
    simp +contextual -implicitDefEqProofs (maxSteps := 2000000) only [bg_eq, a125, e2, h, ruB, rh_no, Int.reduceLT, Int.reduceLE, Int.reduceAdd, Int.reduceSub, Int.reduceMul, Int.reduceNeg, Int.reduceToNat, Int.reduceEq, Int.reduceNe, Int.reduceTDiv, Int.reduceTMod, implies_true, putL, appN, appX, appC, Eng.Fi, reduceCtorEq, exists_eq_left', exists_eq_left, if_true, if_false, List.replicate, Nat.reduceAdd, Nat.reduceSub, Nat.reduceMul, Nat.reduceLeDiff, Nat.reduceLT, Nat.reduceEqDiff]
def cf_tilt : List AV → Option AV
  | [.int .i64 a, .int .i64 b] => if elR a ∧ elR b then some (.tup [I (tiltS a b), I (tiltN a b)]) else none
  | _ => none
theorem g_tilt : Fn P 125 cf_tilt := fun args v hh => by
  unfold cf_tilt at hh; split at hh
  · split at hh
    · rename_i hc; have hk := Option.some.inj hh; subst hk; exact k_tilt _ _ hc
    · cases hh
  · cases hh
theorem x_tilt (a : Int) (b : Int) (hc : (elR a ∧ elR b) = True) : cf_tilt [.int .i64 a, .int .i64 b] = some (.tup [I (tiltS a b), I (tiltN a b)]) := by
  exact if_pos (by rw [hc]; trivial)
theorem turnN_bd (a b : Int) : 0 ≤ turnN a b ∧ turnN a b ≤ 360 := by
  have := upw_bd a b
  have := upw_bd b a
  unfold turnN; split <;> omega
theorem tiltN_bd {a b : Int} (ha : elR a) (hb : elR b) : 0 ≤ tiltN a b ∧ tiltN a b ≤ 90 := by
  unfold elR at ha hb
  unfold tiltN; split <;> omega
/-- ticks of a move -/
def mvT (h : Hd) (a b : Dr) : Int := (tkL h.ra h.aa (turnN a.az b.az) : Int) + tkL h.re h.ae (tiltN a.el b.el)
def mvB (h : Hd) (a b : Dr) : Prop := (axR h.ra h.aa ∧ axR h.re h.ae) ∧ drR a ∧ drR b
instance (h : Hd) (a b : Dr) : Decidable (mvB h a b) := by unfold mvB; infer_instance
theorem tk_bd {r a d : Int} (h : axR r a) (hd : 0 ≤ d ∧ d ≤ 1000) : tkL r a d ≤ 100000 := by
  have := (tkL_spec h hd).2.2
  omega
theorem k_moveTicks (h : Hd) (a b : Dr) (hb : mvB h a b) : FOk P 98 [eHd h, eDr a, eDr b] (I (mvT h a b)) := by
  obtain ⟨⟨h1, h2⟩, ⟨h3, h4⟩, ⟨h5, h6⟩⟩ := hb
  have b1 := turnN_bd a.az b.az
  have b2 := tiltN_bd h4 h6
  have y1 := x_turn a.az b.az (by simp only [h3, h5, and_self])
  have y2 := x_tilt a.el b.el (by simp only [h4, h6, and_self])
  have y3 := x_ticksFor h.ra h.aa (turnN a.az b.az) (by simp only [eq_iff_iff, iff_true]; exact ⟨h1, by omega, by omega⟩)
  have y4 := x_ticksFor h.re h.ae (tiltN a.el b.el) (by simp only [eq_iff_iff, iff_true]; exact ⟨h2, by omega, by omega⟩)
  have t1 := tk_bd (r := h.ra) (a := h.aa) (d := turnN a.az b.az) h1 (by omega)
  have t2 := tk_bd (r := h.re) (a := h.ae) (d := tiltN a.el b.el) h2 (by omega)
  have e1 : IntKind.wrap .i64 ((tkL h.ra h.aa (turnN a.az b.az) : Int) + tkL h.re h.ae (tiltN a.el b.el)) = mvT h a b := wrap64 (by omega) (by omega)
  refine c98.fok (by simp only [free_Hs, free_Hd, subs, sub1, free_Se]) (Cor.run (addC_good g_ticksFor (addC_good g_tilt (addC_good g_turn (noC_good _)))) (noHx_good _) hm ?_)
  simp +contextual -implicitDefEqProofs (maxSteps := 2000000) only [bg_eq, a98, y1, y2, y3, y4, e1, ruB, rh_no, Int.reduceLT, Int.reduceLE, Int.reduceAdd, Int.reduceSub, Int.reduceMul, Int.reduceNeg, Int.reduceToNat, Int.reduceEq, Int.reduceNe, Int.reduceTDiv, Int.reduceTMod, implies_true, putL, appN, appX, appC, Eng.Fi, reduceCtorEq, exists_eq_left', exists_eq_left, if_true, if_false, List.replicate, Nat.reduceAdd, Nat.reduceSub, Nat.reduceMul, Nat.reduceLeDiff, Nat.reduceLT, Nat.reduceEqDiff]
def cf_moveTicks : List AV → Option AV
  | [h_v, .agg [.int .i64 a_az, .int .i64 a_el], .agg [.int .i64 b_az, .int .i64 b_el]] => onH h_v fun h => if mvB h (⟨a_az, a_el⟩ : Dr) (⟨b_az, b_el⟩ : Dr) then some (I (mvT h (⟨a_az, a_el⟩ : Dr) (⟨b_az, b_el⟩ : Dr))) else none
  | _ => none
theorem g_moveTicks : Fn P 98 cf_moveTicks := fun args v hh => by
  unfold cf_moveTicks at hh; split at hh
  · obtain ⟨h, rfl, hh1⟩ := onH_inv hh
    split at hh1
    · rename_i hc; have hk := Option.some.inj hh1; subst hk; exact k_moveTicks _ ⟨_, _⟩ ⟨_, _⟩ hc
    · cases hh1
  · cases hh
theorem x_moveTicks (h : Hd) (a : Dr) (b : Dr) (hc : (mvB h a b) = True) : cf_moveTicks [eHd h, .agg [I a.az, I a.el], .agg [I b.az, I b.el]] = some (I (mvT h a b)) := by
  simp only [cf_moveTicks, onH_e]
  exact if_pos (by rw [hc]; trivial)
end Sc
