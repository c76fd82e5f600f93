import Derived.Test.YtjkhnmhbbjgenaaEngS9
import Derived.Test.YtjkhnmhbbjgenaaS3
import Derived.Test.YtjkhnmhbbjgenaaEngSE
open Go Go.Proofs Eng
set_option maxRecDepth 100000
set_option linter.unusedSimpArgs false
set_option linter.unusedVariables false
def a84 : AC := .seq (.ops false [] [⟨some 3, .box 42 7 1 true, [.t 0], none⟩, ⟨some 4, .box 37 2 1 true, [.t 1], none⟩, ⟨some 5, .box 37 2 1 true, [.t 2], none⟩, ⟨some 6, .alloc 37 2 [.agg [.int .i64 0, .int .i64 0]], [], none⟩, ⟨some 7, .alloc 4 1 [.bool false], [], none⟩]) (.seq (.seq (.ops false [] [⟨some 9, .load 2 true, [.t 4], none⟩, ⟨some 10, .load 2 true, [.t 5], none⟩, ⟨some 11, .call 114, [.t 9, .t 10], none⟩]) (.block 0 (.rf (.t 11) [12] (.ops false [] [⟨some 8, .alloc 37 2 [.agg [.int .i64 0, .int .i64 0]], [], none⟩, ⟨none, .store 2 true, [.t 8, .t 12], none⟩]) (.block 1 (.seq (.ops false [] [⟨some 13, .load 7 true, [.t 3], none⟩, ⟨some 14, .load 2 true, [.t 8], none⟩, ⟨some 15, .call 94, [.t 13, .t 14], none⟩]) (.cond (.t 15) (.seq (.ops false [] [⟨some 16, .load 2 true, [.t 8], none⟩, ⟨none, .store 2 true, [.t 6, .t 16], none⟩, ⟨none, .store 1 false, [.t 7, .c (.bool true)], none⟩]) (.ret)) (.skip))))))) (.seq (.ops false [] [⟨some 17, .p (.build [.int .i64 0, .int .i64 0] []), [], none⟩, ⟨none, .store 2 true, [.t 6, .t 17], none⟩, ⟨none, .store 1 false, [.t 7, .c (.bool false)], none⟩]) (.ret)))
theorem c84 : FnC Try.prog 84 18 a84 [.cell 6 2 true, .cell 7 1 false] := ⟨Try.call84, _, _, Try.func84, rfl, by kernel_rfl, by kernel_rfl, rfl⟩
def a114 : AC := .seq (.ops false [] [⟨some 2, .box 37 2 1 true, [.t 0], none⟩, ⟨some 3, .box 37 2 1 true, [.t 1], none⟩, ⟨some 4, .p (.mov), [.c (.nilfn)], none⟩]) (.seq (.ops false [] [⟨some 5, .p (.mkfn 130 0), [.t 2, .t 3], none⟩, ⟨some 4, .p (.mov), [.t 5], none⟩]) (.ret))
theorem c114 : FnC Try.prog 114 6 a114 [.tmp 4] := ⟨Try.call114, _, _, Try.func114, rfl, by kernel_rfl, by kernel_rfl, rfl⟩
def a130 : AC := .seq (.seq (.ops false [] [⟨some 6, .p (.mov), [.t 0], none⟩, ⟨some 7, .load 2 true, [.t 1], none⟩, ⟨some 8, .callv, [.t 6, .t 7], none⟩, ⟨some 9, .p (.notB), [.t 8], none⟩]) (.cond (.t 9) (.ret) (.skip))) (.seq (.ops false [] [⟨some 11, .p (.faddr 0), [.t 1], none⟩, ⟨some 12, .load 1 false, [.t 11], none⟩, ⟨some 13, .p (.faddr 0), [.t 2], none⟩, ⟨some 14, .load 1 false, [.t 13], none⟩, ⟨some 15, .call 124, [.t 12, .t 14], none⟩, ⟨some 10, .p (.mov), [.t 15], none⟩, ⟨some 16, .p (.ext 0), [.t 10], none⟩, ⟨some 17, .p (.ext 1), [.t 10], none⟩, ⟨some 4, .p (.mov), [.t 16], none⟩, ⟨some 5, .p (.mov), [.t 17], none⟩]) (.seq (.seq (.ops false [] [⟨some 18, .p (.mov), [.t 5], none⟩, ⟨some 19, .p (.mov), [.c (.int .i64 0)], none⟩]) (.block 0 (.loop (.seq (.ops false [] [⟨some 20, .p (.binI .lss), [.t 19, .t 18], none⟩]) (.seq (.cond (.t 20) (.skip) (.exit 0)) (.seq (.block 1 (.seq (.ops false [] [⟨some 21, .p (.faddr 0), [.t 1], none⟩, ⟨some 22, .load 1 false, [.t 21], none⟩, ⟨some 23, .p (.mov), [.t 4], none⟩, ⟨some 24, .p (.binI .add), [.t 22, .t 23], none⟩, ⟨some 25, .call 118, [.c (.int .i64 0), .t 24], none⟩, ⟨some 26, .p (.faddr 0), [.t 1], none⟩, ⟨none, .store 1 false, [.t 26, .t 25], none⟩]) (.seq (.ops false [] [⟨some 27, .p (.mov), [.t 0], none⟩, ⟨some 28, .load 2 true, [.t 1], none⟩, ⟨some 29, .callv, [.t 27, .t 28], none⟩, ⟨some 30, .p (.notB), [.t 29], none⟩]) (.cond (.t 30) (.ret) (.skip))))) (.ops false [] [⟨some 31, .p (.binI .add), [.t 19, .c (.int .i64 1)], none⟩, ⟨some 19, .p (.mov), [.t 31], none⟩]))))))) (.seq (.ops false [] [⟨some 33, .p (.faddr 1), [.t 1], none⟩, ⟨some 34, .load 1 false, [.t 33], none⟩, ⟨some 35, .p (.faddr 1), [.t 2], none⟩, ⟨some 36, .load 1 false, [.t 35], none⟩, ⟨some 37, .call 125, [.t 34, .t 36], none⟩, ⟨some 32, .p (.mov), [.t 37], none⟩, ⟨some 38, .p (.ext 0), [.t 32], none⟩, ⟨some 39, .p (.ext 1), [.t 32], none⟩, ⟨some 4, .p (.mov), [.t 38], none⟩, ⟨some 5, .p (.mov), [.t 39], none⟩]) (.seq (.ops false [] [⟨some 40, .p (.mov), [.t 5], none⟩, ⟨some 41, .p (.mov), [.c (.int .i64 0)], none⟩]) (.block 2 (.loop (.seq (.ops false [] [⟨some 42, .p (.binI .lss), [.t 41, .t 40], none⟩]) (.seq (.cond (.t 42) (.skip) (.exit 2)) (.seq (.block 3 (.seq (.ops false [] [⟨some 43, .p (.faddr 1), [.t 1], none⟩, ⟨some 44, .load 1 false, [.t 43], none⟩, ⟨some 45, .p (.mov), [.t 4], none⟩, ⟨some 46, .p (.binI .add), [.t 44, .t 45], none⟩, ⟨some 47, .p (.faddr 1), [.t 1], none⟩, ⟨none, .store 1 false, [.t 47, .t 46], none⟩]) (.seq (.ops false [] [⟨some 48, .p (.mov), [.t 0], none⟩, ⟨some 49, .load 2 true, [.t 1], none⟩, ⟨some 50, .callv, [.t 48, .t 49], none⟩, ⟨some 51, .p (.notB), [.t 50], none⟩]) (.cond (.t 51) (.ret) (.skip))))) (.ops false [] [⟨some 52, .p (.binI .add), [.t 41, .c (.int .i64 1)], none⟩, ⟨some 41, .p (.mov), [.t 52], none⟩]))))))))))
theorem c130 : FnC Try.prog 130 53 a130 [] := ⟨Try.call130, _, _, Try.func130, rfl, by kernel_rfl, by kernel_rfl, rfl⟩
namespace Sc
def nAz (s az : Int) : Int := upw 0 (az + s)
def azL (s el : Int) : Nat → Int → List Dr
  | 0, _ => []
  | n + 1, az => ⟨nAz s az, el⟩ :: azL s el n (nAz s az)
def zAz (s : Int) : Nat → Int → Int
  | 0, az => az
  | n + 1, az => zAz s n (nAz s az)
def elL (s az : Int) : Nat → Int → List Dr
  | 0, _ => []
  | n + 1, el => ⟨az, el + s⟩ :: elL s az n (el + s)
def zEl (s : Int) : Nat → Int → Int
  | 0, el => el
  | n + 1, el => zEl s n (el + s)
def wN1 (a b : Dr) : Nat := (turnN a.az b.az).toNat
def wN2 (a b : Dr) : Nat := (tiltN a.el b.el).toNat
def wZ (a b : Dr) : Int := zAz (turnS a.az b.az) (wN1 a b) a.az
def wayL (a b : Dr) : List Dr := a :: (azL (turnS a.az b.az) a.el (wN1 a b) a.az ++ elL (tiltS a.el b.el) (wZ a b) (wN2 a b) a.el)
def wEnd (a b : Dr) : Dr := ⟨wZ a b, zEl (tiltS a.el b.el) (wN2 a b) a.el⟩
/-- where the iterator stands at the j-th call of yield -/
def wAt (a b : Dr) (j : Nat) : Dr := match (wayL a b)[j]? with
  | some d => d
  | none => wEnd a b
theorem wAt_c {a b d : Dr} {r : List Dr} {j : Nat} (h : (wayL a b).drop j = d :: r) : wAt a b j = d ∧ (wayL a b).drop (j + 1) = r := by
  have h1 : (wayL a b)[j]? = some d := by
    have := List.getElem?_drop (xs := wayL a b) (i := j) (j := 0)
    rw [h] at this
    simpa using this.symm
  refine ⟨by rw [wAt, h1], ?_⟩
  rw [← List.drop_drop, h]; rfl
theorem wAt_n {a b : Dr} {j : Nat} (h : (wayL a b).drop j = []) : wAt a b j = wEnd a b := by
  have h1 : (wayL a b)[j]? = none := List.getElem?_eq_none (List.drop_eq_nil_iff.1 h)
  rw [wAt, h1]
def wO (id : Nat) (a b : Dr) (j : Nat) : List HEnt := [⟨id, id, .rows 37 2 [eDr (wAt a b j)]⟩]
abbrev eW (d : Dr) : List AV := [eDr d]
def Sw1 (t id : Nat) (b : Dr) (s n : Int) (p : Nat × Dr × List HEnt × Nat) : AState := ⟨[.yield t, .ptr id 2 0 0, .vp [eDr b] 0 0, .any, I s, .any, .any, .any, .any, .any, .any, .any, .any, .any, .any, .any, .any, .any, I n, I p.1, .any, .any, .any, .any, .any, .any, .any, .any, .any, .any, .any, .any, .any, .any, .any, .any, .any, .any, .any, .any, .any, .any, .any, .any, .any, .any, .any, .any, .any, .any, .any, .any, .any], ⟨id, id, .rows 37 2 [eDr p.2.1]⟩ :: p.2.2.1, p.2.2.2⟩
def Sw2 (t id : Nat) (b : Dr) (s n : Int) (p : Nat × Dr × List HEnt × Nat) : AState := ⟨[.yield t, .ptr id 2 0 0, .vp [eDr b] 0 0, .any, I s, .any, .any, .any, .any, .any, .any, .any, .any, .any, .any, .any, .any, .any, .any, .any, .any, .any, .any, .any, .any, .any, .any, .any, .any, .any, .any, .any, .any, .any, .any, .any, .any, .any, .any, .any, I n, I p.1, .any, .any, .any, .any, .any, .any, .any, .any, .any, .any, .any], ⟨id, id, .rows 37 2 [eDr p.2.1]⟩ :: p.2.2.1, p.2.2.2⟩
theorem turnS_v (a b : Int) : turnS a b = 1 ∨ turnS a b = -1 := by unfold turnS; split <;> simp
theorem tiltS_v (a b : Int) : tiltS a b = 1 ∨ tiltS a b = -1 := by unfold tiltS; split <;> simp
theorem nAz_bd (s az : Int) : 0 ≤ nAz s az ∧ nAz s az ≤ 359 := upw_bd _ _
theorem dj_set {id : Nat} {a b : Dr} {h : List HEnt} (hd : Dj (wO id a b) h) (k : ABlk) : Eng.setB h id id k = h := setB_free fun e he => (hd 0 _ (List.mem_singleton.2 rfl) e he).1
theorem sqW (a b : Dr) (id : Nat) (ha : drR a) (hb : drR b) : SeqO P 130 [] [.ptr id 2 0 0, .vp [eDr b] 0 0] (wO id a b) ((wayL a b).map eW) := by
  intro hx t N hp Fin htN hn hd
  have hg := HGood_y (P := P) hn
  obtain ⟨a1, a2⟩ := ha
  obtain ⟨b1, b2⟩ := hb
  have y1 := x_turn a.az b.az (by simp only [a1, b1, and_self])
  have y2 := x_tilt a.el b.el (by simp only [a2, b2, and_self])
  have n1 : ((wN1 a b : Nat) : Int) = turnN a.az b.az := Int.toNat_of_nonneg (turnN_bd _ _).1
  have n2 : ((wN2 a b : Nat) : Int) = tiltN a.el b.el := Int.toNat_of_nonneg (tiltN_bd a2 b2).1
  have b1' := turnN_bd a.az b.az
  have b2' := tiltN_bd a2 b2
  have hA : wAt a b 0 = a := rfl
  rw [wayL, List.map_cons] at hd
  obtain ⟨hdj, bb, h', N', hy, hc, hf⟩ := hd
  have hy' : hx 987654321 [.yield t, eDr a] (⟨id, id, .rows 37 2 [eDr a]⟩ :: hp) N = some (.bool bb, ⟨id, id, .rows 37 2 [eDr a]⟩ :: h', N') := hy
  refine c130.loky (Cor.run (addC_good g_upwards (addC_good g_tilt (addC_good g_turn (noC_good _)))) hg hm ?_)
  show W P _ _ _ _ _ _ (bg 53 [.yield t, .ptr id 2 0 0, .vp [eDr b] 0 0] (⟨id, id, .rows 37 2 [eDr a]⟩ :: hp) N)
  cases bb with
  | false =>
    simp +contextual -implicitDefEqProofs (maxSteps := 2000000) only [bg_eq, a130, hy', FinL, ruH, ruB, Int.reduceLT, Int.reduceLE, Int.reduceAdd, Int.reduceSub, Int.reduceMul, Int.reduceNeg, Int.reduceToNat, Int.reduceEq, Int.reduceNe, Int.reduceTDiv, Int.reduceTMod, implies_true, putL, appN, appX, appC, Eng.Fi, reduceCtorEq, exists_eq_left', exists_eq_left, if_true, if_false, List.replicate, Nat.reduceAdd, Nat.reduceSub, Nat.reduceMul, Nat.reduceLeDiff, Nat.reduceLT, Nat.reduceEqDiff]
    exact (hf rfl).2
  | true =>
    have hD := hc rfl
    have h0 : ∀ g, g ≠ 987654321 → ∀ vals h n, hx g vals h n = none := fun g hg vals h n => hn g vals h n (by simp only [hg])
    have h1 := h0 124 (by decide)
    have h2 := h0 125 (by decide)
    have h3 := h0 118 (by decide)
    have hw : (wayL a b).drop 1 = azL (turnS a.az b.az) a.el (wN1 a b) a.az ++ elL (tiltS a.el b.el) (wZ a b) (wN2 a b) a.el := rfl
    rw [← hw] at hD
    simp +contextual -implicitDefEqProofs (maxSteps := 2000000) only [bg_eq, a130, hy', y1, h1, ruH, ruB, Int.reduceLT, Int.reduceLE, Int.reduceAdd, Int.reduceSub, Int.reduceMul, Int.reduceNeg, Int.reduceToNat, Int.reduceEq, Int.reduceNe, Int.reduceTDiv, Int.reduceTMod, implies_true, putL, appN, appX, appC, Eng.Fi, reduceCtorEq, exists_eq_left', exists_eq_left, if_true, if_false, List.replicate, Nat.reduceAdd, Nat.reduceSub, Nat.reduceMul, Nat.reduceLeDiff, Nat.reduceLT, Nat.reduceEqDiff]
    refine Cor.lp (addC_good g_upwards (addC_good g_tilt (addC_good g_turn (noC_good _)))) hg hm (Sw1 t id b (turnS a.az b.az) (turnN a.az b.az)) (fun p => p.1 ≤ wN1 a b ∧ p.2.1.el = a.el ∧ azR p.2.1.az ∧ zAz (turnS a.az b.az) (wN1 a b - p.1) p.2.1.az = wZ a b ∧ (wayL a b).drop (p.1 + 1) = azL (turnS a.az b.az) a.el (wN1 a b - p.1) p.2.1.az ++ elL (tiltS a.el b.el) (wZ a b) (wN2 a b) a.el ∧ DrvO (wO id a b) Fin hx t (p.1 + 1) p.2.2.1 (p.2.2.2 + 1) (((wayL a b).drop (p.1 + 1)).map eW)) (fun p => wN1 a b - p.1) (a := (0, a, h', N')) ⟨Nat.zero_le _, rfl, a1, rfl, rfl, hD⟩ (Wkn.keep [0, 1, 2, 4, 18, 19] rfl) ?_
    rintro f ⟨k, ⟨az, el⟩, h, N⟩ ⟨hk, hel, haz, hz, hl, hD⟩ go
    simp only at hk hel haz hz hl hD
    rw [← hel] at hl
    rcases Nat.lt_or_ge k (wN1 a b) with hlt | hlt
    · have e1 : decide ((k : Int) < turnN a.az b.az) = true := by rw [← n1]; exact lt_t hlt
      have e3 : IntKind.wrap .i64 ((k : Int) + 1) = ((k + 1 : Nat) : Int) := suc_w (by omega)
      have hs := turnS_v a.az b.az
      have e4 : IntKind.wrap .i64 (az + turnS a.az b.az) = az + turnS a.az b.az := by unfold azR at haz; rw [wrap64 (by omega) (by omega)]
      have u1 : upB 0 (az + turnS a.az b.az) = True := by unfold upB; unfold azR at haz; simp only [eq_iff_iff, iff_true]; omega
      obtain ⟨m, hm1⟩ : ∃ m, wN1 a b - k = m + 1 := ⟨wN1 a b - k - 1, by omega⟩
      rw [hm1, azL, List.cons_append] at hl
      obtain ⟨hat, hdr⟩ := wAt_c hl
      rw [hl, List.map_cons] at hD
      obtain ⟨hdj, bb, h', N', hy, hc, hf⟩ := hD
      have hy' : hx 987654321 [.yield t, eDr ⟨nAz (turnS a.az b.az) az, el⟩] (⟨id, id, .rows 37 2 [eDr ⟨nAz (turnS a.az b.az) az, el⟩]⟩ :: h) (N + 1) = some (.bool bb, ⟨id, id, .rows 37 2 [eDr ⟨nAz (turnS a.az b.az) az, el⟩]⟩ :: h', N') := by
        have := hy
        simp only [wO, hat] at this
        exact this
      have hse := dj_set hdj
      have hu : upw 0 (az + turnS a.az b.az) = nAz (turnS a.az b.az) az := rfl
      cases bb with
      | false =>
        simp +contextual -implicitDefEqProofs (maxSteps := 2000000) only [Sw1, e1, e3, e4, x_upwards, u1, h3, hu, hse, hy', FinL, ruH, ruB, Int.reduceLT, Int.reduceLE, Int.reduceAdd, Int.reduceSub, Int.reduceMul, Int.reduceNeg, Int.reduceToNat, Int.reduceEq, Int.reduceNe, Int.reduceTDiv, Int.reduceTMod, implies_true, putL, appN, appX, appC, Eng.Fi, reduceCtorEq, exists_eq_left', exists_eq_left, if_true, if_false, List.replicate, Nat.reduceAdd, Nat.reduceSub, Nat.reduceMul, Nat.reduceLeDiff, Nat.reduceLT, Nat.reduceEqDiff]
        have := (hf rfl).2
        simp only [wO, hat] at this
        exact this
      | true =>
        simp +contextual -implicitDefEqProofs (maxSteps := 2000000) only [Sw1, e1, e3, e4, x_upwards, u1, h3, hu, hse, hy', ruH, ruB, Int.reduceLT, Int.reduceLE, Int.reduceAdd, Int.reduceSub, Int.reduceMul, Int.reduceNeg, Int.reduceToNat, Int.reduceEq, Int.reduceNe, Int.reduceTDiv, Int.reduceTMod, implies_true, putL, appN, appX, appC, Eng.Fi, reduceCtorEq, exists_eq_left', exists_eq_left, if_true, if_false, List.replicate, Nat.reduceAdd, Nat.reduceSub, Nat.reduceMul, Nat.reduceLeDiff, Nat.reduceLT, Nat.reduceEqDiff]
        refine go _ (k + 1, ⟨nAz (turnS a.az b.az) az, a.el⟩, h', N') ⟨hlt, rfl, ?_, ?_, ?_, ?_⟩ (by simp only; omega) ?_
        · exact nAz_bd _ _
        · simp only; rw [← hz, hm1, show wN1 a b - (k + 1) = m by omega]; rfl
        · simp only; rw [hdr, show wN1 a b - (k + 1) = m by omega, hel]
        · simp only; rw [hdr]; exact hc rfl
        · rw [hel]; exact Wkn.keep [0, 1, 2, 4, 18, 19] rfl
    · have e1 : decide ((k : Int) < turnN a.az b.az) = false := by rw [← n1]; exact lt_f hlt
      have hk' : wN1 a b - k = 0 := by omega
      rw [hk'] at hl hz
      rw [azL, List.nil_append] at hl
      simp only [zAz] at hz
      have y2' : cf_tilt [.int .i64 el, .int .i64 b.el] = some (.tup [I (tiltS a.el b.el), I (tiltN a.el b.el)]) := by rw [hel]; exact y2
      simp +contextual -implicitDefEqProofs (maxSteps := 2000000) only [Sw1, e1, y2', h2, ruH, ruB, Int.reduceLT, Int.reduceLE, Int.reduceAdd, Int.reduceSub, Int.reduceMul, Int.reduceNeg, Int.reduceToNat, Int.reduceEq, Int.reduceNe, Int.reduceTDiv, Int.reduceTMod, implies_true, putL, appN, appX, appC, Eng.Fi, reduceCtorEq, exists_eq_left', exists_eq_left, if_true, if_false, List.replicate, Nat.reduceAdd, Nat.reduceSub, Nat.reduceMul, Nat.reduceLeDiff, Nat.reduceLT, Nat.reduceEqDiff]
      refine Cor.lp (addC_good g_upwards (addC_good g_tilt (addC_good g_turn (noC_good _)))) hg hm (Sw2 t id b (tiltS a.el b.el) (tiltN a.el b.el)) (fun p => p.1 ≤ wN2 a b ∧ p.2.1.az = wZ a b ∧ (-100 + (p.1 : Int) ≤ 0 ∧ a.el - p.1 ≤ p.2.1.el ∧ p.2.1.el ≤ a.el + p.1) ∧ zEl (tiltS a.el b.el) (wN2 a b - p.1) p.2.1.el = zEl (tiltS a.el b.el) (wN2 a b) a.el ∧ (wayL a b).drop (k + 1 + p.1) = elL (tiltS a.el b.el) (wZ a b) (wN2 a b - p.1) p.2.1.el ∧ DrvO (wO id a b) Fin hx t (k + 1 + p.1) p.2.2.1 (p.2.2.2 + 1) (((wayL a b).drop (k + 1 + p.1)).map eW)) (fun p => wN2 a b - p.1) (a := (0, ⟨az, el⟩, h, N)) ⟨Nat.zero_le _, hz, ⟨by simp, by simp [hel], by simp [hel]⟩, by simp only; rw [hel]; rfl, by simp only; rw [Nat.add_zero, hl]; rw [hel]; rfl, hD⟩ (Wkn.keep [0, 1, 2, 4, 40, 41] rfl) ?_
      rintro f2 ⟨i, ⟨az2, el2⟩, h, N⟩ ⟨hi, haz2, ⟨hb1, hb2, hb3⟩, hz2, hl, hD⟩ go2
      simp only at hi haz2 hb1 hb2 hb3 hz2 hl hD
      rcases Nat.lt_or_ge i (wN2 a b) with hlt2 | hlt2
      · have e1 : decide ((i : Int) < tiltN a.el b.el) = true := by rw [← n2]; exact lt_t hlt2
        have e3 : IntKind.wrap .i64 ((i : Int) + 1) = ((i + 1 : Nat) : Int) := suc_w (by omega)
        have hs := tiltS_v a.el b.el
        unfold elR at a2
        have e4 : IntKind.wrap .i64 (el2 + tiltS a.el b.el) = el2 + tiltS a.el b.el := by rw [wrap64 (by omega) (by omega)]
        obtain ⟨m, hm1⟩ : ∃ m, wN2 a b - i = m + 1 := ⟨wN2 a b - i - 1, by omega⟩
        rw [hm1, elL] at hl
        obtain ⟨hat, hdr⟩ := wAt_c hl
        rw [hl, List.map_cons] at hD
        obtain ⟨hdj, bb, h', N', hy, hc, hf⟩ := hD
        have hy' : hx 987654321 [.yield t, eDr ⟨az2, el2 + tiltS a.el b.el⟩] (⟨id, id, .rows 37 2 [eDr ⟨az2, el2 + tiltS a.el b.el⟩]⟩ :: h) (N + 1) = some (.bool bb, ⟨id, id, .rows 37 2 [eDr ⟨az2, el2 + tiltS a.el b.el⟩]⟩ :: h', N') := by
          have := hy
          simp only [wO, hat] at this
          rw [haz2]
          exact this
        have hse := dj_set hdj
        cases bb with
        | false =>
          simp +contextual -implicitDefEqProofs (maxSteps := 2000000) only [Sw2, e1, e3, e4, hse, hy', FinL, ruH, ruB, Int.reduceLT, Int.reduceLE, Int.reduceAdd, Int.reduceSub, Int.reduceMul, Int.reduceNeg, Int.reduceToNat, Int.reduceEq, Int.reduceNe, Int.reduceTDiv, Int.reduceTMod, implies_true, putL, appN, appX, appC, Eng.Fi, reduceCtorEq, exists_eq_left', exists_eq_left, if_true, if_false, List.replicate, Nat.reduceAdd, Nat.reduceSub, Nat.reduceMul, Nat.reduceLeDiff, Nat.reduceLT, Nat.reduceEqDiff]
          have := (hf rfl).2
          simp only [wO, hat] at this
          rw [haz2]
          exact this
        | true =>
          simp +contextual -implicitDefEqProofs (maxSteps := 2000000) only [Sw2, e1, e3, e4, hse, hy', ruH, ruB, Int.reduceLT, Int.reduceLE, Int.reduceAdd, Int.reduceSub, Int.reduceMul, Int.reduceNeg, Int.reduceToNat, Int.reduceEq, Int.reduceNe, Int.reduceTDiv, Int.reduceTMod, implies_true, putL, appN, appX, appC, Eng.Fi, reduceCtorEq, exists_eq_left', exists_eq_left, if_true, if_false, List.replicate, Nat.reduceAdd, Nat.reduceSub, Nat.reduceMul, Nat.reduceLeDiff, Nat.reduceLT, Nat.reduceEqDiff]
          refine go2 _ (i + 1, ⟨az2, el2 + tiltS a.el b.el⟩, h', N') ⟨hlt2, haz2, ⟨?_, ?_, ?_⟩, ?_, ?_, ?_⟩ (by simp only; omega) (Wkn.keep [0, 1, 2, 4, 40, 41] rfl)
          · simp only; omega
          · simp only; omega
          · simp only; omega
          · simp only; rw [← hz2, hm1, show wN2 a b - (i + 1) = m by omega]; rfl
          · simp only; rw [← Nat.add_assoc, hdr, show wN2 a b - (i + 1) = m by omega]
          · simp only; rw [← Nat.add_assoc, hdr]; exact hc rfl
      · have e1 : decide ((i : Int) < tiltN a.el b.el) = false := by rw [← n2]; exact lt_f hlt2
        have hi' : wN2 a b - i = 0 := by omega
        rw [hi'] at hl hz2
        rw [elL] at hl
        simp only [zEl] at hz2
        rw [hl] at hD
        obtain ⟨_, hF⟩ := hD
        have hF := hF N (by omega)
        have hat := wAt_n hl
        simp only [wO, hat] at hF
        have hend : (⟨az2, el2⟩ : Dr) = wEnd a b := by rw [wEnd, haz2, hz2]
        simp +contextual -implicitDefEqProofs (maxSteps := 2000000) only [Sw2, e1, FinL, ruH, ruB, Int.reduceLT, Int.reduceLE, Int.reduceAdd, Int.reduceSub, Int.reduceMul, Int.reduceNeg, Int.reduceToNat, Int.reduceEq, Int.reduceNe, Int.reduceTDiv, Int.reduceTMod, implies_true, putL, appN, appX, appC, Eng.Fi, reduceCtorEq, exists_eq_left', exists_eq_left, if_true, if_false, List.replicate, Nat.reduceAdd, Nat.reduceSub, Nat.reduceMul, Nat.reduceLeDiff, Nat.reduceLT, Nat.reduceEqDiff]
        rw [← hend] at hF
        exact hF
theorem azL_mem {s el : Int} : ∀ {n : Nat} {az : Int} {d : Dr}, d ∈ azL s el n az → azR d.az ∧ d.el = el
  | 0, _, _, h => by simp [azL] at h
  | n + 1, az, d, h => by
    rw [azL] at h
    rcases List.mem_cons.1 h with rfl | h
    · exact ⟨nAz_bd _ _, rfl⟩
    · exact azL_mem h
theorem zAz_R {s : Int} : ∀ {n : Nat} {az : Int}, azR az → azR (zAz s n az)
  | 0, _, h => h
  | n + 1, az, _ => zAz_R (n := n) (nAz_bd s az)
theorem elL_mem {s az : Int} : ∀ {n : Nat} {el : Int} {d : Dr}, d ∈ elL s az n el → d.az = az ∧ ∃ k : Nat, k ≤ n ∧ d.el = el + s * k
  | 0, _, _, h => by simp [elL] at h
  | n + 1, el, d, h => by
    rw [elL] at h
    rcases List.mem_cons.1 h with rfl | h
    · exact ⟨rfl, 1, by omega, by simp⟩
    · obtain ⟨h1, k, h2, h3⟩ := elL_mem h
      refine ⟨h1, k + 1, by omega, ?_⟩
      rw [h3, Int.natCast_add, Int.mul_add]; simp; omega
theorem wayL_dr {a b : Dr} (ha : drR a) (hb : drR b) : ∀ d ∈ wayL a b, drR d := by
  intro d hd
  rw [wayL] at hd
  obtain ⟨a1, a2⟩ := ha
  obtain ⟨b1, b2⟩ := hb
  rcases List.mem_cons.1 hd with rfl | hd
  · exact ⟨a1, a2⟩
  · rcases List.mem_append.1 hd with hd | hd
    · obtain ⟨h1, h2⟩ := azL_mem hd
      exact ⟨h1, by rw [h2]; exact a2⟩
    · obtain ⟨h1, k, h2, h3⟩ := elL_mem hd
      refine ⟨by rw [h1]; exact zAz_R a1, ?_⟩
      unfold elR at *
      unfold wN2 at h2
      rw [h3]
      unfold tiltN at h2
      unfold tiltS
      split <;> rename_i hh
      · simp only [hh, if_true] at h2
        omega
      · simp only [hh, if_false] at h2
        omega
theorem azL_len {s el : Int} : ∀ {n : Nat} {az : Int}, (azL s el n az).length = n
  | 0, _ => rfl
  | n + 1, az => by rw [azL, List.length_cons, azL_len]
theorem elL_len {s az : Int} : ∀ {n : Nat} {el : Int}, (elL s az n el).length = n
  | 0, _ => rfl
  | n + 1, el => by rw [elL, List.length_cons, elL_len]
theorem wayL_len {a b : Dr} (ha : drR a) (hb : drR b) : (wayL a b).length ≤ 451 := by
  have h1 := turnN_bd a.az b.az
  have h2 := tiltN_bd ha.2 hb.2
  rw [wayL, List.length_cons, List.length_append, azL_len, elL_len, wN1, wN2]
  omega
theorem l_way (a b : Dr) : LOk P 114 [eDr a, eDr b] [] 0 (.fn 130 [] [.ptr 0 2 0 0, .vp [eDr b] 0 0]) [⟨0, 0, .rows 37 2 [eDr a]⟩] 1 := by
  refine c114.lok (Cor.post (Cor.run (noC_good _) (noHx_good _) hm ?_))
  simp +contextual -implicitDefEqProofs (maxSteps := 2000000) only [bg_eq, a114, FinL, ruB, rh_no, Int.reduceLT, Int.reduceLE, Int.reduceAdd, Int.reduceSub, Int.reduceMul, Int.reduceNeg, Int.reduceToNat, Int.reduceEq, Int.reduceNe, Int.reduceTDiv, Int.reduceTMod, implies_true, putL, appN, appX, appC, Eng.Fi, reduceCtorEq, exists_eq_left', exists_eq_left, if_true, if_false, List.replicate, Nat.reduceAdd, Nat.reduceSub, Nat.reduceMul, Nat.reduceLeDiff, Nat.reduceLT, Nat.reduceEqDiff]
  exact ⟨⟨[.any, .any, .any, .any, .fn 130 [] [.ptr 0 2 0 0, .vp [eDr b] 0 0], .any], [⟨0, 0, .rows 37 2 [eDr a]⟩], 1⟩, (Wkn.to ⟨0, [(0, 0)], [1], 1, [4]⟩ rfl rfl (by simp [Wk.st, keepT, memN, Wk.fate, Wk.fate0, assoc, getE, Wk.hp, ABlk.sub, sub1, subs])), _, rfl, rfl, rfl, rfl⟩
def wayH : List AV → List HEnt → Nat → Option (AV × List HEnt × Nat)
  | [.agg [.int .i64 a1, .int .i64 a2], .agg [.int .i64 b1, .int .i64 b2]], H, nx => some (.fn 130 [] [.ptr nx 2 0 0, .vp [.agg [.int .i64 b1, .int .i64 b2]] 0 0], ⟨nx, nx, .rows 37 2 [.agg [.int .i64 a1, .int .i64 a2]]⟩ :: H, nx + 1)
  | _, _, _ => none
theorem h_way : Hn P 114 wayH := fun args H nx v hp' nx' h => by
  unfold wayH at h
  split at h
  · have h := Option.some.inj h
    simp only [Prod.mk.injEq] at h
    obtain ⟨rfl, rfl, rfl⟩ := h
    exact LOk.lay1 (l_way ⟨_, _⟩ ⟨_, _⟩) rfl rfl rfl
  · cases h
theorem y_way (a1 a2 b1 b2 : Int) (H : List HEnt) (nx : Nat) : wayH [.agg [.int .i64 a1, .int .i64 a2], .agg [.int .i64 b1, .int .i64 b2]] H nx = some (.fn 130 [] [.ptr nx 2 0 0, .vp [.agg [.int .i64 b1, .int .i64 b2]] 0 0], ⟨nx, nx, .rows 37 2 [.agg [.int .i64 a1, .int .i64 a2]]⟩ :: H, nx + 1) := rfl
def litL (h : Hd) (a b : Dr) : Option Dr := (wayL a b).find? (resv h.res)
def litV : Option Dr → AV
  | some d => .tup [eDr d, .bool true]
  | none => .tup [.agg [I 0, I 0], .bool false]
def Sl0 (h : Hd) (a b : Dr) : AState := ⟨[.any, .any, .any, .vp [eHd h] 0 0, .vp [eDr a] 0 0, .vp [eDr b] 0 0, .ptr 0 2 0 0, .ptr 1 1 0 0, .any, .any, .any, .any, .any, .any, .any, .any, .any, .any], [⟨1, 1, .rows 4 1 [.bool false]⟩, ⟨0, 0, .rows 37 2 [.agg [I 0, I 0]]⟩], 2⟩
def Jl : Option Dr → List HEnt
  | none => [⟨1, 1, .rows 4 1 [.bool false]⟩, ⟨0, 0, .rows 37 2 [.agg [I 0, I 0]]⟩]
  | some d => [⟨1, 1, .rows 4 1 [.bool true]⟩, ⟨0, 0, .rows 37 2 [eDr d]⟩]
def stl (h : Hd) (o : Option Dr) : List AV → Option Dr × Jk
  | [.agg [.int .i64 a, .int .i64 e]] => if resv h.res ⟨a, e⟩ = true then (some ⟨a, e⟩, .ret) else (o, .nx)
  | _ => (o, .nx)
theorem foldl_lit (h : Hd) : ∀ (l : List Dr), foldS (stl h) none (l.map eW) = (match l.find? (resv h.res) with
    | some d => (some d, .ret)
    | none => (none, .nx))
  | [] => rfl
  | d :: l => by
    rw [List.map_cons, foldS, List.find?_cons]
    cases hr : resv h.res d with
    | true =>
      have : stl h none (eW d) = (some d, .ret) := by simp only [stl]; exact if_pos hr
      rw [this]; rfl
    | false =>
      have : stl h none (eW d) = (none, .nx) := by simp only [stl]; exact if_neg (by rw [show resv h.res (⟨d.az, d.el⟩ : Dr) = false from hr]; simp)
      rw [this]
      exact foldl_lit h l
theorem k_lit (h : Hd) (a b : Dr) (hk : (h.res.length ≤ 1000 ∧ ∀ s ∈ h.res, seR s) ∧ drR a ∧ drR b) : FOk P 84 [eHd h, eDr a, eDr b] (litV (litL h a b)) := by
  obtain ⟨hr, ha, hb⟩ := hk
  refine c84.fok (y := YH P (addH 114 wayH noHx)) (by simp only [free_Hs, subs, sub1, free_Se]) ?_ (fun G => ?_)
  · rw [bg_eq]
    refine Cor.seq (Cor.run (noC_good _) (noHx_good _) hm ?_)
    simp +contextual -implicitDefEqProofs (maxSteps := 2000000) only [eThen_normal, ruB, rh_no, Int.reduceLT, Int.reduceLE, Int.reduceAdd, Int.reduceSub, Int.reduceMul, Int.reduceNeg, Int.reduceToNat, Int.reduceEq, Int.reduceNe, Int.reduceTDiv, Int.reduceTMod, implies_true, putL, appN, appX, appC, Eng.Fi, reduceCtorEq, exists_eq_left', exists_eq_left, if_true, if_false, List.replicate, Nat.reduceAdd, Nat.reduceSub, Nat.reduceMul, Nat.reduceLeDiff, Nat.reduceLT, Nat.reduceEqDiff]
    refine Cor.wk (s2 := Sl0 h a b) (Wkn.to ⟨0, [(3, 0), (4, 1)], [0, 1, 2], 2, [3, 4, 5, 6, 7]⟩ rfl rfl (by simp [Wk.st, keepT, memN, Wk.fate, Wk.fate0, assoc, getE, Wk.hp, ABlk.sub, sub1, subs, Sl0, free_Se])) ?_
    refine Cor.run (addC_good g_isReserved (noC_good _)) (addH_good h_way (noHx_good _)) hm ?_
    simp +contextual -implicitDefEqProofs (maxSteps := 2000000) only [Sl0, y_way, ruH, ruB, Int.reduceLT, Int.reduceLE, Int.reduceAdd, Int.reduceSub, Int.reduceMul, Int.reduceNeg, Int.reduceToNat, Int.reduceEq, Int.reduceNe, Int.reduceTDiv, Int.reduceTMod, implies_true, putL, appN, appX, appC, Eng.Fi, reduceCtorEq, exists_eq_left', exists_eq_left, if_true, if_false, List.replicate, Nat.reduceAdd, Nat.reduceSub, Nat.reduceMul, Nat.reduceLeDiff, Nat.reduceLT, Nat.reduceEqDiff]
    have hjl : ∀ a b, Jl a = Jl b → a = b := by
      intro a b hab
      cases a with
      | none => cases b with
        | none => rfl
        | some d => simp [Jl] at hab
      | some c => cases b with
        | none => simp [Jl] at hab
        | some d =>
          cases c; cases d
          simp only [Jl, List.cons.injEq, HEnt.mk.injEq, ABlk.rows.injEq, AV.agg.injEq, AV.int.injEq, true_and, and_true] at hab
          rw [hab.1, hab.2]
    have hfl : ∀ o, ∀ e ∈ Jl o, e.grp ≠ 3 := by
      intro o e he
      cases o <;> (simp only [Jl, List.mem_cons, List.not_mem_nil, or_false] at he; rcases he with rfl | rfl <;> simp)
    have hdj : ∀ o, Dj (wO 2 a b) (Jl o) := by
      intro o j e he e' he'
      simp only [wO, List.mem_singleton] at he
      subst he
      cases o <;> (simp only [Jl, List.mem_cons, List.not_mem_nil, or_false] at he'; rcases he' with rfl | rfl <;> simp)
    refine Cor.rangeO (addC_good g_isReserved (noC_good _)) (addH_good h_way (noHx_good _)) hm (fun _ _ _ _ => rfl) (wO 2 a b) Jl (fun j _ => j + 4) (fun j _ => j + 4) ((wayL a b).length + 4) (stl h) (fun _ o => o = none) (x0 := none) rfl (sqW a b 2 ha hb) ?_ (fun _ _ => rfl) ?_ hdj rfl (fun _ _ => rfl) ?_ rfl hjl (fun _ _ _ _ _ _ _ hn => hn) hfl rfl rfl ?_ ?_ ?_ ?_
    · intro e he; exact he
    · intro j e he
      simp only [wO, List.mem_singleton] at he
      subst he; simp
    · intro j o hj
      rw [List.length_map] at hj
      show j + 4 ≤ _
      omega
    · intro v hv
      obtain ⟨p, _, rfl⟩ := List.mem_map.1 hv
      rfl
    · intro j v o _ ho hnx
      subst ho
      unfold stl at hnx ⊢
      split at hnx
      · split at hnx
        · cases hnx
        · rename_i hc; simp only [hc]; rfl
      · rfl
    · intro j v o hj ho oR oB f go
      subst ho
      obtain ⟨d, hd, rfl⟩ := List.mem_map.1 (List.mem_of_getElem? hj)
      have hdr := wayL_dr ha hb d hd
      have y := x_isReserved h d (by simp only [eq_iff_iff, iff_true]; exact ⟨hr, hdr⟩)
      cases hv : resv h.res d with
      | true =>
        have hs : stl h none (eW d) = (some d, .ret) := by simp only [stl]; exact if_pos hv
        simp only [hs] at go
        rw [hv] at y
        simp +contextual -implicitDefEqProofs (maxSteps := 2000000) only [wO, Jl, y, eW, ruH, ruB, Int.reduceLT, Int.reduceLE, Int.reduceAdd, Int.reduceSub, Int.reduceMul, Int.reduceNeg, Int.reduceToNat, Int.reduceEq, Int.reduceNe, Int.reduceTDiv, Int.reduceTMod, implies_true, putL, appN, appX, appC, Eng.Fi, reduceCtorEq, exists_eq_left', exists_eq_left, if_true, if_false, List.replicate, Nat.reduceAdd, Nat.reduceSub, Nat.reduceMul, Nat.reduceLeDiff, Nat.reduceLT, Nat.reduceEqDiff]
        refine go _ [.any, .any, .any, .any, .any, .any, .any, .any, .any, .any, .any, .any, .any, .any, .any, .any, .any, .any] (Wkn.to ⟨j + 4, [], [], j + 4, []⟩ rfl ?_ ?_)
        · simp [Wk.ok, idg, Wk.isK, Wk.isF, nodupN, memN, assoc]
        simp [Wk.st, keepT, memN, Wk.fate, Wk.fate0, assoc, getE, Wk.hp, ABlk.sub, sub1, subs, wO, Jl]
      | false =>
        have hs : stl h none (eW d) = (none, .nx) := by simp only [stl]; exact if_neg (by rw [show resv h.res (⟨d.az, d.el⟩ : Dr) = false from hv]; simp)
        simp only [hs] at go
        rw [hv] at y
        simp +contextual -implicitDefEqProofs (maxSteps := 2000000) only [wO, Jl, y, eW, ruH, ruB, Int.reduceLT, Int.reduceLE, Int.reduceAdd, Int.reduceSub, Int.reduceMul, Int.reduceNeg, Int.reduceToNat, Int.reduceEq, Int.reduceNe, Int.reduceTDiv, Int.reduceTMod, implies_true, putL, appN, appX, appC, Eng.Fi, reduceCtorEq, exists_eq_left', exists_eq_left, if_true, if_false, List.replicate, Nat.reduceAdd, Nat.reduceSub, Nat.reduceMul, Nat.reduceLeDiff, Nat.reduceLT, Nat.reduceEqDiff]
        refine go _ [.any, .any, .any, .any, .any, .any, .any, .any, .any, .any, .any, .any, .any, .any, .any, .any, .any, .any] (Wkn.to ⟨j + 4, [], [], j + 4, []⟩ rfl ?_ ?_)
        · simp [Wk.ok, idg, Wk.isK, Wk.isF, nodupN, memN, assoc]
        simp [Wk.st, keepT, memN, Wk.fate, Wk.fate0, assoc, getE, Wk.hp, ABlk.sub, sub1, subs, wO, Jl]
    · rw [foldl_lit]
      show R P _ _ 0 _ _ _ _
      rw [litL]
      cases (wayL a b).find? (resv h.res) with
      | none => simp +contextual -implicitDefEqProofs (maxSteps := 2000000) only [Jl, litV, ruH, ruB, Int.reduceLT, Int.reduceLE, Int.reduceAdd, Int.reduceSub, Int.reduceMul, Int.reduceNeg, Int.reduceToNat, Int.reduceEq, Int.reduceNe, Int.reduceTDiv, Int.reduceTMod, implies_true, putL, appN, appX, appC, Eng.Fi, reduceCtorEq, exists_eq_left', exists_eq_left, if_true, if_false, List.replicate, Nat.reduceAdd, Nat.reduceSub, Nat.reduceMul, Nat.reduceLeDiff, Nat.reduceLT, Nat.reduceEqDiff]
      | some d =>
        show R P _ _ 0 .ret _ _ _
        simp +contextual -implicitDefEqProofs (maxSteps := 2000000) only [Jl, litV, ruH, ruB, Int.reduceLT, Int.reduceLE, Int.reduceAdd, Int.reduceSub, Int.reduceMul, Int.reduceNeg, Int.reduceToNat, Int.reduceEq, Int.reduceNe, Int.reduceTDiv, Int.reduceTMod, implies_true, putL, appN, appX, appC, Eng.Fi, reduceCtorEq, exists_eq_left', exists_eq_left, if_true, if_false, List.replicate, Nat.reduceAdd, Nat.reduceSub, Nat.reduceMul, Nat.reduceLeDiff, Nat.reduceLT, Nat.reduceEqDiff]
  · intro t vals hp nx v hp' nx' hv; cases hv
def liB (h : Hd) (a b : Dr) : Prop := (h.res.length ≤ 1000 ∧ ∀ s ∈ h.res, seR s) ∧ drR a ∧ drR b
instance (h : Hd) (a b : Dr) : Decidable (liB h a b) := by unfold liB; infer_instance
def cf_lit : List AV → Option AV
  | [h_v, .agg [.int .i64 a_az, .int .i64 a_el], .agg [.int .i64 b_az, .int .i64 b_el]] => onH h_v fun h => if liB h (⟨a_az, a_el⟩ : Dr) (⟨b_az, b_el⟩ : Dr) then some (litV (litL h (⟨a_az, a_el⟩ : Dr) (⟨b_az, b_el⟩ : Dr))) else none
  | _ => none
theorem g_lit : Fn P 84 cf_lit := fun args v hh => by
  unfold cf_lit at hh; split at hh
  · obtain ⟨h, rfl, hh1⟩ := onH_inv hh
    split at hh1
    · rename_i hc; have hk := Option.some.inj hh1; subst hk; exact k_lit _ ⟨_, _⟩ ⟨_, _⟩ hc
    · cases hh1
  · cases hh
theorem x_lit (h : Hd) (a : Dr) (b : Dr) (hc : (liB h a b) = True) : cf_lit [eHd h, .agg [I a.az, I a.el], .agg [I b.az, I b.el]] = some (litV (litL h a b)) := by
  simp only [cf_lit, onH_e]
  exact if_pos (by rw [hc]; trivial)
end Sc
