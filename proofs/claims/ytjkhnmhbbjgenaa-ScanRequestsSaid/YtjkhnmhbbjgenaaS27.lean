import Derived.Test.YtjkhnmhbbjgenaaEngS9
import Derived.Test.YtjkhnmhbbjgenaaS25
open Go Go.Proofs Eng
set_option maxRecDepth 100000
set_option linter.unusedSimpArgs false
set_option linter.unusedVariables false
def a16 : AC := .seq (.ops false [] [⟨some 2, .p (.mov), [.c (.bool false)], none⟩]) (.seq (.ops false [] [⟨some 6, .p (.mov), [.t 0], none⟩, ⟨some 7, .call 75, [.t 6, .c (.int .i64 0)], none⟩, ⟨some 5, .p (.mov), [.t 7], none⟩, ⟨some 8, .p (.ext 0), [.t 5], none⟩, ⟨some 9, .p (.ext 1), [.t 5], none⟩, ⟨some 3, .p (.mov), [.t 8], none⟩, ⟨some 4, .p (.mov), [.t 9], none⟩]) (.seq (.ops false [] [⟨some 10, .p (.mov), [.t 4], none⟩, ⟨some 11, .p (.mov), [.t 10], none⟩, ⟨some 12, .p (.mov), [.t 3], some (11, true)⟩, ⟨some 13, .p (.binI .leq), [.t 12, .c (.int .i64 60)], some (11, true)⟩, ⟨some 14, .p (.pick), [.t 11, .t 13, .c (.bool false)], none⟩, ⟨some 2, .p (.mov), [.t 14], none⟩]) (.ret)))
theorem c16 : FnC Try.prog 16 15 a16 [.tmp 2] := ⟨Try.call16, _, _, Try.func16, rfl, by kernel_rfl, by kernel_rfl, rfl⟩
def a18 : AC := .seq (.ops false [] [⟨some 2, .p (.mov), [.c (.nilslice)], none⟩]) (.seq (.ops false [] [⟨some 3, .p (.mov), [.c (.nilslice)], none⟩]) (.seq (.seq (.ops false [] [⟨some 4, .p (.mov), [.c (.int .i64 0)], none⟩]) (.block 0 (.loop (.seq (.seq (.ops false [] [⟨some 6, .p (.mov), [.t 4], none⟩, ⟨some 7, .p (.mov), [.t 0], none⟩, ⟨some 8, .p (.lenS), [.t 7], none⟩, ⟨some 9, .p (.binI .lss), [.t 6, .t 8], none⟩]) (.cond (.t 9) (.skip) (.exit 0))) (.seq (.block 1 (.seq (.ops false [] [⟨some 12, .p (.mov), [.t 0], none⟩, ⟨some 13, .p (.mov), [.t 4], none⟩, ⟨some 14, .p (.iaddrS 8), [.t 12, .t 13], none⟩, ⟨some 15, .load 8 true, [.t 14], none⟩, ⟨some 5, .alloc 73 8 [.agg [.int .i64 0, .int .i64 0, .int .i64 0, .int .i64 0, .int .i64 0, .int .i64 0, .int .i64 0, .nilslice]], [], none⟩, ⟨none, .store 8 true, [.t 5, .t 15], none⟩]) (.seq (.ops false [] [⟨some 16, .p (.faddr 7), [.t 5], none⟩, ⟨some 17, .load 1 false, [.t 16], none⟩, ⟨some 18, .call 18, [.t 17], none⟩, ⟨some 19, .p (.faddr 7), [.t 5], none⟩, ⟨none, .store 1 false, [.t 19, .t 18], none⟩]) (.ops false [] [⟨some 20, .p (.mov), [.t 3], none⟩, ⟨some 21, .load 8 true, [.t 5], none⟩, ⟨some 22, .fbs 8, [.t 21], none⟩, ⟨some 23, .app 73 8 80, [.t 20, .t 22], none⟩, ⟨some 3, .p (.mov), [.t 23], none⟩])))) (.ops false [] [⟨some 10, .p (.mov), [.t 4], none⟩, ⟨some 11, .p (.binI .add), [.t 10, .c (.int .i64 1)], none⟩, ⟨some 4, .p (.mov), [.t 11], none⟩])))))) (.seq (.ops false [] [⟨some 24, .p (.mov), [.t 3], none⟩, ⟨some 2, .p (.mov), [.t 24], none⟩]) (.ret))))
theorem c18 : FnC Try.prog 18 25 a18 [.tmp 2] := ⟨Try.call18, _, _, Try.func18, rfl, by kernel_rfl, by kernel_rfl, rfl⟩
def a75 : AC := .seq (.ops false [] [⟨some 4, .p (.mov), [.c (.int .i64 0)], none⟩, ⟨some 5, .p (.mov), [.c (.bool false)], none⟩]) (.seq (.seq (.ops false [] [⟨some 10, .p (.mov), [.t 0], none⟩, ⟨some 11, .p (.lenS), [.t 10], none⟩, ⟨some 12, .p (.binI .gtr), [.t 11, .c (.int .i64 12)], none⟩, ⟨some 13, .p (.mov), [.t 12], none⟩, ⟨some 14, .p (.mov), [.t 1], some (13, false)⟩, ⟨some 15, .p (.binI .gtr), [.t 14, .c (.int .i64 4)], some (13, false)⟩, ⟨some 16, .p (.pick), [.t 13, .c (.bool true), .t 15], none⟩]) (.cond (.t 16) (.seq (.ops false [] [⟨some 4, .p (.mov), [.c (.int .i64 0)], none⟩, ⟨some 5, .p (.mov), [.c (.bool false)], none⟩]) (.ret)) (.skip))) (.seq (.ops false [] [⟨some 17, .p (.mov), [.t 0], none⟩, ⟨some 18, .p (.lenS), [.t 17], none⟩, ⟨some 6, .p (.mov), [.t 18], none⟩]) (.seq (.seq (.ops false [] [⟨some 7, .p (.mov), [.c (.int .i64 0)], none⟩]) (.block 0 (.loop (.seq (.seq (.ops false [] [⟨some 19, .p (.mov), [.t 7], none⟩, ⟨some 20, .p (.mov), [.t 0], none⟩, ⟨some 21, .p (.lenS), [.t 20], none⟩, ⟨some 22, .p (.binI .lss), [.t 19, .t 21], none⟩]) (.cond (.t 22) (.skip) (.exit 0))) (.seq (.block 1 (.seq (.ops false [] [⟨some 26, .p (.mov), [.t 0], none⟩, ⟨some 27, .p (.mov), [.t 7], none⟩, ⟨some 28, .p (.iaddrS 8), [.t 26, .t 27], none⟩, ⟨some 29, .p (.faddr 7), [.t 28], none⟩, ⟨some 30, .load 1 false, [.t 29], none⟩, ⟨some 31, .p (.mov), [.t 1], none⟩, ⟨some 32, .p (.binI .add), [.t 31, .c (.int .i64 1)], none⟩, ⟨some 33, .call 75, [.t 30, .t 32], none⟩, ⟨some 25, .p (.mov), [.t 33], none⟩, ⟨some 34, .p (.ext 0), [.t 25], none⟩, ⟨some 35, .p (.ext 1), [.t 25], none⟩, ⟨some 8, .p (.mov), [.t 34], none⟩, ⟨some 9, .p (.mov), [.t 35], none⟩]) (.seq (.seq (.ops false [] [⟨some 36, .p (.mov), [.t 9], none⟩, ⟨some 37, .p (.notB), [.t 36], none⟩]) (.cond (.t 37) (.seq (.ops false [] [⟨some 4, .p (.mov), [.c (.int .i64 0)], none⟩, ⟨some 5, .p (.mov), [.c (.bool false)], none⟩]) (.ret)) (.skip))) (.ops false [] [⟨some 38, .p (.mov), [.t 6], none⟩, ⟨some 39, .p (.mov), [.t 8], none⟩, ⟨some 40, .p (.binI .add), [.t 38, .t 39], none⟩, ⟨some 6, .p (.mov), [.t 40], none⟩])))) (.ops false [] [⟨some 23, .p (.mov), [.t 7], none⟩, ⟨some 24, .p (.binI .add), [.t 23, .c (.int .i64 1)], none⟩, ⟨some 7, .p (.mov), [.t 24], none⟩])))))) (.seq (.ops false [] [⟨some 41, .p (.mov), [.t 6], none⟩, ⟨some 4, .p (.mov), [.t 41], none⟩, ⟨some 5, .p (.mov), [.c (.bool true)], none⟩]) (.ret)))))
theorem c75 : FnC Try.prog 75 42 a75 [.tmp 4, .tmp 5] := ⟨Try.call75, _, _, Try.func75, rfl, by kernel_rfl, by kernel_rfl, rfl⟩
namespace Sc
def wsum (g : Sps → Option Nat) : Nat → Sps → Option Nat
  | n, [] => some n
  | n, s :: r => match g s.body with
    | some k => wsum g (n + k) r
    | none => none
/-- all steps; lists may be f deep -/
def wgh : Nat → Sps → Option Nat
  | 0, _ => none
  | f + 1, l => if l.length ≤ 12 then wsum (wgh f) l.length l else none
def wB : Nat → Nat
  | 0 => 0
  | f + 1 => 12 + 12 * wB f
theorem wsum_le {g : Sps → Option Nat} {B : Nat} (hg : ∀ l k, g l = some k → k ≤ B) : ∀ {l : Sps} {n m : Nat}, wsum g n l = some m → n ≤ m ∧ m ≤ n + l.length * B
  | [], n, m, h => by simp only [wsum, Option.some.injEq] at h; subst h; simp
  | s :: r, n, m, h => by
    rw [wsum] at h
    split at h
    · rename_i k hk
      have h1 := hg _ _ hk
      have h2 := wsum_le hg (l := r) h
      rw [List.length_cons, Nat.add_mul]; omega
    · cases h
theorem wgh_le : ∀ {f : Nat} {l : Sps} {k : Nat}, wgh f l = some k → k ≤ wB f
  | 0, l, k, h => by cases h
  | f + 1, l, k, h => by
    rw [wgh] at h
    split at h
    · rename_i h12
      have := (wsum_le (fun l k h => wgh_le h) h).2
      have h2 : l.length * wB f ≤ 12 * wB f := Nat.mul_le_mul_right _ h12
      rw [wB]; omega
    · cases h
theorem wB_le : ∀ {f : Nat}, f ≤ 5 → wB f ≤ 1000000 := by decide
def wV : Option Nat → AV
  | some n => .tup [I n, .bool true]
  | none => .tup [I 0, .bool false]
noncomputable def cf_weigh (f : Nat) : List AV → Option AV
  | [v, .int .i64 d] => if d + f = 5 then onSps v fun l => some (wV (wgh f l)) else none
  | _ => none
theorem x_weigh (f : Nat) (l : Sps) (d : Int) (h : (d + f = 5) = True) : cf_weigh f [.vs (eSps l), .int .i64 d] = some (wV (wgh f l)) := by
  simp only [cf_weigh, h, if_true]
  exact onSps_e l _
def S75 (l : Sps) (d : Int) (p : Nat × Nat) : AState := ⟨[.vs (eSps l), I d, .any, .any, .any, .any, I p.2, I p.1, .any, .any, .any, .any, .any, .any, .any, .any, .any, .any, .any, .any, .any, .any, .any, .any, .any, .any, .any, .any, .any, .any, .any, .any, .any, .any, .any, .any, .any, .any, .any, .any, .any, .any], [], 0⟩
theorem k_weigh (f : Nat) (hf5 : f + 1 ≤ 5) (g : Fn P 75 (cf_weigh f)) (l : Sps) : FOk P 75 [.vs (eSps l), I (4 - f)] (wV (wgh (f + 1) l)) := by
  have d4 : (4 < 4 - (f : Int)) = False := by simp only [eq_iff_iff, iff_false]; omega
  have hb := wB_le (f := f + 1) hf5
  have hb' : wB (f + 1) = 12 + 12 * wB f := rfl
  by_cases h12 : l.length ≤ 12
  · have h12' : (12 < (l.length : Int)) = False := by simp only [eq_iff_iff, iff_false]; omega
    have w1 : IntKind.wrap .i64 (4 - (f : Int) + 1) = 4 - (f : Int) + 1 := wrap64 (by omega) (by omega)
    rw [wgh, if_pos h12]
    refine c75.fok (by simp only [subs, sub1, free_Sps]) (Cor.run (addC_good g (noC_good _)) (noHx_good _) hm ?_)
    simp +contextual -implicitDefEqProofs (maxSteps := 2000000) only [bg_eq, a75, eSps_len, h12', d4, ruB, rh_no, Int.reduceLT, Int.reduceLE, Int.reduceAdd, Int.reduceSub, Int.reduceMul, Int.reduceNeg, Int.reduceToNat, Int.reduceEq, Int.reduceNe, Int.reduceTDiv, Int.reduceTMod, implies_true, putL, appN, appX, appC, Eng.Fi, reduceCtorEq, exists_eq_left', exists_eq_left, if_true, if_false, List.replicate, Nat.reduceAdd, Nat.reduceSub, Nat.reduceMul, Nat.reduceLeDiff, Nat.reduceLT, Nat.reduceEqDiff]
    refine Cor.lp (addC_good g (noC_good _)) (noHx_good _) hm (S75 l (4 - f)) (fun p => (p.1 ≤ l.length ∧ p.2 ≤ l.length + p.1 * wB f) ∧ wsum (wgh f) l.length l = wsum (wgh f) p.2 (l.drop p.1)) (fun p => l.length - p.1) (a := (0, l.length)) ⟨⟨Nat.zero_le _, by simp⟩, rfl⟩ (Wkn.keep [0, 1, 6, 7] rfl) ?_
    rintro q ⟨i, n⟩ ⟨⟨hi, hn⟩, hf⟩ go
    simp only at hi hn hf
    rcases Nat.lt_or_ge i l.length with h | h
    · have e1 : decide ((i : Int) < (l.length : Int)) = true := lt_t h
      have e2 := eSps_get l h
      have e3 : IntKind.wrap .i64 ((i : Int) + 1) = ((i + 1 : Nat) : Int) := suc_w (by omega)
      rw [List.drop_eq_getElem_cons h, wsum] at hf
      generalize l[i] = s at *
      have y := x_weigh f s.body (4 - (f : Int) + 1) (by simp only [eq_iff_iff, iff_true]; omega)
      obtain ⟨k, ⟨az, el⟩, x2, x3, x4, x5, b⟩ := s
      simp only [eSp, Sp.body] at e2 y hf
      have hi12 : (i + 1) * wB f ≤ 12 * wB f := Nat.mul_le_mul_right _ (by omega)
      have hi13 : (i + 1) * wB f = i * wB f + wB f := by rw [Nat.add_mul, Nat.one_mul]
      cases hk : wgh f b with
      | none =>
        rw [hk] at hf y
        simp only at hf
        simp only [wV] at y
        rw [hf]
        simp +contextual -implicitDefEqProofs (maxSteps := 2000000) only [S75, e1, e2, e3, eSps_len, w1, y, wV, ruB, rh_no, Int.reduceLT, Int.reduceLE, Int.reduceAdd, Int.reduceSub, Int.reduceMul, Int.reduceNeg, Int.reduceToNat, Int.reduceEq, Int.reduceNe, Int.reduceTDiv, Int.reduceTMod, implies_true, putL, appN, appX, appC, Eng.Fi, reduceCtorEq, exists_eq_left', exists_eq_left, if_true, if_false, List.replicate, Nat.reduceAdd, Nat.reduceSub, Nat.reduceMul, Nat.reduceLeDiff, Nat.reduceLT, Nat.reduceEqDiff]
      | some m =>
        rw [hk] at hf y
        simp only at hf
        simp only [wV] at y
        have hm1 := wgh_le hk
        have w2 : IntKind.wrap .i64 ((n : Int) + (m : Int)) = ((n + m : Nat) : Int) := by rw [wrap64 (by omega) (by omega)]; omega
        simp +contextual -implicitDefEqProofs (maxSteps := 2000000) only [S75, e1, e2, e3, eSps_len, w1, w2, y, ruB, rh_no, Int.reduceLT, Int.reduceLE, Int.reduceAdd, Int.reduceSub, Int.reduceMul, Int.reduceNeg, Int.reduceToNat, Int.reduceEq, Int.reduceNe, Int.reduceTDiv, Int.reduceTMod, implies_true, putL, appN, appX, appC, Eng.Fi, reduceCtorEq, exists_eq_left', exists_eq_left, if_true, if_false, List.replicate, Nat.reduceAdd, Nat.reduceSub, Nat.reduceMul, Nat.reduceLeDiff, Nat.reduceLT, Nat.reduceEqDiff]
        exact go _ (i + 1, n + m) ⟨⟨h, by simp only; omega⟩, hf⟩ (by simp only; omega) (Wkn.keep [0, 1, 6, 7] rfl)
    · have e1 : decide ((i : Int) < (l.length : Int)) = false := lt_f h
      rw [List.drop_eq_nil_of_le h, wsum] at hf
      rw [hf]
      simp +contextual -implicitDefEqProofs (maxSteps := 2000000) only [S75, e1, eSps_len, wV, ruB, rh_no, Int.reduceLT, Int.reduceLE, Int.reduceAdd, Int.reduceSub, Int.reduceMul, Int.reduceNeg, Int.reduceToNat, Int.reduceEq, Int.reduceNe, Int.reduceTDiv, Int.reduceTMod, implies_true, putL, appN, appX, appC, Eng.Fi, reduceCtorEq, exists_eq_left', exists_eq_left, if_true, if_false, List.replicate, Nat.reduceAdd, Nat.reduceSub, Nat.reduceMul, Nat.reduceLeDiff, Nat.reduceLT, Nat.reduceEqDiff]
  · have h12' : (12 < (l.length : Int)) = True := by simp only [eq_iff_iff, iff_true]; omega
    rw [wgh, if_neg h12]
    refine c75.fok (by simp only [subs, sub1, free_Sps]) (Cor.run (addC_good g (noC_good _)) (noHx_good _) hm ?_)
    simp +contextual -implicitDefEqProofs (maxSteps := 2000000) only [bg_eq, a75, eSps_len, h12', d4, wV, ruB, rh_no, Int.reduceLT, Int.reduceLE, Int.reduceAdd, Int.reduceSub, Int.reduceMul, Int.reduceNeg, Int.reduceToNat, Int.reduceEq, Int.reduceNe, Int.reduceTDiv, Int.reduceTMod, implies_true, putL, appN, appX, appC, Eng.Fi, reduceCtorEq, exists_eq_left', exists_eq_left, if_true, if_false, List.replicate, Nat.reduceAdd, Nat.reduceSub, Nat.reduceMul, Nat.reduceLeDiff, Nat.reduceLT, Nat.reduceEqDiff]
theorem k_weigh0 (l : Sps) : FOk P 75 [.vs (eSps l), I 5] (wV (wgh 0 l)) := by
  rw [wgh]
  by_cases h12 : 12 < (l.length : Int)
  · refine c75.fok (by simp only [subs, sub1, free_Sps]) (Cor.run (noC_good _) (noHx_good _) hm ?_)
    simp +contextual -implicitDefEqProofs (maxSteps := 2000000) only [bg_eq, a75, eSps_len, h12, wV, ruB, rh_no, Int.reduceLT, Int.reduceLE, Int.reduceAdd, Int.reduceSub, Int.reduceMul, Int.reduceNeg, Int.reduceToNat, Int.reduceEq, Int.reduceNe, Int.reduceTDiv, Int.reduceTMod, implies_true, putL, appN, appX, appC, Eng.Fi, reduceCtorEq, exists_eq_left', exists_eq_left, if_true, if_false, List.replicate, Nat.reduceAdd, Nat.reduceSub, Nat.reduceMul, Nat.reduceLeDiff, Nat.reduceLT, Nat.reduceEqDiff]
  · refine c75.fok (by simp only [subs, sub1, free_Sps]) (Cor.run (noC_good _) (noHx_good _) hm ?_)
    simp +contextual -implicitDefEqProofs (maxSteps := 2000000) only [bg_eq, a75, eSps_len, h12, wV, ruB, rh_no, Int.reduceLT, Int.reduceLE, Int.reduceAdd, Int.reduceSub, Int.reduceMul, Int.reduceNeg, Int.reduceToNat, Int.reduceEq, Int.reduceNe, Int.reduceTDiv, Int.reduceTMod, implies_true, putL, appN, appX, appC, Eng.Fi, reduceCtorEq, exists_eq_left', exists_eq_left, if_true, if_false, List.replicate, Nat.reduceAdd, Nat.reduceSub, Nat.reduceMul, Nat.reduceLeDiff, Nat.reduceLT, Nat.reduceEqDiff]
theorem g_weigh : ∀ (f : Nat), f ≤ 5 → Fn P 75 (cf_weigh f)
  | 0, _ => fun args v h => by
    unfold cf_weigh at h; split at h
    · split at h
      · rename_i d hd
        obtain ⟨l, rfl, h2⟩ := onSps_inv h
        cases h2
        obtain rfl : d = 5 := by omega
        exact k_weigh0 l
      · cases h
    · cases h
  | f + 1, hf => fun args v h => by
    have g := g_weigh f (by omega)
    unfold cf_weigh at h; split at h
    · split at h
      · rename_i d hd
        obtain ⟨l, rfl, h2⟩ := onSps_inv h
        cases h2
        obtain rfl : d = 4 - f := by omega
        exact k_weigh f hf g l
      · cases h
    · cases h
def fewB (l : Sps) : Bool := match wgh 5 l with
  | some n => decide ((n : Int) ≤ 60)
  | none => false
theorem k_Few (l : Sps) : FOk P 16 [.vs (eSps l)] (.bool (fewB l)) := by
  have y := x_weigh 5 l 0 (by simp)
  unfold fewB
  cases hk : wgh 5 l with
  | none =>
    rw [hk] at y; simp only [wV] at y
    refine c16.fok (by simp only [subs, sub1, free_Sps]) (Cor.run (addC_good (g_weigh 5 (by decide)) (noC_good _)) (noHx_good _) hm ?_)
    simp +contextual -implicitDefEqProofs (maxSteps := 2000000) only [bg_eq, a16, y, ruB, rh_no, Int.reduceLT, Int.reduceLE, Int.reduceAdd, Int.reduceSub, Int.reduceMul, Int.reduceNeg, Int.reduceToNat, Int.reduceEq, Int.reduceNe, Int.reduceTDiv, Int.reduceTMod, implies_true, putL, appN, appX, appC, Eng.Fi, reduceCtorEq, exists_eq_left', exists_eq_left, if_true, if_false, List.replicate, Nat.reduceAdd, Nat.reduceSub, Nat.reduceMul, Nat.reduceLeDiff, Nat.reduceLT, Nat.reduceEqDiff]
  | some n =>
    rw [hk] at y; simp only [wV] at y
    refine c16.fok (by simp only [subs, sub1, free_Sps]) (Cor.run (addC_good (g_weigh 5 (by decide)) (noC_good _)) (noHx_good _) hm ?_)
    simp +contextual -implicitDefEqProofs (maxSteps := 2000000) only [bg_eq, a16, y, ruB, rh_no, Int.reduceLT, Int.reduceLE, Int.reduceAdd, Int.reduceSub, Int.reduceMul, Int.reduceNeg, Int.reduceToNat, Int.reduceEq, Int.reduceNe, Int.reduceTDiv, Int.reduceTMod, implies_true, putL, appN, appX, appC, Eng.Fi, reduceCtorEq, exists_eq_left', exists_eq_left, if_true, if_false, List.replicate, Nat.reduceAdd, Nat.reduceSub, Nat.reduceMul, Nat.reduceLeDiff, Nat.reduceLT, Nat.reduceEqDiff]
noncomputable def cf_Few : List AV → Option AV
  | [l_v] => onSps l_v fun l => some (.bool (fewB l))
  | _ => none
theorem g_Few : Fn P 16 cf_Few := fun args v hh => by
  unfold cf_Few at hh; split at hh
  · obtain ⟨l, rfl, hh1⟩ := onSps_inv hh
    have hk := Option.some.inj hh1; subst hk; exact k_Few _
  · cases hh
theorem x_Few (l : Sps) : cf_Few [eVs l] = some (.bool (fewB l)) := by
  simp only [cf_Few, onSps_e]
theorem eSps_app : ∀ (a b : Sps), eSps (a ++ b) = eSps a ++ eSps b
  | [], b => rfl
  | s :: a, b => by rw [List.cons_append, eSps, eSps, eSps_app a b]; rfl
theorem wsum_mem {g : Sps → Option Nat} : ∀ {l : Sps} {n : Nat}, (wsum g n l).isSome = true → ∀ s ∈ l, (g s.body).isSome = true
  | [], _, _, s, hs => by simp at hs
  | x :: l, n, h, s, hs => by
    rw [wsum] at h
    split at h
    · rename_i k hk
      rcases List.mem_cons.1 hs with rfl | hs
      · rw [hk]; rfl
      · exact wsum_mem h s hs
    · cases h
theorem wgh_mem {f : Nat} {l : Sps} (h : (wgh (f + 1) l).isSome = true) : l.length ≤ 12 ∧ ∀ s ∈ l, (wgh f s.body).isSome = true := by
  rw [wgh] at h
  split at h
  · rename_i h12; exact ⟨h12, wsum_mem h⟩
  · cases h
noncomputable def cf_Copy (f : Nat) : List AV → Option AV
  | [v] => onSps v fun l => if (wgh f l).isSome = true then some (.vs (eSps l)) else none
  | _ => none
theorem x_Copy (f : Nat) (l : Sps) (h : (wgh f l).isSome = true) : cf_Copy f [.vs (eSps l)] = some (.vs (eSps l)) := by
  simp only [cf_Copy]
  exact (onSps_e l _).trans (if_pos h)
def S18 (l : Sps) (p : Nat × List AV) : AState := match p.2 with
  | [] => ⟨[.vs (eSps l), .any, .any, .nilslice, I p.1, .any, .any, .any, .any, .any, .any, .any, .any, .any, .any, .any, .any, .any, .any, .any, .any, .any, .any, .any, .any], [], 1⟩
  | v :: r => ⟨[.vs (eSps l), .any, .any, .slice 0 8 0 (r.length + 1), I p.1, .any, .any, .any, .any, .any, .any, .any, .any, .any, .any, .any, .any, .any, .any, .any, .any, .any, .any, .any, .any], [⟨0, 0, .rows 73 8 (v :: r)⟩], 1⟩
theorem subs_append (φ : Nat → Fate) : ∀ (a b : List AV), subs φ (a ++ b) = subs φ a ++ subs φ b
  | [], b => rfl
  | v :: a, b => by rw [List.cons_append, subs, subs, subs_append φ a b]; rfl
theorem k_Copy (f : Nat) (g : Fn P 18 (cf_Copy f)) (l : Sps) (h : (wgh (f + 1) l).isSome = true) : FOk P 18 [.vs (eSps l)] (.vs (eSps l)) := by
  obtain ⟨h12, hs⟩ := wgh_mem h
  refine c18.fok (by simp only [subs, sub1, free_Sps]) (Cor.run (addC_good g (noC_good _)) (noHx_good _) hm ?_)
  simp +contextual -implicitDefEqProofs (maxSteps := 2000000) only [bg_eq, a18, eSps_len, ruB, rh_no, Int.reduceLT, Int.reduceLE, Int.reduceAdd, Int.reduceSub, Int.reduceMul, Int.reduceNeg, Int.reduceToNat, Int.reduceEq, Int.reduceNe, Int.reduceTDiv, Int.reduceTMod, implies_true, putL, appN, appX, appC, Eng.Fi, reduceCtorEq, exists_eq_left', exists_eq_left, if_true, if_false, List.replicate, Nat.reduceAdd, Nat.reduceSub, Nat.reduceMul, Nat.reduceLeDiff, Nat.reduceLT, Nat.reduceEqDiff]
  refine Cor.lp (addC_good g (noC_good _)) (noHx_good _) hm (S18 l) (fun p => p.1 ≤ l.length ∧ p.2 = eSps (l.take p.1)) (fun p => l.length - p.1) (a := (0, [])) ⟨Nat.zero_le _, rfl⟩ (Wkn.to ⟨0, [], [], 1, [0, 3, 4]⟩ rfl rfl (by simp [Wk.st, keepT, memN, Wk.fate, Wk.fate0, assoc, getE, Wk.hp, ABlk.sub, sub1, subs, S18, free_Sps])) ?_
  rintro q ⟨i, o⟩ ⟨hi, ho⟩ go
  simp only at hi ho
  have hol : o.length = i := by rw [ho, eSps_len, List.length_take]; omega
  have hof : ∀ φ, subs φ o = o := fun φ => by rw [ho]; exact free_Sps φ _
  rcases Nat.lt_or_ge i l.length with hlt | hlt
  · have e1 : decide ((i : Int) < (l.length : Int)) = true := lt_t hlt
    have e2 := eSps_get l hlt
    have e3 : IntKind.wrap .i64 ((i : Int) + 1) = ((i + 1 : Nat) : Int) := suc_w (by omega)
    have hb := hs l[i] (by simp)
    have htk : l.take (i + 1) = l.take i ++ [l[i]] := List.take_succ_eq_append_getElem hlt
    have ho2 : o ++ [eSp l[i]] = eSps (l.take (i + 1)) := by rw [htk, eSps_app, ho]; rfl
    generalize l[i] = s at *
    have y := x_Copy f s.body hb
    have fs := fun φ => free_Sp φ s
    obtain ⟨k, ⟨az, el⟩, x2, x3, x4, x5, b⟩ := s
    simp only [eSp, Sp.body] at e2 y ho2 fs
    have m1 : ∀ n, n ≤ 100 → (n ≤ maxLen) = True := fun n hn => mx (by omega)
    cases o with
    | nil =>
      simp +contextual -implicitDefEqProofs (maxSteps := 2000000) only [S18, e1, e2, e3, eSps_len, y, rs_nil, rs_t, rs_f, ag_nils, ag_sl, ag_vs, ag_str, ag_ptr, ag_nilp, ag_vp, ag_fun, m1 1 (by omega), ruB, rh_no, Int.reduceLT, Int.reduceLE, Int.reduceAdd, Int.reduceSub, Int.reduceMul, Int.reduceNeg, Int.reduceToNat, Int.reduceEq, Int.reduceNe, Int.reduceTDiv, Int.reduceTMod, implies_true, putL, appN, appX, appC, Eng.Fi, reduceCtorEq, exists_eq_left', exists_eq_left, if_true, if_false, List.replicate, Nat.reduceAdd, Nat.reduceSub, Nat.reduceMul, Nat.reduceLeDiff, Nat.reduceLT, Nat.reduceEqDiff]
      exact go _ (i + 1, [eSp (.mk k ⟨az, el⟩ x2 x3 x4 x5 b)]) ⟨hlt, by rw [← ho2]; rfl⟩ (by simp only; omega) (Wkn.to ⟨0, [(4, 0)], [], 1, [0, 3, 4]⟩ rfl rfl (by simp [Wk.st, keepT, memN, Wk.fate, Wk.fate0, assoc, getE, Wk.hp, ABlk.sub, sub1, subs, S18, free_Sps, eSp]))
    | cons v r =>
      simp only [List.length_cons] at hol
      have m2 : ((r.length + 1 + 1) * 80 ≤ 140737488355328) = True := by simp only [eq_iff_iff, iff_true]; omega
      simp +contextual -implicitDefEqProofs (maxSteps := 2000000) only [S18, e1, e2, e3, eSps_len, y, rs_nil, rs_t, rs_f, ag_nils, ag_sl, ag_vs, ag_str, ag_ptr, ag_nilp, ag_vp, ag_fun, m1 (r.length + 1 + 1) (by omega), m2, ruB, rh_no, Int.reduceLT, Int.reduceLE, Int.reduceAdd, Int.reduceSub, Int.reduceMul, Int.reduceNeg, Int.reduceToNat, Int.reduceEq, Int.reduceNe, Int.reduceTDiv, Int.reduceTMod, implies_true, putL, appN, appX, appC, Eng.Fi, reduceCtorEq, exists_eq_left', exists_eq_left, if_true, if_false, List.replicate, Nat.reduceAdd, Nat.reduceSub, Nat.reduceMul, Nat.reduceLeDiff, Nat.reduceLT, Nat.reduceEqDiff]
      simp only [subs, List.cons.injEq] at hof
      refine go _ (i + 1, v :: (r ++ [eSp (.mk k ⟨az, el⟩ x2 x3 x4 x5 b)])) ⟨hlt, by rw [← ho2]; rfl⟩ (by simp only; omega) (Wkn.to ⟨0, [(4, 0)], [], 1, [0, 3, 4]⟩ rfl rfl ?_)
      have hv := fun φ => (hof φ).1
      have hr := fun φ => (hof φ).2
      simp [Wk.st, keepT, memN, Wk.fate, Wk.fate0, assoc, getE, Wk.hp, ABlk.sub, sub1, subs, S18, free_Sps, eSp, hv, hr, subs_append]
  · have e1 : decide ((i : Int) < (l.length : Int)) = false := lt_f hlt
    rw [List.take_of_length_le hlt] at ho
    rw [← ho]
    cases o with
    | nil => simp +contextual -implicitDefEqProofs (maxSteps := 2000000) only [S18, e1, eSps_len, ruB, rh_no, Int.reduceLT, Int.reduceLE, Int.reduceAdd, Int.reduceSub, Int.reduceMul, Int.reduceNeg, Int.reduceToNat, Int.reduceEq, Int.reduceNe, Int.reduceTDiv, Int.reduceTMod, implies_true, putL, appN, appX, appC, Eng.Fi, reduceCtorEq, exists_eq_left', exists_eq_left, if_true, if_false, List.replicate, Nat.reduceAdd, Nat.reduceSub, Nat.reduceMul, Nat.reduceLeDiff, Nat.reduceLT, Nat.reduceEqDiff]
    | cons v r =>
      simp only [subs, List.cons.injEq] at hof
      have hv := fun φ => (hof φ).1
      have hr := fun φ => (hof φ).2
      have t2 : r.take r.length = r := List.take_of_length_le (Nat.le_refl _)
      simp +contextual -implicitDefEqProofs (maxSteps := 2000000) only [S18, e1, eSps_len, t2, Nat.le_refl, hv, hr, ruB, rh_no, Int.reduceLT, Int.reduceLE, Int.reduceAdd, Int.reduceSub, Int.reduceMul, Int.reduceNeg, Int.reduceToNat, Int.reduceEq, Int.reduceNe, Int.reduceTDiv, Int.reduceTMod, implies_true, putL, appN, appX, appC, Eng.Fi, reduceCtorEq, exists_eq_left', exists_eq_left, if_true, if_false, List.replicate, Nat.reduceAdd, Nat.reduceSub, Nat.reduceMul, Nat.reduceLeDiff, Nat.reduceLT, Nat.reduceEqDiff]
theorem g_Copy : ∀ (f : Nat), Fn P 18 (cf_Copy f)
  | 0 => fun args v h => by
    unfold cf_Copy at h; split at h
    · obtain ⟨l, rfl, h2⟩ := onSps_inv h
      rw [if_neg (by simp [wgh])] at h2; cases h2
    · cases h
  | f + 1 => fun args v h => by
    have g := g_Copy f
    unfold cf_Copy at h; split at h
    · obtain ⟨l, rfl, h2⟩ := onSps_inv h
      split at h2
      · rename_i hc; cases h2; exact k_Copy f g l hc
      · cases h2
    · cases h
theorem few_wgh {l : Sps} (h : fewB l = true) : (wgh 5 l).isSome = true := by
  unfold fewB at h
  split at h
  · rename_i n hn; rw [hn]; rfl
  · cases h
end Sc
