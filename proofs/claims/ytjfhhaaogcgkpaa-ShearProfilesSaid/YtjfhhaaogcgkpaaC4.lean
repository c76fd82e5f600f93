import Derived.Test.YtjfhhaaogcgkpaaEngS9
import Derived.Test.YtjfhhaaogcgkpaaC2
open Go Go.Proofs Eng
set_option maxRecDepth 100000
set_option linter.unusedSimpArgs false
set_option linter.unusedVariables false
def a15 : AC := .seq (.ops false [] [⟨some 1, .box 23 4 1 true, [.t 0], none⟩, ⟨some 2, .alloc 24 1 [.int .i64 0, .int .i64 0, .int .i64 0, .int .i64 0, .int .i64 0, .int .i64 0, .int .i64 0], [], none⟩, ⟨some 3, .p (.mov), [.c (.int .i64 0)], none⟩]) (.seq (.seq (.ops false [] [⟨some 6, .load 4 true, [.t 1], none⟩, ⟨some 7, .call 81, [.t 6], none⟩, ⟨some 4, .p (.mov), [.t 7], none⟩]) (.seq (.ops false [] [⟨some 8, .p (.mov), [.t 4], none⟩, ⟨some 9, .p (.binI .neq), [.t 8, .c (.int .i64 0)], none⟩]) (.cond (.t 9) (.seq (.ops false [] [⟨some 10, .p (.build [.int .i64 0, .int .i64 0, .int .i64 0, .int .i64 0, .int .i64 0, .int .i64 0, .int .i64 0] []), [], none⟩, ⟨some 11, .p (.mov), [.t 4], none⟩, ⟨none, .store 7 true, [.t 2, .t 10], none⟩, ⟨some 3, .p (.mov), [.t 11], none⟩]) (.ret)) (.skip)))) (.seq (.ops false [] [⟨some 12, .p (.faddr 0), [.t 1], none⟩, ⟨some 13, .load 1 false, [.t 12], none⟩, ⟨some 14, .p (.faddr 1), [.t 1], none⟩, ⟨some 15, .load 1 false, [.t 14], none⟩, ⟨some 16, .p (.binI .quo), [.t 15, .c (.int .i64 251)], none⟩, ⟨some 17, .p (.faddr 1), [.t 1], none⟩, ⟨some 18, .load 1 false, [.t 17], none⟩, ⟨some 19, .p (.binI .rem), [.t 18, .c (.int .i64 251)], none⟩, ⟨some 20, .p (.faddr 2), [.t 1], none⟩, ⟨some 21, .load 1 false, [.t 20], none⟩, ⟨some 22, .p (.faddr 3), [.t 1], none⟩, ⟨some 23, .load 1 false, [.t 22], none⟩, ⟨some 24, .p (.binI .quo), [.t 23, .c (.int .i64 251)], none⟩, ⟨some 25, .p (.faddr 3), [.t 1], none⟩, ⟨some 26, .load 1 false, [.t 25], none⟩, ⟨some 27, .p (.binI .rem), [.t 26, .c (.int .i64 251)], none⟩, ⟨some 28, .p (.build [.int .i64 0, .int .i64 0, .int .i64 0, .int .i64 0, .int .i64 0, .int .i64 0, .int .i64 0] [(0, 1), (1, 1), (2, 1), (3, 1), (4, 1), (5, 1)]), [.t 13, .t 16, .t 19, .t 21, .t 24, .t 27], none⟩, ⟨some 5, .alloc 24 1 [.int .i64 0, .int .i64 0, .int .i64 0, .int .i64 0, .int .i64 0, .int .i64 0, .int .i64 0], [], none⟩, ⟨none, .store 7 true, [.t 5, .t 28], none⟩]) (.seq (.block 0 (.loop (.seq (.seq (.ops false [] [⟨some 29, .load 7 true, [.t 5], none⟩, ⟨some 30, .call 82, [.t 29], none⟩, ⟨some 31, .p (.binI .rem), [.t 30, .c (.int .i64 251)], none⟩, ⟨some 32, .p (.binI .neq), [.t 31, .c (.int .i64 0)], none⟩]) (.cond (.t 32) (.skip) (.exit 0))) (.block 1 (.ops false [] [⟨some 33, .p (.iaddrA 7 1), [.t 5, .c (.int .i64 6)], none⟩, ⟨some 34, .load 1 false, [.t 33], none⟩, ⟨some 35, .p (.binI .add), [.t 34, .c (.int .i64 1)], none⟩, ⟨some 36, .p (.iaddrA 7 1), [.t 5, .c (.int .i64 6)], none⟩, ⟨none, .store 1 false, [.t 36, .t 35], none⟩]))))) (.seq (.ops false [] [⟨some 37, .load 7 true, [.t 5], none⟩, ⟨none, .store 7 true, [.t 2, .t 37], none⟩, ⟨some 3, .p (.mov), [.c (.int .i64 0)], none⟩]) (.ret)))))
theorem c15 : FnC Try.prog 15 38 a15 [.cell 2 7 true, .tmp 3] := ⟨Try.call15, _, _, Try.func15, rfl, by kernel_rfl, by kernel_rfl, rfl⟩
def a18 : AC := .seq (.ops false [] [⟨some 1, .box 23 4 1 true, [.t 0], none⟩, ⟨some 2, .alloc 24 1 [.int .i64 0, .int .i64 0, .int .i64 0, .int .i64 0, .int .i64 0, .int .i64 0, .int .i64 0], [], none⟩]) (.seq (.ops false [] [⟨some 3, .p (.mov), [.c (.int .i64 251)], none⟩]) (.seq (.ops true [(1, 21), (3, 21), (7, 21), (11, 21), (13, 21), (17, 21)] [⟨some 6, .p (.faddr 0), [.t 1], none⟩, ⟨some 7, .load 1 false, [.t 6], none⟩, ⟨some 8, .p (.faddr 1), [.t 1], none⟩, ⟨some 9, .load 1 false, [.t 8], none⟩, ⟨some 10, .p (.mov), [.t 3], none⟩, ⟨some 11, .p (.binI .quo), [.t 9, .t 10], none⟩, ⟨some 12, .p (.faddr 1), [.t 1], none⟩, ⟨some 13, .load 1 false, [.t 12], none⟩, ⟨some 14, .p (.mov), [.t 3], none⟩, ⟨some 15, .p (.binI .rem), [.t 13, .t 14], none⟩, ⟨some 16, .p (.faddr 2), [.t 1], none⟩, ⟨some 17, .load 1 false, [.t 16], none⟩, ⟨some 18, .p (.faddr 3), [.t 1], none⟩, ⟨some 19, .load 1 false, [.t 18], none⟩, ⟨some 20, .p (.mov), [.t 3], none⟩, ⟨some 21, .p (.binI .quo), [.t 19, .t 20], none⟩, ⟨some 22, .p (.faddr 3), [.t 1], none⟩, ⟨some 23, .load 1 false, [.t 22], none⟩, ⟨some 24, .p (.mov), [.t 3], none⟩, ⟨some 25, .p (.binI .rem), [.t 23, .t 24], none⟩, ⟨some 26, .p (.build [.int .i64 0, .int .i64 0, .int .i64 0, .int .i64 0, .int .i64 0, .int .i64 0, .int .i64 0] [(0, 1), (1, 1), (2, 1), (3, 1), (4, 1), (5, 1)]), [.t 7, .t 11, .t 15, .t 17, .t 21, .t 25], none⟩, ⟨some 4, .alloc 24 1 [.int .i64 0, .int .i64 0, .int .i64 0, .int .i64 0, .int .i64 0, .int .i64 0, .int .i64 0], [], none⟩, ⟨none, .store 7 true, [.t 4, .t 26], none⟩]) (.seq (.seq (.ops false [] [⟨some 5, .p (.mov), [.c (.int .i64 0)], none⟩]) (.block 0 (.loop (.seq (.seq (.ops false [] [⟨some 27, .p (.mov), [.t 5], none⟩, ⟨some 28, .p (.mov), [.t 3], none⟩, ⟨some 29, .p (.binI .lss), [.t 27, .t 28], none⟩]) (.cond (.t 29) (.skip) (.exit 0))) (.seq (.block 1 (.seq (.ops false [] [⟨some 32, .p (.mov), [.t 5], none⟩, ⟨some 33, .p (.iaddrA 7 1), [.t 4, .c (.int .i64 6)], none⟩, ⟨none, .store 1 false, [.t 33, .t 32], none⟩]) (.seq (.ops false [] [⟨some 34, .load 7 true, [.t 4], none⟩, ⟨some 35, .call 86, [.t 34], none⟩, ⟨some 36, .p (.mov), [.t 3], none⟩, ⟨some 37, .p (.binI .rem), [.t 35, .t 36], none⟩, ⟨some 38, .p (.binI .eql), [.t 37, .c (.int .i64 0)], none⟩]) (.cond (.t 38) (.seq (.ops false [] [⟨some 39, .load 7 true, [.t 4], none⟩, ⟨none, .store 7 true, [.t 2, .t 39], none⟩]) (.ret)) (.skip))))) (.ops false [] [⟨some 30, .p (.mov), [.t 5], none⟩, ⟨some 31, .p (.binI .add), [.t 30, .c (.int .i64 1)], none⟩, ⟨some 5, .p (.mov), [.t 31], none⟩])))))) (.seq (.ops false [] [⟨some 40, .load 7 true, [.t 4], none⟩, ⟨none, .store 7 true, [.t 2, .t 40], none⟩]) (.ret)))))
theorem c18 : FnC Try.prog 18 41 a18 [.cell 2 7 true] := ⟨Try.call18, _, _, Try.func18, rfl, by kernel_rfl, by kernel_rfl, rfl⟩
namespace Sh

/-! Encoded -/
def chk (a b c d e f : Int) : Int := (-36 * ws7 a b c d e f 0) % 251
theorem chk_range (a b c d e f : Int) : 0 ≤ chk a b c d e f ∧ chk a b c d e f ≤ 250 := by unfold chk; omega
theorem chk_iff {a b c d e f : Int} (h : 0 ≤ ws7 a b c d e f 0) {n : Int} (h1 : 0 ≤ n) (h2 : n ≤ 250) : (ws7 a b c d e f n).tmod 251 = 0 ↔ n = chk a b c d e f := by
  have e0 : ws7 a b c d e f n = ws7 a b c d e f 0 + 7 * n := by unfold ws7; omega
  rw [Int.tmod_eq_emod_of_nonneg (by omega), e0]
  unfold chk
  generalize ws7 a b c d e f 0 = s at h
  omega
def encV (r n k v : Int) : AV :=
  if telOk r n k v then .tup [.agg [I r, I (n / 251), I (n % 251), I k, I (v / 251), I (v % 251), I (chk r (n / 251) (n % 251) k (v / 251) (v % 251))], I 0]
  else .tup [.agg [I 0, I 0, I 0, I 0, I 0, I 0, I 0], I 2]
theorem encV_free (r n k v : Int) : sub1 noId (encV r n k v) = encV r n k v := by unfold encV; split <;> rfl

def S15 (r b c k e f : Int) (m : Nat) : AState := ⟨[.any, .any, .ptr 1 1 0 0, I 0, .any, .ptr 2 1 0 0, .any, .any, .any, .any, .any, .any, .any, .any, .any, .any, .any, .any, .any, .any, .any, .any, .any, .any, .any, .any, .any, .any, .any, .any, .any, .any, .any, .any, .any, .any, .any, .any], [⟨2, 2, .rows 24 1 [I r, I b, I c, I k, I e, I f, I m]⟩, ⟨1, 1, .rows 24 1 [I 0, I 0, I 0, I 0, I 0, I 0, I 0]⟩], 5⟩
theorem k15 (r n k v : Int) : FOk P 15 [.agg [I r, I n, I k, I v]] (encV r n k v) := by
  refine c15.fok rfl (Cor.run (addC_good g82 (addC_good g81 (noC_good _))) (noHx_good _) hm ?_)
  by_cases h : telOk r n k v
  · have h' := h
    unfold telOk at h'
    have d1 : n.tdiv 251 = n / 251 := Int.tdiv_eq_ediv_of_nonneg (by omega)
    have d2 : n.tmod 251 = n % 251 := Int.tmod_eq_emod_of_nonneg (by omega)
    have d3 : v.tdiv 251 = v / 251 := Int.tdiv_eq_ediv_of_nonneg (by omega)
    have d4 : v.tmod 251 = v % 251 := Int.tmod_eq_emod_of_nonneg (by omega)
    have e1 : IntKind.wrap .i64 (n / 251) = n / 251 := wrap64 (by omega) (by omega)
    have e2 : IntKind.wrap .i64 (v / 251) = v / 251 := wrap64 (by omega) (by omega)
    simp +contextual -implicitDefEqProofs (maxSteps := 2000000) only [bg_eq, a15, x81, unl_t _ h, d1, d2, d3, d4, e1, e2, ruB, rh_no, Int.reduceLT, Int.reduceLE, Int.reduceAdd, Int.reduceSub, Int.reduceMul, Int.reduceNeg, Int.reduceToNat, Int.reduceEq, Int.reduceNe, Int.reduceTDiv, Int.reduceTMod, implies_true, putL, appN, appX, appC, Eng.Fi, reduceCtorEq, exists_eq_left', exists_eq_left, if_true, if_false, List.replicate, Nat.reduceAdd, Nat.reduceSub, Nat.reduceMul, Nat.reduceLeDiff, Nat.reduceLT, Nat.reduceEqDiff]
    generalize hb : n / 251 = b at *
    generalize hc : n % 251 = cc at *
    generalize he : v / 251 = e at *
    generalize hf : v % 251 = ff at *
    have hv : encV r n k v = .tup [.agg [I r, I b, I cc, I k, I e, I ff, I (chk r b cc k e ff)], I 0] := by simp only [encV, h, if_true, hb, hc, he, hf]
    have hcr := chk_range r b cc k e ff
    have hs : 0 ≤ ws7 r b cc k e ff 0 := by unfold ws7; omega
    refine Cor.lp (addC_good g82 (addC_good g81 (noC_good _))) (noHx_good _) hm (S15 r b cc k e ff) (fun m => (m : Int) ≤ chk r b cc k e ff) (fun m => (chk r b cc k e ff).toNat - m) (a := 0) (by simpa using hcr.1) (Wkn.to ⟨0, [(1, 1), (2, 2)], [], 5, [2, 3, 5]⟩ rfl rfl rfl) ?_
    intro f m hm1 go
    have hW : W7 r b cc k e ff m = true := W7_of ⟨by omega, by omega, by omega, by omega, by omega, by omega, by omega⟩
    have hi := chk_iff hs (n := m) (by omega) (by omega)
    have e5 : IntKind.wrap .i64 ((m : Int) + 1) = ((m + 1 : Nat) : Int) := by rw [wrap64 (by omega) (by omega)]; rfl
    simp +contextual -implicitDefEqProofs (maxSteps := 2000000) only [S15, x82, hW, hi, e5, hv, ruB, rh_no, Int.reduceLT, Int.reduceLE, Int.reduceAdd, Int.reduceSub, Int.reduceMul, Int.reduceNeg, Int.reduceToNat, Int.reduceEq, Int.reduceNe, Int.reduceTDiv, Int.reduceTMod, implies_true, putL, appN, appX, appC, Eng.Fi, reduceCtorEq, exists_eq_left', exists_eq_left, if_true, if_false, List.replicate, Nat.reduceAdd, Nat.reduceSub, Nat.reduceMul, Nat.reduceLeDiff, Nat.reduceLT, Nat.reduceEqDiff]
    intro h0
    exact go _ (m + 1) (by omega) (by omega) (Wkn.to ⟨0, [(1, 1), (2, 2)], [], 5, [2, 3, 5]⟩ rfl rfl rfl)
  · simp +contextual -implicitDefEqProofs (maxSteps := 2000000) only [bg_eq, a15, x81, unl_f _ h, ruB, rh_no, Int.reduceLT, Int.reduceLE, Int.reduceAdd, Int.reduceSub, Int.reduceMul, Int.reduceNeg, Int.reduceToNat, Int.reduceEq, Int.reduceNe, Int.reduceTDiv, Int.reduceTMod, implies_true, putL, appN, appX, appC, Eng.Fi, reduceCtorEq, exists_eq_left', exists_eq_left, if_true, if_false, List.replicate, Nat.reduceAdd, Nat.reduceSub, Nat.reduceMul, Nat.reduceLeDiff, Nat.reduceLT, Nat.reduceEqDiff]
    exact ⟨by simp only [encV, h, if_false], encV_free ..⟩
def c15f : List AV → Option AV
  | [.agg [.int .i64 r, .int .i64 n, .int .i64 k, .int .i64 v]] => some (encV r n k v)
  | _ => none
theorem g15 : Fn P 15 c15f := fun args v h => by
  unfold c15f at h; split at h
  · cases h; exact k15 _ _ _ _
  · cases h
theorem x15 (r n k v : Int) : c15f [.agg [.int .i64 r, .int .i64 n, .int .i64 k, .int .i64 v]] = some (encV r n k v) := rfl

/-! the specification's words: of a valid telegram -/
def wordV (r n k v : Int) : AV := .agg [I r, I (n / 251), I (n % 251), I k, I (v / 251), I (v % 251), I (chk r (n / 251) (n % 251) k (v / 251) (v % 251))]
def S18 (r b c k e f : Int) (x : AV) (m : Nat) : AState := ⟨[.any, .any, .ptr 1 1 0 0, I 251, .ptr 2 1 0 0, I m, .any, .any, .any, .any, .any, .any, .any, .any, .any, .any, .any, .any, .any, .any, .any, .any, .any, .any, .any, .any, .any, .any, .any, .any, .any, .any, .any, .any, .any, .any, .any, .any, .any, .any, .any], [⟨2, 2, .rows 24 1 [I r, I b, I c, I k, I e, I f, x]⟩, ⟨1, 1, .rows 24 1 [I 0, I 0, I 0, I 0, I 0, I 0, I 0]⟩], 5⟩
theorem k18 (r n k v : Int) (h : telOk r n k v) : FOk P 18 [.agg [I r, I n, I k, I v]] (wordV r n k v) := by
  refine c18.fok rfl (Cor.run (addC_good g86 (noC_good _)) (noHx_good _) hm ?_)
  have h' := h
  unfold telOk at h'
  have d1 : n.tdiv 251 = n / 251 := Int.tdiv_eq_ediv_of_nonneg (by omega)
  have d2 : n.tmod 251 = n % 251 := Int.tmod_eq_emod_of_nonneg (by omega)
  have d3 : v.tdiv 251 = v / 251 := Int.tdiv_eq_ediv_of_nonneg (by omega)
  have d4 : v.tmod 251 = v % 251 := Int.tmod_eq_emod_of_nonneg (by omega)
  have e1 : IntKind.wrap .i64 (n / 251) = n / 251 := wrap64 (by omega) (by omega)
  have e2 : IntKind.wrap .i64 (v / 251) = v / 251 := wrap64 (by omega) (by omega)
  simp +contextual -implicitDefEqProofs (maxSteps := 2000000) only [bg_eq, a18, d1, d2, d3, d4, e1, e2, ruB, rh_no, Int.reduceLT, Int.reduceLE, Int.reduceAdd, Int.reduceSub, Int.reduceMul, Int.reduceNeg, Int.reduceToNat, Int.reduceEq, Int.reduceNe, Int.reduceTDiv, Int.reduceTMod, implies_true, putL, appN, appX, appC, Eng.Fi, reduceCtorEq, exists_eq_left', exists_eq_left, if_true, if_false, List.replicate, Nat.reduceAdd, Nat.reduceSub, Nat.reduceMul, Nat.reduceLeDiff, Nat.reduceLT, Nat.reduceEqDiff]
  generalize hb : n / 251 = b at *
  generalize hc : n % 251 = cc at *
  generalize he : v / 251 = e at *
  generalize hf : v % 251 = ff at *
  have hv : wordV r n k v = .agg [I r, I b, I cc, I k, I e, I ff, I (chk r b cc k e ff)] := by simp only [wordV, hb, hc, he, hf]
  have hcr := chk_range r b cc k e ff
  have hs : 0 ≤ ws7 r b cc k e ff 0 := by unfold ws7; omega
  refine Cor.lp (addC_good g86 (noC_good _)) (noHx_good _) hm (fun p : Nat × Int => S18 r b cc k e ff (I p.2) p.1) (fun p => (p.1 : Int) ≤ chk r b cc k e ff) (fun p => (chk r b cc k e ff).toNat - p.1) (a := (0, 0)) (by simpa using hcr.1) (Wkn.to ⟨0, [(1, 1), (2, 2)], [], 5, [2, 3, 4, 5]⟩ rfl rfl rfl) ?_
  intro f ⟨m, x⟩ hm1 go
  simp only at hm1
  have hW : W7 r b cc k e ff m = true := W7_of ⟨by omega, by omega, by omega, by omega, by omega, by omega, by omega⟩
  have hi := chk_iff hs (n := m) (by omega) (by omega)
  have e4 : ((m : Int) < 251) = True := by simp only [eq_iff_iff, iff_true]; omega
  have e5 : IntKind.wrap .i64 ((m : Int) + 1) = ((m + 1 : Nat) : Int) := by rw [wrap64 (by omega) (by omega)]; rfl
  simp +contextual -implicitDefEqProofs (maxSteps := 2000000) only [S18, x86, hW, hi, e4, e5, hv, ruB, rh_no, Int.reduceLT, Int.reduceLE, Int.reduceAdd, Int.reduceSub, Int.reduceMul, Int.reduceNeg, Int.reduceToNat, Int.reduceEq, Int.reduceNe, Int.reduceTDiv, Int.reduceTMod, implies_true, putL, appN, appX, appC, Eng.Fi, reduceCtorEq, exists_eq_left', exists_eq_left, if_true, if_false, List.replicate, Nat.reduceAdd, Nat.reduceSub, Nat.reduceMul, Nat.reduceLeDiff, Nat.reduceLT, Nat.reduceEqDiff]
  intro h0
  exact go _ (m + 1, m) (by simp only; omega) (by simp only; omega) (Wkn.to ⟨0, [(1, 1), (2, 2)], [], 5, [2, 3, 4, 5]⟩ rfl rfl rfl)
def c18f : List AV → Option AV
  | [.agg [.int .i64 r, .int .i64 n, .int .i64 k, .int .i64 v]] => if telOk r n k v then some (wordV r n k v) else none
  | _ => none
theorem g18 : Fn P 18 c18f := fun args v h => by
  unfold c18f at h; split at h
  · split at h
    · cases h; exact k18 _ _ _ _ ‹_›
    · cases h
  · cases h
theorem x18 (r n k v : Int) (h : telOk r n k v) : c18f [.agg [.int .i64 r, .int .i64 n, .int .i64 k, .int .i64 v]] = some (wordV r n k v) := by simp only [c18f, h, if_true]
end Sh
