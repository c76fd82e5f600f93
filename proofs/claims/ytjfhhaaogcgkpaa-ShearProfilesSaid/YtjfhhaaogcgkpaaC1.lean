import Derived.Test.YtjfhhaaogcgkpaaEngS9
import Derived.Test.YtjfhhaaogcgkpaaEngZ
import Derived.Test.YtjfhhaaogcgkpaaProg
import Derived.Test.YtjfhhaaogcgkpaaEngS6
open Go Go.Proofs Eng
set_option maxRecDepth 100000
set_option linter.unusedSimpArgs false
set_option linter.unusedVariables false
def a81 : AC := .seq (.ops false [] [⟨some 1, .box 23 4 1 true, [.t 0], none⟩, ⟨some 2, .p (.mov), [.c (.int .i64 0)], none⟩]) (.seq (.ops false [] [⟨some 3, .p (.mov), [.c (.fn 127 [] [])], none⟩]) (.seq (.ops false [] [⟨some 5, .p (.faddr 0), [.t 1], none⟩, ⟨some 6, .load 1 false, [.t 5], none⟩, ⟨some 7, .call 83, [.t 6], none⟩, ⟨some 8, .p (.mov), [.t 7], none⟩, ⟨some 9, .p (.mov), [.t 3], some (8, true)⟩, ⟨some 10, .p (.faddr 1), [.t 1], some (8, true)⟩, ⟨some 11, .load 1 false, [.t 10], some (8, true)⟩, ⟨some 12, .callv, [.t 9, .t 11], some (8, true)⟩, ⟨some 13, .p (.pick), [.t 8, .t 12, .c (.bool false)], none⟩, ⟨some 14, .p (.mov), [.t 13], none⟩, ⟨some 15, .p (.mov), [.t 3], some (14, true)⟩, ⟨some 16, .p (.faddr 3), [.t 1], some (14, true)⟩, ⟨some 17, .load 1 false, [.t 16], some (14, true)⟩, ⟨some 18, .callv, [.t 15, .t 17], some (14, true)⟩, ⟨some 19, .p (.pick), [.t 14, .t 18, .c (.bool false)], none⟩, ⟨some 20, .p (.mov), [.t 19], none⟩, ⟨some 21, .p (.faddr 2), [.t 1], some (20, true)⟩, ⟨some 22, .load 1 false, [.t 21], some (20, true)⟩, ⟨some 23, .call 107, [.t 22, .c (.int .i64 0), .c (.int .i64 2)], some (20, true)⟩, ⟨some 24, .p (.pick), [.t 20, .t 23, .c (.bool false)], none⟩, ⟨some 4, .p (.mov), [.t 24], none⟩]) (.seq (.ops false [] [⟨some 25, .p (.mov), [.t 4], none⟩, ⟨some 26, .call 85, [.t 25, .c (.int .i64 2)], none⟩, ⟨some 2, .p (.mov), [.t 26], none⟩]) (.ret))))
theorem c81 : FnC Try.prog 81 27 a81 [.tmp 2] := ⟨Try.call81, _, _, Try.func81, rfl, by kernel_rfl, by kernel_rfl, rfl⟩
def a83 : AC := .seq (.ops false [] [⟨some 2, .p (.mov), [.c (.bool false)], none⟩]) (.seq (.ops false [] [⟨some 3, .p (.mov), [.t 0], none⟩, ⟨some 4, .call 107, [.t 3, .c (.int .i64 0), .c (.int .i64 250)], none⟩, ⟨some 2, .p (.mov), [.t 4], none⟩]) (.ret))
theorem c83 : FnC Try.prog 83 5 a83 [.tmp 2] := ⟨Try.call83, _, _, Try.func83, rfl, by kernel_rfl, by kernel_rfl, rfl⟩
def a84 : AC := .seq (.ops false [] [⟨some 2, .p (.mov), [.c (.int .i64 0)], none⟩]) (.seq (.seq (.ops false [] [⟨some 5, .p (.mov), [.t 0], none⟩, ⟨some 6, .p (.lenS), [.t 5], none⟩, ⟨some 7, .p (.mov), [.c (.int .i64 0)], none⟩]) (.block 0 (.loop (.seq (.ops false [] [⟨some 8, .p (.binI .lss), [.t 7, .t 6], none⟩]) (.seq (.cond (.t 8) (.skip) (.exit 0)) (.seq (.block 1 (.seq (.ops false [] [⟨some 9, .p (.iaddrS 1), [.t 5, .t 7], none⟩, ⟨some 10, .load 1 false, [.t 9], none⟩, ⟨some 4, .p (.mov), [.t 10], none⟩]) (.seq (.ops false [] [⟨some 11, .p (.mov), [.t 4], none⟩, ⟨some 12, .p (.binI .neq), [.t 11, .c (.int .i64 0)], none⟩]) (.cond (.t 12) (.seq (.ops false [] [⟨some 13, .p (.mov), [.t 4], none⟩, ⟨some 2, .p (.mov), [.t 13], none⟩]) (.ret)) (.skip))))) (.ops false [] [⟨some 14, .p (.binI .add), [.t 7, .c (.int .i64 1)], none⟩, ⟨some 7, .p (.mov), [.t 14], none⟩]))))))) (.seq (.ops false [] [⟨some 2, .p (.mov), [.c (.int .i64 0)], none⟩]) (.ret)))
theorem c84 : FnC Try.prog 84 15 a84 [.tmp 2] := ⟨Try.call84, _, _, Try.func84, rfl, by kernel_rfl, by kernel_rfl, rfl⟩
def a85 : AC := .seq (.ops false [] [⟨some 4, .p (.mov), [.c (.int .i64 0)], none⟩]) (.seq (.seq (.ops false [] [⟨some 5, .p (.mov), [.t 0], none⟩]) (.cond (.t 5) (.seq (.ops false [] [⟨some 4, .p (.mov), [.c (.int .i64 0)], none⟩]) (.ret)) (.skip))) (.seq (.ops false [] [⟨some 6, .p (.mov), [.t 1], none⟩, ⟨some 4, .p (.mov), [.t 6], none⟩]) (.ret)))
theorem c85 : FnC Try.prog 85 7 a85 [.tmp 4] := ⟨Try.call85, _, _, Try.func85, rfl, by kernel_rfl, by kernel_rfl, rfl⟩
def a107 : AC := .seq (.ops false [] [⟨some 6, .p (.mov), [.c (.bool false)], none⟩]) (.seq (.ops false [] [⟨some 7, .p (.mov), [.t 1], none⟩, ⟨some 8, .p (.mov), [.t 0], none⟩, ⟨some 9, .p (.binI .leq), [.t 7, .t 8], none⟩, ⟨some 10, .p (.mov), [.t 9], none⟩, ⟨some 11, .p (.mov), [.t 0], some (10, true)⟩, ⟨some 12, .p (.mov), [.t 2], some (10, true)⟩, ⟨some 13, .p (.binI .leq), [.t 11, .t 12], some (10, true)⟩, ⟨some 14, .p (.pick), [.t 10, .t 13, .c (.bool false)], none⟩, ⟨some 6, .p (.mov), [.t 14], none⟩]) (.ret))
theorem c107 : FnC Try.prog 107 15 a107 [.tmp 6] := ⟨Try.call107, _, _, Try.func107, rfl, by kernel_rfl, by kernel_rfl, rfl⟩
def a127 : AC := .seq (.ops false [] [⟨some 2, .p (.mov), [.c (.bool false)], none⟩]) (.seq (.ops false [] [⟨some 3, .p (.mov), [.t 0], none⟩, ⟨some 4, .call 107, [.t 3, .c (.int .i64 0), .c (.int .i64 62500)], none⟩, ⟨some 2, .p (.mov), [.t 4], none⟩]) (.ret))
theorem c127 : FnC Try.prog 127 5 a127 [.tmp 2] := ⟨Try.call127, _, _, Try.func127, rfl, by kernel_rfl, by kernel_rfl, rfl⟩
namespace Sh

theorem hm : Try.prog.follows .mixedOrders = true := by kernel_rfl
noncomputable abbrev P := Try.prog

/-! within -/
def w3 (n lo hi : Int) : Bool := decide (lo ≤ n ∧ n ≤ hi)
theorem k107 (n lo hi : Int) : FOk P 107 [I n, I lo, I hi] (B (w3 n lo hi)) := by
  refine c107.fok rfl (Cor.run (noC_good _) (noHx_good _) hm ?_)
  simp +contextual -implicitDefEqProofs (maxSteps := 2000000) only [bg_eq, a107, w3, ruB, rh_no, Int.reduceLT, Int.reduceLE, Int.reduceAdd, Int.reduceSub, Int.reduceMul, Int.reduceNeg, Int.reduceToNat, Int.reduceEq, Int.reduceNe, Int.reduceTDiv, Int.reduceTMod, implies_true, putL, appN, appX, appC, Eng.Fi, reduceCtorEq, exists_eq_left', exists_eq_left, if_true, if_false, List.replicate, Nat.reduceAdd, Nat.reduceSub, Nat.reduceMul, Nat.reduceLeDiff, Nat.reduceLT, Nat.reduceEqDiff]
def c107f : List AV → Option AV
  | [.int .i64 n, .int .i64 lo, .int .i64 hi] => some (B (w3 n lo hi))
  | _ => none
theorem g107 : Fn P 107 c107f := fun args v h => by
  unfold c107f at h; split at h
  · cases h; exact k107 _ _ _
  · cases h
theorem x107 (n lo hi : Int) : c107f [.int .i64 n, .int .i64 lo, .int .i64 hi] = some (.bool (decide (lo ≤ n ∧ n ≤ hi))) := rfl

/-! unless -/
def unl (ok : Prop) [Decidable ok] (e : Int) : Int := if ok then 0 else e
theorem unl_t {ok : Prop} [Decidable ok] (e : Int) (h : ok) : unl ok e = 0 := if_pos h
theorem unl_f {ok : Prop} [Decidable ok] (e : Int) (h : ¬ ok) : unl ok e = e := if_neg h
theorem k85 (ok : Bool) (e : Int) : FOk P 85 [B ok, I e] (I (unl (ok = true) e)) := by
  refine c85.fok rfl (Cor.run (noC_good _) (noHx_good _) hm ?_)
  simp +contextual -implicitDefEqProofs (maxSteps := 2000000) only [bg_eq, a85, CV_b, ruB, rh_no, Int.reduceLT, Int.reduceLE, Int.reduceAdd, Int.reduceSub, Int.reduceMul, Int.reduceNeg, Int.reduceToNat, Int.reduceEq, Int.reduceNe, Int.reduceTDiv, Int.reduceTMod, implies_true, putL, appN, appX, appC, Eng.Fi, reduceCtorEq, exists_eq_left', exists_eq_left, if_true, if_false, List.replicate, Nat.reduceAdd, Nat.reduceSub, Nat.reduceMul, Nat.reduceLeDiff, Nat.reduceLT, Nat.reduceEqDiff]
  simp only [unl]
  cases ok <;> simp
def c85f : List AV → Option AV
  | [.bool ok, .int .i64 e] => some (I (unl (ok = true) e))
  | _ => none
theorem g85 : Fn P 85 c85f := fun args v h => by
  unfold c85f at h; split at h
  · cases h; exact k85 _ _
  · cases h
theorem x85 (p : Prop) [Decidable p] (e : Int) : c85f [.bool (decide p), .int .i64 e] = some (.int .i64 (unl p e)) := by simp [c85f, unl]

/-! lists are no longer than this -/
abbrev Lmax : Nat := 1099511627776

/-! first -/
def firstE : List Int → Int
  | [] => 0
  | e :: l => if e = 0 then firstE l else e
def S84 (l : List Int) (n : Nat) : AState := ⟨[.vs (l.map I), .any, I 0, .any, .any, .vs (l.map I), I l.length, I n, .any, .any, .any, .any, .any, .any, .any], [], 0⟩
theorem k84 (l : List Int) (hl : l.length ≤ Lmax) : FOk P 84 [.vs (l.map I)] (I (firstE l)) := by
  refine c84.fok (by simp only [subs, sub1, subs_I]) (Cor.run (noC_good _) (noHx_good _) hm ?_)
  simp +contextual -implicitDefEqProofs (maxSteps := 2000000) only [bg_eq, a84, List.length_map, ruB, rh_no, Int.reduceLT, Int.reduceLE, Int.reduceAdd, Int.reduceSub, Int.reduceMul, Int.reduceNeg, Int.reduceToNat, Int.reduceEq, Int.reduceNe, Int.reduceTDiv, Int.reduceTMod, implies_true, putL, appN, appX, appC, Eng.Fi, reduceCtorEq, exists_eq_left', exists_eq_left, if_true, if_false, List.replicate, Nat.reduceAdd, Nat.reduceSub, Nat.reduceMul, Nat.reduceLeDiff, Nat.reduceLT, Nat.reduceEqDiff]
  refine Cor.lp (noC_good _) (noHx_good _) hm (S84 l) (fun n => n ≤ l.length ∧ firstE l = firstE (l.drop n)) (fun n => l.length - n) (a := 0) ⟨Nat.zero_le _, by simp⟩ (Wkn.keep [0, 2, 5, 6, 7] rfl) ?_
  intro f n ⟨hn, hf⟩ go
  rcases Nat.lt_or_ge n l.length with h | h
  · have e1 : decide ((n : Int) < (l.length : Int)) = true := by simp; omega
    have e2 : (l.map I)[n]? = some (I l[n]) := by simp [h]
    have e3 : IntKind.wrap .i64 ((n : Int) + 1) = ((n + 1 : Nat) : Int) := by rw [wrap64 (by omega) (by simp only [Lmax] at hl; omega)]; rfl
    have e4 : l.drop n = l[n] :: l.drop (n + 1) := List.drop_eq_getElem_cons h
    rw [e4] at hf
    simp +contextual -implicitDefEqProofs (maxSteps := 2000000) only [S84, e1, e2, e3, ruB, rh_no, Int.reduceLT, Int.reduceLE, Int.reduceAdd, Int.reduceSub, Int.reduceMul, Int.reduceNeg, Int.reduceToNat, Int.reduceEq, Int.reduceNe, Int.reduceTDiv, Int.reduceTMod, implies_true, putL, appN, appX, appC, Eng.Fi, reduceCtorEq, exists_eq_left', exists_eq_left, if_true, if_false, List.replicate, Nat.reduceAdd, Nat.reduceSub, Nat.reduceMul, Nat.reduceLeDiff, Nat.reduceLT, Nat.reduceEqDiff]
    refine ⟨fun h0 => ?_, fun h0 => go _ (n + 1) ⟨h, ?_⟩ (by omega) (Wkn.keep [0, 2, 5, 6, 7] rfl)⟩
    · rw [hf, firstE, if_neg h0]
    · rw [hf, firstE, if_pos h0]
  · have e1 : decide ((n : Int) < (l.length : Int)) = false := by simp; omega
    simp +contextual -implicitDefEqProofs (maxSteps := 2000000) only [S84, e1, ruB, rh_no, Int.reduceLT, Int.reduceLE, Int.reduceAdd, Int.reduceSub, Int.reduceMul, Int.reduceNeg, Int.reduceToNat, Int.reduceEq, Int.reduceNe, Int.reduceTDiv, Int.reduceTMod, implies_true, putL, appN, appX, appC, Eng.Fi, reduceCtorEq, exists_eq_left', exists_eq_left, if_true, if_false, List.replicate, Nat.reduceAdd, Nat.reduceSub, Nat.reduceMul, Nat.reduceLeDiff, Nat.reduceLT, Nat.reduceEqDiff]
    rw [hf, List.drop_eq_nil_of_le h]; rfl
def r84 : Option (List Int) → Option AV
  | some l => if l.length ≤ Lmax then some (I (firstE l)) else none
  | none => none
def c84f : List AV → Option AV
  | [.vs vals] => r84 (decL decI vals)
  | _ => none
theorem g84 : Fn P 84 c84f := fun args v h => by
  unfold c84f at h; split at h
  · unfold r84 at h; split at h
    · rename_i l h1
      split at h
      · cases h; rw [decL_inv decI I (fun v x => decI_inv) h1]; exact k84 l ‹_›
      · cases h
    · cases h
  · cases h
theorem x84 (vals : List AV) : c84f [.vs vals] = r84 (decL decI vals) := rfl
theorem r84s (l : List Int) (h : (l.length ≤ Lmax) = True) : r84 (some l) = some (.int .i64 (firstE l)) := by simp only [r84, h, if_true]

/-! isWord -/
theorem k83 (n : Int) : FOk P 83 [I n] (B (w3 n 0 250)) := by
  refine c83.fok rfl (Cor.run (addC_good g107 (noC_good _)) (noHx_good _) hm ?_)
  simp +contextual -implicitDefEqProofs (maxSteps := 2000000) only [bg_eq, a83, x107, w3, ruB, rh_no, Int.reduceLT, Int.reduceLE, Int.reduceAdd, Int.reduceSub, Int.reduceMul, Int.reduceNeg, Int.reduceToNat, Int.reduceEq, Int.reduceNe, Int.reduceTDiv, Int.reduceTMod, implies_true, putL, appN, appX, appC, Eng.Fi, reduceCtorEq, exists_eq_left', exists_eq_left, if_true, if_false, List.replicate, Nat.reduceAdd, Nat.reduceSub, Nat.reduceMul, Nat.reduceLeDiff, Nat.reduceLT, Nat.reduceEqDiff]
def c83f : List AV → Option AV
  | [.int .i64 n] => some (B (w3 n 0 250))
  | _ => none
theorem g83 : Fn P 83 c83f := fun args v h => by
  unfold c83f at h; split at h
  · cases h; exact k83 _
  · cases h
theorem x83 (n : Int) : c83f [.int .i64 n] = some (.bool (decide (0 ≤ n ∧ n ≤ 250))) := rfl

theorem k127 (n : Int) : FOk P 127 [I n] (B (w3 n 0 62500)) := by
  refine c127.fok rfl (Cor.run (addC_good g107 (noC_good _)) (noHx_good _) hm ?_)
  simp +contextual -implicitDefEqProofs (maxSteps := 2000000) only [bg_eq, a127, x107, w3, ruB, rh_no, Int.reduceLT, Int.reduceLE, Int.reduceAdd, Int.reduceSub, Int.reduceMul, Int.reduceNeg, Int.reduceToNat, Int.reduceEq, Int.reduceNe, Int.reduceTDiv, Int.reduceTMod, implies_true, putL, appN, appX, appC, Eng.Fi, reduceCtorEq, exists_eq_left', exists_eq_left, if_true, if_false, List.replicate, Nat.reduceAdd, Nat.reduceSub, Nat.reduceMul, Nat.reduceLeDiff, Nat.reduceLT, Nat.reduceEqDiff]
def c127f : List AV → Option AV
  | [.int .i64 n] => some (B (w3 n 0 62500))
  | _ => none
theorem g127 : Fn P 127 c127f := fun args v h => by
  unfold c127f at h; split at h
  · cases h; exact k127 _
  · cases h
theorem x127 (n : Int) : c127f [.int .i64 n] = some (.bool (decide (0 ≤ n ∧ n ≤ 62500))) := rfl

/-! telegramErr -/
def telOk (r n k v : Int) : Prop := ((((0 ≤ r ∧ r ≤ 250) ∧ (0 ≤ n ∧ n ≤ 62500)) ∧ (0 ≤ v ∧ v ≤ 62500)) ∧ (0 ≤ k ∧ k ≤ 2))
instance (r n k v : Int) : Decidable (telOk r n k v) := by unfold telOk; infer_instance
theorem k81 (r n k v : Int) : FOk P 81 [.agg [I r, I n, I k, I v]] (I (unl (telOk r n k v) 2)) := by
  refine c81.fok rfl (Cor.run (addC_good g127 (addC_good g83 (addC_good g85 (addC_good g107 (noC_good _))))) (noHx_good _) hm ?_)
  simp +contextual -implicitDefEqProofs (maxSteps := 2000000) only [bg_eq, a81, x107, x83, x127, x85, telOk, ruB, rh_no, Int.reduceLT, Int.reduceLE, Int.reduceAdd, Int.reduceSub, Int.reduceMul, Int.reduceNeg, Int.reduceToNat, Int.reduceEq, Int.reduceNe, Int.reduceTDiv, Int.reduceTMod, implies_true, putL, appN, appX, appC, Eng.Fi, reduceCtorEq, exists_eq_left', exists_eq_left, if_true, if_false, List.replicate, Nat.reduceAdd, Nat.reduceSub, Nat.reduceMul, Nat.reduceLeDiff, Nat.reduceLT, Nat.reduceEqDiff]
def c81f : List AV → Option AV
  | [.agg [.int .i64 r, .int .i64 n, .int .i64 k, .int .i64 v]] => some (.int .i64 (unl (telOk r n k v) 2))
  | _ => none
theorem g81 : Fn P 81 c81f := fun args v h => by
  unfold c81f at h; split at h
  · cases h; exact k81 _ _ _ _
  · cases h
theorem x81 (r n k v : Int) : c81f [.agg [.int .i64 r, .int .i64 n, .int .i64 k, .int .i64 v]] = some (.int .i64 (unl (telOk r n k v) 2)) := rfl
end Sh
