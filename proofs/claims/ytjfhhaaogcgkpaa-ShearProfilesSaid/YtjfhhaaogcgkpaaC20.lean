import Derived.Test.YtjfhhaaogcgkpaaEngS9
import Derived.Test.YtjfhhaaogcgkpaaC12
open Go Go.Proofs Eng
set_option maxRecDepth 100000
set_option linter.unusedSimpArgs false
set_option linter.unusedVariables false
def a20 : AC := .seq (.ops false [] [⟨some 4, .p (.mov), [.c (.int .i64 0)], none⟩]) (.seq (.ops false [] [⟨some 5, .p (.mov), [.t 0], none⟩, ⟨some 6, .p (.mov), [.t 1], none⟩, ⟨some 7, .p (.binI .rem), [.t 5, .t 6], none⟩, ⟨some 0, .p (.mov), [.t 7], none⟩]) (.seq (.seq (.ops false [] [⟨some 8, .p (.mov), [.t 0], none⟩, ⟨some 9, .p (.binI .lss), [.t 8, .c (.int .i64 0)], none⟩]) (.cond (.t 9) (.ops false [] [⟨some 10, .p (.mov), [.t 0], none⟩, ⟨some 11, .p (.mov), [.t 1], none⟩, ⟨some 12, .p (.binI .add), [.t 10, .t 11], none⟩, ⟨some 0, .p (.mov), [.t 12], none⟩]) (.skip))) (.seq (.ops false [] [⟨some 13, .p (.mov), [.t 0], none⟩, ⟨some 4, .p (.mov), [.t 13], none⟩]) (.ret))))
theorem c20 : FnC Try.prog 20 14 a20 [.tmp 4] := ⟨Try.call20, _, _, Try.func20, rfl, by kernel_rfl, by kernel_rfl, rfl⟩
def a102 : AC := .seq (.ops false [] [⟨some 4, .p (.mov), [.c (.int .i64 0)], none⟩]) (.seq (.ops false [] [⟨some 6, .p (.mov), [.t 0], none⟩, ⟨some 7, .p (.mov), [.t 1], none⟩, ⟨some 8, .p (.binI .quo), [.t 6, .t 7], none⟩, ⟨some 5, .p (.mov), [.t 8], none⟩]) (.seq (.seq (.ops false [] [⟨some 9, .p (.mov), [.t 0], none⟩, ⟨some 10, .p (.mov), [.t 1], none⟩, ⟨some 11, .p (.binI .rem), [.t 9, .t 10], none⟩, ⟨some 12, .p (.binI .lss), [.t 11, .c (.int .i64 0)], none⟩]) (.cond (.t 12) (.ops false [] [⟨some 13, .p (.mov), [.t 5], none⟩, ⟨some 14, .p (.binI .sub), [.t 13, .c (.int .i64 1)], none⟩, ⟨some 5, .p (.mov), [.t 14], none⟩]) (.skip))) (.seq (.ops false [] [⟨some 15, .p (.mov), [.t 5], none⟩, ⟨some 4, .p (.mov), [.t 15], none⟩]) (.ret))))
theorem c102 : FnC Try.prog 102 16 a102 [.tmp 4] := ⟨Try.call102, _, _, Try.func102, rfl, by kernel_rfl, by kernel_rfl, rfl⟩
def a103 : AC := .seq (.ops false [] [⟨some 4, .p (.mov), [.c (.int .i64 0)], none⟩]) (.seq (.ops false [] [⟨some 5, .p (.mov), [.t 0], none⟩, ⟨some 6, .p (.neg), [.t 5], none⟩, ⟨some 7, .p (.mov), [.t 1], none⟩, ⟨some 8, .call 102, [.t 6, .t 7], none⟩, ⟨some 9, .p (.neg), [.t 8], none⟩, ⟨some 4, .p (.mov), [.t 9], none⟩]) (.ret))
theorem c103 : FnC Try.prog 103 10 a103 [.tmp 4] := ⟨Try.call103, _, _, Try.func103, rfl, by kernel_rfl, by kernel_rfl, rfl⟩
def a104 : AC := .seq (.ops false [] [⟨some 4, .p (.mov), [.c (.int .i64 0)], none⟩]) (.seq (.ops false [] [⟨some 6, .p (.mov), [.t 0], none⟩, ⟨some 7, .p (.mov), [.t 1], none⟩, ⟨some 8, .p (.binI .quo), [.t 6, .t 7], none⟩, ⟨some 5, .p (.mov), [.t 8], none⟩]) (.seq (.seq (.ops false [] [⟨some 9, .p (.mov), [.t 0], none⟩, ⟨some 10, .p (.mov), [.t 1], none⟩, ⟨some 11, .p (.binI .rem), [.t 9, .t 10], none⟩, ⟨some 12, .p (.binI .lss), [.t 11, .c (.int .i64 0)], none⟩]) (.cond (.t 12) (.ops false [] [⟨some 13, .p (.mov), [.t 5], none⟩, ⟨some 14, .p (.binI .sub), [.t 13, .c (.int .i64 1)], none⟩, ⟨some 5, .p (.mov), [.t 14], none⟩]) (.skip))) (.seq (.ops false [] [⟨some 15, .p (.mov), [.t 5], none⟩, ⟨some 4, .p (.mov), [.t 15], none⟩]) (.ret))))
theorem c104 : FnC Try.prog 104 16 a104 [.tmp 4] := ⟨Try.call104, _, _, Try.func104, rfl, by kernel_rfl, by kernel_rfl, rfl⟩
def a105 : AC := .seq (.ops false [] [⟨some 4, .p (.mov), [.c (.int .i64 0)], none⟩]) (.seq (.ops false [] [⟨some 5, .p (.mov), [.t 0], none⟩, ⟨some 6, .p (.neg), [.t 5], none⟩, ⟨some 7, .p (.mov), [.t 1], none⟩, ⟨some 8, .call 104, [.t 6, .t 7], none⟩, ⟨some 9, .p (.neg), [.t 8], none⟩, ⟨some 4, .p (.mov), [.t 9], none⟩]) (.ret))
theorem c105 : FnC Try.prog 105 10 a105 [.tmp 4] := ⟨Try.call105, _, _, Try.func105, rfl, by kernel_rfl, by kernel_rfl, rfl⟩
def a115 : AC := .seq (.ops false [] [⟨some 2, .p (.mov), [.c (.bool false)], none⟩]) (.seq (.ops false [] [⟨some 3, .p (.mov), [.t 0], none⟩, ⟨some 4, .call 33, [.t 3, .c (.int .i64 (-10000)), .c (.int .i64 10000)], none⟩, ⟨some 2, .p (.mov), [.t 4], none⟩]) (.ret))
theorem c115 : FnC Try.prog 115 5 a115 [.tmp 2] := ⟨Try.call115, _, _, Try.func115, rfl, by kernel_rfl, by kernel_rfl, rfl⟩
namespace Sh

/-! division -/
theorem tdm (n : Int) {b : Int} (hb : 0 < b) : (n.tmod b < 0 → n.tdiv b - 1 = n / b ∧ n.tmod b + b = n % b) ∧ (¬ n.tmod b < 0 → n.tdiv b = n / b ∧ n.tmod b = n % b) := by
  rcases Int.le_total 0 n with h | h
  · have h1 := Int.tmod_eq_emod_of_nonneg (b := b) h
    have h2 := Int.tdiv_eq_ediv_of_nonneg (b := b) h
    have h3 := Int.emod_nonneg n (by omega : b ≠ 0)
    exact ⟨fun x => by omega, fun _ => ⟨h2, h1⟩⟩
  · obtain ⟨m, rfl⟩ : ∃ m : Int, n = -m := ⟨-n, by omega⟩
    have h1 := Int.tmod_eq_emod_of_nonneg (a := m) (b := b) (by omega)
    have h2 := Int.tdiv_eq_ediv_of_nonneg (a := m) (b := b) (by omega)
    have h3 := Int.emod_nonneg m (by omega : b ≠ 0)
    have h4 := Int.emod_lt_of_pos m hb
    have h5 := Int.mul_ediv_add_emod m b
    rw [Int.neg_tmod, Int.neg_tdiv, h1, h2]
    by_cases h0 : m % b = 0
    · have := (Int.ediv_emod_unique (a := -m) (q := -(m / b)) (r := 0) hb).2 ⟨by rw [Int.mul_neg]; omega, Int.le_refl _, hb⟩
      exact ⟨fun x => by omega, fun _ => ⟨this.1.symm, by rw [h0, this.2]; rfl⟩⟩
    · have := (Int.ediv_emod_unique (a := -m) (q := -(m / b) - 1) (r := b - m % b) hb).2 ⟨by rw [Int.mul_sub, Int.mul_neg, Int.mul_one]; omega, by omega, by omega⟩
      exact ⟨fun _ => ⟨this.1.symm, by rw [this.2]; omega⟩, fun x => by omega⟩
theorem tdiv_bd (n : Int) {b : Int} (hb : 0 < b) {B : Int} (h : -B ≤ n ∧ n ≤ B) (hB : 0 ≤ B) : -B - 1 ≤ n / b ∧ n / b ≤ B := by
  have h5 := Int.mul_ediv_add_emod n b
  have h3 := Int.emod_nonneg n (by omega : b ≠ 0)
  have h4 := Int.emod_lt_of_pos n hb
  have hp : 0 ≤ B * b := Int.mul_nonneg hB (Int.le_of_lt hb)
  constructor
  · refine (Int.le_ediv_iff_mul_le hb).2 ?_
    have : B ≤ B * b := by
      have := Int.mul_le_mul_of_nonneg_left (show (1 : Int) ≤ b by omega) hB
      omega
    rw [Int.sub_mul, Int.neg_mul, Int.one_mul]; omega
  · refine Int.le_trans (Int.ediv_le_ediv hb h.2) ?_
    exact Int.ediv_le_self _ hB
def flG (n b : Int) : Int := n / b
def okD' (n b : Int) : Prop := (-10000000000000 ≤ n ∧ n ≤ 10000000000000) ∧ 0 < b ∧ b ≤ 1000000
instance (n b : Int) : Decidable (okD' n b) := by unfold okD'; infer_instance
theorem k102 (n b : Int) (hk : okD' n b) : FOk P 102 [I n, I b] (I (n / b)) := by
  unfold okD' at hk
  have h := tdm n hk.2.1
  have hb0 : (b = 0) = False := by simp only [eq_iff_iff, iff_false]; omega
  have hd := tdiv_bd n hk.2.1 hk.1 (by omega)
  have h3 := Int.emod_nonneg n (by omega : b ≠ 0)
  have h4 := Int.emod_lt_of_pos n hk.2.1
  by_cases h1 : n.tmod b < 0
  · have h2 := h.1 h1
    have e0 : IntKind.wrap .i64 (n.tdiv b) = n.tdiv b := wrap64 (by omega) (by omega)
    have e1 : IntKind.wrap .i64 (n.tmod b) = n.tmod b := wrap64 (by omega) (by omega)
    have e2 : IntKind.wrap .i64 (n.tdiv b - 1) = n / b := by rw [wrap64 (by omega) (by omega)]; exact h2.1
    refine c102.fok rfl (Cor.run (noC_good _) (noHx_good _) hm ?_)
    simp +contextual -implicitDefEqProofs (maxSteps := 2000000) only [bg_eq, a102, hb0, h1, e0, e1, e2, ruB, rh_no, Int.reduceLT, Int.reduceLE, Int.reduceAdd, Int.reduceSub, Int.reduceMul, Int.reduceNeg, Int.reduceToNat, Int.reduceEq, Int.reduceNe, Int.reduceTDiv, Int.reduceTMod, implies_true, putL, appN, appX, appC, Eng.Fi, reduceCtorEq, exists_eq_left', exists_eq_left, if_true, if_false, List.replicate, Nat.reduceAdd, Nat.reduceSub, Nat.reduceMul, Nat.reduceLeDiff, Nat.reduceLT, Nat.reduceEqDiff]
  · have h2 := h.2 h1
    have e0 : IntKind.wrap .i64 (n / b) = n / b := wrap64 (by omega) (by omega)
    have e1 : IntKind.wrap .i64 (n % b) = n % b := wrap64 (by omega) (by omega)
    have h5 : (n % b < 0) = False := by simp only [eq_iff_iff, iff_false]; omega
    refine c102.fok rfl (Cor.run (noC_good _) (noHx_good _) hm ?_)
    simp +contextual -implicitDefEqProofs (maxSteps := 2000000) only [bg_eq, a102, hb0, h2.1, h2.2, e0, e1, h5, ruB, rh_no, Int.reduceLT, Int.reduceLE, Int.reduceAdd, Int.reduceSub, Int.reduceMul, Int.reduceNeg, Int.reduceToNat, Int.reduceEq, Int.reduceNe, Int.reduceTDiv, Int.reduceTMod, implies_true, putL, appN, appX, appC, Eng.Fi, reduceCtorEq, exists_eq_left', exists_eq_left, if_true, if_false, List.replicate, Nat.reduceAdd, Nat.reduceSub, Nat.reduceMul, Nat.reduceLeDiff, Nat.reduceLT, Nat.reduceEqDiff]
def c102f : List AV → Option AV
  | [.int .i64 n, .int .i64 b] => if okD' n b then some (I (n / b)) else none
  | _ => none
theorem g102 : Fn P 102 c102f := fun args v h => by
  unfold c102f at h; split at h
  · split at h
    · rename_i hc; cases h; exact k102 _ _ hc
    · cases h
  · cases h
theorem x102 (n b : Int) (h : (okD' n b) = True) : c102f [.int .i64 n, .int .i64 b] = some (I (n / b)) := by simp only [c102f, h, if_true]
theorem k104 (n b : Int) (hk : okD' n b) : FOk P 104 [I n, I b] (I (n / b)) := by
  unfold okD' at hk
  have h := tdm n hk.2.1
  have hb0 : (b = 0) = False := by simp only [eq_iff_iff, iff_false]; omega
  have hd := tdiv_bd n hk.2.1 hk.1 (by omega)
  have h3 := Int.emod_nonneg n (by omega : b ≠ 0)
  have h4 := Int.emod_lt_of_pos n hk.2.1
  by_cases h1 : n.tmod b < 0
  · have h2 := h.1 h1
    have e0 : IntKind.wrap .i64 (n.tdiv b) = n.tdiv b := wrap64 (by omega) (by omega)
    have e1 : IntKind.wrap .i64 (n.tmod b) = n.tmod b := wrap64 (by omega) (by omega)
    have e2 : IntKind.wrap .i64 (n.tdiv b - 1) = n / b := by rw [wrap64 (by omega) (by omega)]; exact h2.1
    refine c104.fok rfl (Cor.run (noC_good _) (noHx_good _) hm ?_)
    simp +contextual -implicitDefEqProofs (maxSteps := 2000000) only [bg_eq, a104, hb0, h1, e0, e1, e2, ruB, rh_no, Int.reduceLT, Int.reduceLE, Int.reduceAdd, Int.reduceSub, Int.reduceMul, Int.reduceNeg, Int.reduceToNat, Int.reduceEq, Int.reduceNe, Int.reduceTDiv, Int.reduceTMod, implies_true, putL, appN, appX, appC, Eng.Fi, reduceCtorEq, exists_eq_left', exists_eq_left, if_true, if_false, List.replicate, Nat.reduceAdd, Nat.reduceSub, Nat.reduceMul, Nat.reduceLeDiff, Nat.reduceLT, Nat.reduceEqDiff]
  · have h2 := h.2 h1
    have e0 : IntKind.wrap .i64 (n / b) = n / b := wrap64 (by omega) (by omega)
    have e1 : IntKind.wrap .i64 (n % b) = n % b := wrap64 (by omega) (by omega)
    have h5 : (n % b < 0) = False := by simp only [eq_iff_iff, iff_false]; omega
    refine c104.fok rfl (Cor.run (noC_good _) (noHx_good _) hm ?_)
    simp +contextual -implicitDefEqProofs (maxSteps := 2000000) only [bg_eq, a104, hb0, h2.1, h2.2, e0, e1, h5, ruB, rh_no, Int.reduceLT, Int.reduceLE, Int.reduceAdd, Int.reduceSub, Int.reduceMul, Int.reduceNeg, Int.reduceToNat, Int.reduceEq, Int.reduceNe, Int.reduceTDiv, Int.reduceTMod, implies_true, putL, appN, appX, appC, Eng.Fi, reduceCtorEq, exists_eq_left', exists_eq_left, if_true, if_false, List.replicate, Nat.reduceAdd, Nat.reduceSub, Nat.reduceMul, Nat.reduceLeDiff, Nat.reduceLT, Nat.reduceEqDiff]
def c104f : List AV → Option AV
  | [.int .i64 n, .int .i64 b] => if okD' n b then some (I (n / b)) else none
  | _ => none
theorem g104 : Fn P 104 c104f := fun args v h => by
  unfold c104f at h; split at h
  · split at h
    · rename_i hc; cases h; exact k104 _ _ hc
    · cases h
  · cases h
theorem x104 (n b : Int) (h : (okD' n b) = True) : c104f [.int .i64 n, .int .i64 b] = some (I (n / b)) := by simp only [c104f, h, if_true]
theorem k103 (n b : Int) (hk : okD' n b) : FOk P 103 [I n, I b] (I (-(-n / b))) := by
  have hk' : okD' (-n) b := by unfold okD' at *; omega
  unfold okD' at hk
  have hd := tdiv_bd (-n) hk.2.1 (B := 10000000000000) (by omega) (by omega)
  have e0 : IntKind.wrap .i64 (0 - n) = -n := by rw [wrap64 (by omega) (by omega)]; omega
  have e1 : IntKind.wrap .i64 (0 - -n / b) = -(-n / b) := by rw [wrap64 (by omega) (by omega)]; omega
  refine c103.fok rfl (Cor.run (addC_good g102 (noC_good _)) (noHx_good _) hm ?_)
  simp +contextual -implicitDefEqProofs (maxSteps := 2000000) only [bg_eq, a103, e0, x102, hk', e1, ruB, rh_no, Int.reduceLT, Int.reduceLE, Int.reduceAdd, Int.reduceSub, Int.reduceMul, Int.reduceNeg, Int.reduceToNat, Int.reduceEq, Int.reduceNe, Int.reduceTDiv, Int.reduceTMod, implies_true, putL, appN, appX, appC, Eng.Fi, reduceCtorEq, exists_eq_left', exists_eq_left, if_true, if_false, List.replicate, Nat.reduceAdd, Nat.reduceSub, Nat.reduceMul, Nat.reduceLeDiff, Nat.reduceLT, Nat.reduceEqDiff]
def c103f : List AV → Option AV
  | [.int .i64 n, .int .i64 b] => if okD' n b then some (I (-(-n / b))) else none
  | _ => none
theorem g103 : Fn P 103 c103f := fun args v h => by
  unfold c103f at h; split at h
  · split at h
    · rename_i hc; cases h; exact k103 _ _ hc
    · cases h
  · cases h
theorem x103 (n b : Int) (h : (okD' n b) = True) : c103f [.int .i64 n, .int .i64 b] = some (I (-(-n / b))) := by simp only [c103f, h, if_true]
theorem k105 (n b : Int) (hk : okD' n b) : FOk P 105 [I n, I b] (I (-(-n / b))) := by
  have hk' : okD' (-n) b := by unfold okD' at *; omega
  unfold okD' at hk
  have hd := tdiv_bd (-n) hk.2.1 (B := 10000000000000) (by omega) (by omega)
  have e0 : IntKind.wrap .i64 (0 - n) = -n := by rw [wrap64 (by omega) (by omega)]; omega
  have e1 : IntKind.wrap .i64 (0 - -n / b) = -(-n / b) := by rw [wrap64 (by omega) (by omega)]; omega
  refine c105.fok rfl (Cor.run (addC_good g104 (noC_good _)) (noHx_good _) hm ?_)
  simp +contextual -implicitDefEqProofs (maxSteps := 2000000) only [bg_eq, a105, e0, x104, hk', e1, ruB, rh_no, Int.reduceLT, Int.reduceLE, Int.reduceAdd, Int.reduceSub, Int.reduceMul, Int.reduceNeg, Int.reduceToNat, Int.reduceEq, Int.reduceNe, Int.reduceTDiv, Int.reduceTMod, implies_true, putL, appN, appX, appC, Eng.Fi, reduceCtorEq, exists_eq_left', exists_eq_left, if_true, if_false, List.replicate, Nat.reduceAdd, Nat.reduceSub, Nat.reduceMul, Nat.reduceLeDiff, Nat.reduceLT, Nat.reduceEqDiff]
def c105f : List AV → Option AV
  | [.int .i64 n, .int .i64 b] => if okD' n b then some (I (-(-n / b))) else none
  | _ => none
theorem g105 : Fn P 105 c105f := fun args v h => by
  unfold c105f at h; split at h
  · split at h
    · rename_i hc; cases h; exact k105 _ _ hc
    · cases h
  · cases h
theorem x105 (n b : Int) (h : (okD' n b) = True) : c105f [.int .i64 n, .int .i64 b] = some (I (-(-n / b))) := by simp only [c105f, h, if_true]
/-! Mod -/
theorem k20 (n b : Int) (hb : 0 < b ∧ b ≤ 10000000000000) : FOk P 20 [I n, I b] (I (n % b)) := by
  have h := tdm n hb.1
  have hb0 : (b = 0) = False := by simp only [eq_iff_iff, iff_false]; omega
  have h3 := Int.emod_nonneg n (by omega : b ≠ 0)
  have h4 := Int.emod_lt_of_pos n hb.1
  by_cases h1 : n.tmod b < 0
  · have h2 := (h.1 h1).2
    have e1 : IntKind.wrap .i64 (n.tmod b) = n.tmod b := wrap64 (by omega) (by omega)
    have e2 : IntKind.wrap .i64 (n.tmod b + b) = n % b := by rw [wrap64 (by omega) (by omega)]; exact h2
    refine c20.fok rfl (Cor.run (noC_good _) (noHx_good _) hm ?_)
    simp +contextual -implicitDefEqProofs (maxSteps := 2000000) only [bg_eq, a20, hb0, h1, e1, e2, ruB, rh_no, Int.reduceLT, Int.reduceLE, Int.reduceAdd, Int.reduceSub, Int.reduceMul, Int.reduceNeg, Int.reduceToNat, Int.reduceEq, Int.reduceNe, Int.reduceTDiv, Int.reduceTMod, implies_true, putL, appN, appX, appC, Eng.Fi, reduceCtorEq, exists_eq_left', exists_eq_left, if_true, if_false, List.replicate, Nat.reduceAdd, Nat.reduceSub, Nat.reduceMul, Nat.reduceLeDiff, Nat.reduceLT, Nat.reduceEqDiff]
  · have h2 := (h.2 h1).2
    have e1 : IntKind.wrap .i64 (n.tmod b) = n % b := by rw [h2]; exact wrap64 (by omega) (by omega)
    have h5 : (n % b < 0) = False := by simp only [eq_iff_iff, iff_false]; omega
    refine c20.fok rfl (Cor.run (noC_good _) (noHx_good _) hm ?_)
    simp +contextual -implicitDefEqProofs (maxSteps := 2000000) only [bg_eq, a20, hb0, h1, h2, e1, h5, ruB, rh_no, Int.reduceLT, Int.reduceLE, Int.reduceAdd, Int.reduceSub, Int.reduceMul, Int.reduceNeg, Int.reduceToNat, Int.reduceEq, Int.reduceNe, Int.reduceTDiv, Int.reduceTMod, implies_true, putL, appN, appX, appC, Eng.Fi, reduceCtorEq, exists_eq_left', exists_eq_left, if_true, if_false, List.replicate, Nat.reduceAdd, Nat.reduceSub, Nat.reduceMul, Nat.reduceLeDiff, Nat.reduceLT, Nat.reduceEqDiff]
def c20f : List AV → Option AV
  | [.int .i64 n, .int .i64 b] => if 0 < b ∧ b ≤ 10000000000000 then some (I (n % b)) else none
  | _ => none
theorem g20 : Fn P 20 c20f := fun args v h => by
  unfold c20f at h; split at h
  · split at h
    · rename_i hc; cases h; exact k20 _ _ hc
    · cases h
  · cases h
theorem x20 (n b : Int) (h : (0 < b ∧ b ≤ 10000000000000) = True) : c20f [.int .i64 n, .int .i64 b] = some (I (n % b)) := by simp only [c20f, h, if_true]
theorem k115 (n : Int) : FOk P 115 [I n] (B (decide (-10000 ≤ n ∧ n ≤ 10000))) := by
  refine c115.fok rfl (Cor.run (addC_good g33 (noC_good _)) (noHx_good _) hm ?_)
  simp +contextual -implicitDefEqProofs (maxSteps := 2000000) only [bg_eq, a115, x33, ruB, rh_no, Int.reduceLT, Int.reduceLE, Int.reduceAdd, Int.reduceSub, Int.reduceMul, Int.reduceNeg, Int.reduceToNat, Int.reduceEq, Int.reduceNe, Int.reduceTDiv, Int.reduceTMod, implies_true, putL, appN, appX, appC, Eng.Fi, reduceCtorEq, exists_eq_left', exists_eq_left, if_true, if_false, List.replicate, Nat.reduceAdd, Nat.reduceSub, Nat.reduceMul, Nat.reduceLeDiff, Nat.reduceLT, Nat.reduceEqDiff]
def c115f : List AV → Option AV
  | [.int .i64 n] => some (.bool (decide (-10000 ≤ n ∧ n ≤ 10000)))
  | _ => none
theorem g115 : Fn P 115 c115f := fun args v h => by
  unfold c115f at h; split at h
  · cases h; exact k115 _
  · cases h
theorem x115 (n : Int) : c115f [.int .i64 n] = some (.bool (decide (-10000 ≤ n ∧ n ≤ 10000))) := rfl
end Sh
