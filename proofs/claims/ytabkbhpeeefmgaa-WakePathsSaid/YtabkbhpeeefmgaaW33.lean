import Derived.Test.YtabkbhpeeefmgaaEngS9
import Derived.Test.YtabkbhpeeefmgaaW32
import Derived.Test.YtabkbhpeeefmgaaEngSG
open Go Go.Proofs Eng
set_option maxRecDepth 100000
set_option linter.unusedSimpArgs false
set_option linter.unusedVariables false
def a99 : AC := .seq (.ops false [] [⟨some 2, .box 50 6 1 true, [.t 0], none⟩, ⟨some 3, .box 52 6 1 true, [.t 1], none⟩, ⟨some 4, .alloc 50 6 [.agg [.int .i64 0, .int .i64 0, .int .i64 0, .int .i64 0, .int .i64 0, .int .i64 0]], [], none⟩]) (.seq (.ops false [] [⟨some 5, .p (.faddr 0), [.t 2], none⟩, ⟨some 6, .p (.faddr 0), [.t 5], none⟩, ⟨some 7, .load 1 false, [.t 6], none⟩, ⟨some 8, .p (.faddr 0), [.t 3], none⟩, ⟨some 9, .p (.faddr 0), [.t 8], none⟩, ⟨some 10, .load 1 false, [.t 9], none⟩, ⟨some 11, .p (.binI .add), [.t 7, .t 10], none⟩, ⟨some 12, .p (.faddr 0), [.t 2], none⟩, ⟨some 13, .p (.faddr 1), [.t 12], none⟩, ⟨some 14, .load 1 false, [.t 13], none⟩, ⟨some 15, .p (.faddr 0), [.t 3], none⟩, ⟨some 16, .p (.faddr 1), [.t 15], none⟩, ⟨some 17, .load 1 false, [.t 16], none⟩, ⟨some 18, .p (.binI .add), [.t 14, .t 17], none⟩, ⟨some 19, .p (.build [.int .i64 0, .int .i64 0] [(0, 1), (1, 1)]), [.t 11, .t 18], none⟩, ⟨some 20, .p (.faddr 2), [.t 2], none⟩, ⟨some 21, .p (.faddr 0), [.t 20], none⟩, ⟨some 22, .load 1 false, [.t 21], none⟩, ⟨some 23, .p (.faddr 2), [.t 3], none⟩, ⟨some 24, .p (.faddr 1), [.t 23], none⟩, ⟨some 25, .load 1 false, [.t 24], none⟩, ⟨some 26, .p (.binI .sub), [.t 22, .t 25], none⟩, ⟨some 27, .p (.mm true), [.c (.int .i64 0), .t 26], none⟩, ⟨some 28, .p (.faddr 2), [.t 2], none⟩, ⟨some 29, .p (.faddr 1), [.t 28], none⟩, ⟨some 30, .load 1 false, [.t 29], none⟩, ⟨some 31, .p (.faddr 2), [.t 3], none⟩, ⟨some 32, .p (.faddr 0), [.t 31], none⟩, ⟨some 33, .load 1 false, [.t 32], none⟩, ⟨some 34, .p (.binI .sub), [.t 30, .t 33], none⟩, ⟨some 35, .p (.mm true), [.c (.int .i64 0), .t 34], none⟩, ⟨some 36, .p (.build [.int .i64 0, .int .i64 0] [(0, 1), (1, 1)]), [.t 27, .t 35], none⟩, ⟨some 37, .p (.faddr 4), [.t 2], none⟩, ⟨some 38, .p (.faddr 0), [.t 37], none⟩, ⟨some 39, .load 1 false, [.t 38], none⟩, ⟨some 40, .p (.faddr 4), [.t 3], none⟩, ⟨some 41, .p (.faddr 1), [.t 40], none⟩, ⟨some 42, .load 1 false, [.t 41], none⟩, ⟨some 43, .p (.binI .sub), [.t 39, .t 42], none⟩, ⟨some 44, .p (.mm true), [.c (.int .i64 0), .t 43], none⟩, ⟨some 45, .p (.faddr 4), [.t 2], none⟩, ⟨some 46, .p (.faddr 1), [.t 45], none⟩, ⟨some 47, .load 1 false, [.t 46], none⟩, ⟨some 48, .p (.faddr 4), [.t 3], none⟩, ⟨some 49, .p (.faddr 0), [.t 48], none⟩, ⟨some 50, .load 1 false, [.t 49], none⟩, ⟨some 51, .p (.binI .sub), [.t 47, .t 50], none⟩, ⟨some 52, .p (.mm true), [.c (.int .i64 0), .t 51], none⟩, ⟨some 53, .p (.build [.int .i64 0, .int .i64 0] [(0, 1), (1, 1)]), [.t 44, .t 52], none⟩, ⟨some 54, .p (.build [.int .i64 0, .int .i64 0, .int .i64 0, .int .i64 0, .int .i64 0, .int .i64 0] [(0, 2), (2, 2), (4, 2)]), [.t 19, .t 36, .t 53], none⟩, ⟨none, .store 6 true, [.t 4, .t 54], none⟩]) (.ret))
theorem c99 : FnC Try.prog 99 55 a99 [.cell 4 6 true] := ⟨Try.call99, _, _, Try.func99, rfl, by kernel_rfl, by kernel_rfl, rfl⟩
namespace Wa
def nxV (b d : Bx) : Bx := ⟨b.yl + d.yl, b.yh + d.yh, max 0 (b.zl - d.zh), max 0 (b.zh - d.zl), max 0 (b.sl - d.sh), max 0 (b.sh - d.sl)⟩
def nxB (b d : Bx) : Prop := (inR (-100000000) 100000000 b.yl b.yh ∧ inR (-100000000) 100000000 b.zl b.zh ∧ inR (-100000000) 100000000 b.sl b.sh) ∧ dfR d
instance (b d : Bx) : Decidable (nxB b d) := by unfold nxB; infer_instance
theorem k_rNext (b d : Bx) (h : nxB b d) : FOk P 99 [eBx b, eBx d] (eBx (nxV b d)) := by
  unfold nxB dfR inR at h
  have w1 : IntKind.wrap .i64 (b.yl + d.yl) = b.yl + d.yl := wrap64 (by omega) (by omega)
  have w2 : IntKind.wrap .i64 (b.yh + d.yh) = b.yh + d.yh := wrap64 (by omega) (by omega)
  have w3 : IntKind.wrap .i64 (b.zl - d.zh) = b.zl - d.zh := wrap64 (by omega) (by omega)
  have w4 : IntKind.wrap .i64 (b.zh - d.zl) = b.zh - d.zl := wrap64 (by omega) (by omega)
  have w5 : IntKind.wrap .i64 (b.sl - d.sh) = b.sl - d.sh := wrap64 (by omega) (by omega)
  have w6 : IntKind.wrap .i64 (b.sh - d.sl) = b.sh - d.sl := wrap64 (by omega) (by omega)
  refine c99.fok rfl (Cor.run (noC_good _) (noHx_good _) hm ?_)
  simp +contextual -implicitDefEqProofs (maxSteps := 2000000) only [bg_eq, a99, w1, w2, w3, w4, w5, w6, nxV, ruB, rh_no, Int.reduceLT, Int.reduceLE, Int.reduceAdd, Int.reduceSub, Int.reduceMul, Int.reduceNeg, Int.reduceToNat, Int.reduceEq, Int.reduceNe, Int.reduceTDiv, Int.reduceTMod, implies_true, putL, appN, appX, appC, Eng.Fi, reduceCtorEq, exists_eq_left', exists_eq_left, if_true, if_false, List.replicate, Nat.reduceAdd, Nat.reduceSub, Nat.reduceMul, Nat.reduceLeDiff, Nat.reduceLT, Nat.reduceEqDiff]
def cf_rNext : List AV → Option AV
  | [.agg [.int .i64 b_yl, .int .i64 b_yh, .int .i64 b_zl, .int .i64 b_zh, .int .i64 b_sl, .int .i64 b_sh], .agg [.int .i64 d_yl, .int .i64 d_yh, .int .i64 d_zl, .int .i64 d_zh, .int .i64 d_sl, .int .i64 d_sh]] => if nxB (⟨b_yl, b_yh, b_zl, b_zh, b_sl, b_sh⟩ : Bx) (⟨d_yl, d_yh, d_zl, d_zh, d_sl, d_sh⟩ : Bx) then some (eBx (nxV (⟨b_yl, b_yh, b_zl, b_zh, b_sl, b_sh⟩ : Bx) (⟨d_yl, d_yh, d_zl, d_zh, d_sl, d_sh⟩ : Bx))) else none
  | _ => none
theorem g_rNext : Fn P 99 cf_rNext := fun args v hh => by
  unfold cf_rNext at hh; split at hh
  · split at hh
    · rename_i hc; have hk := Option.some.inj hh; subst hk; exact k_rNext ⟨_, _, _, _, _, _⟩ ⟨_, _, _, _, _, _⟩ hc
    · cases hh
  · cases hh
theorem x_rNext (b : Bx) (d : Bx) (hc : (nxB b d) = True) : cf_rNext [.agg [I b.yl, I b.yh, I b.zl, I b.zh, I b.sl, I b.sh], .agg [I d.yl, I d.yh, I d.zl, I d.zh, I d.sl, I d.sh]] = some (eBx (nxV b d)) := by
  exact if_pos (by rw [hc]; trivial)
end Wa
