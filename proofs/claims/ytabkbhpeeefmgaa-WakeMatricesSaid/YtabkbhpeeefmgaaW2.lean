import Derived.Test.YtabkbhpeeefmgaaEngS9
import Derived.Test.YtabkbhpeeefmgaaW1
open Go Go.Proofs Eng
set_option maxRecDepth 100000
set_option linter.unusedSimpArgs false
set_option linter.unusedVariables false
def a60 : AC := .seq (.ops false [] [⟨some 3, .box 108 4 1 true, [.t 0], none⟩, ⟨some 4, .box 90 3 1 true, [.t 1], none⟩, ⟨some 5, .box 44 2 1 true, [.t 2], none⟩, ⟨some 6, .p (.mov), [.c (.int .i64 0)], none⟩, ⟨some 7, .p (.mov), [.c (.int .i64 0)], none⟩]) (.seq (.seq (.ops true [] [⟨some 9, .load 4 true, [.t 3], none⟩, ⟨some 10, .call 122, [.t 9], none⟩, ⟨some 11, .load 3 true, [.t 4], none⟩, ⟨some 12, .call 113, [.t 11], none⟩, ⟨some 13, .load 2 true, [.t 5], none⟩, ⟨some 14, .call 114, [.t 13], none⟩, ⟨some 15, .fbs 1, [.t 10, .t 12, .t 14], none⟩, ⟨some 16, .call 79, [.t 15], none⟩, ⟨some 8, .p (.mov), [.t 16], none⟩]) (.seq (.ops false [] [⟨some 17, .p (.mov), [.t 8], none⟩, ⟨some 18, .p (.binI .neq), [.t 17, .c (.int .i64 0)], none⟩]) (.cond (.t 18) (.seq (.ops false [] [⟨some 19, .p (.mov), [.t 8], none⟩, ⟨some 6, .p (.mov), [.c (.int .i64 0)], none⟩, ⟨some 7, .p (.mov), [.t 19], none⟩]) (.ret)) (.skip)))) (.seq (.ops false [] [⟨some 20, .load 4 true, [.t 3], none⟩, ⟨some 21, .load 3 true, [.t 4], none⟩, ⟨some 22, .load 2 true, [.t 5], none⟩, ⟨some 23, .call 125, [.t 20, .t 21, .t 22], none⟩, ⟨some 6, .p (.mov), [.t 23], none⟩, ⟨some 7, .p (.mov), [.c (.int .i64 0)], none⟩]) (.ret)))
theorem c60 : FnC Try.prog 60 24 a60 [.tmp 6, .tmp 7] := ⟨Try.call60, _, _, Try.func60, rfl, by kernel_rfl, by kernel_rfl, rfl⟩
def a115 : AC := .seq (.ops false [] [⟨some 3, .box 46 3 1 true, [.t 0], none⟩, ⟨some 4, .box 90 3 1 true, [.t 1], none⟩, ⟨some 5, .box 44 2 1 true, [.t 2], none⟩, ⟨some 6, .p (.mov), [.c (.int .i64 0)], none⟩, ⟨some 7, .p (.mov), [.c (.int .i64 0)], none⟩]) (.seq (.ops true [] [⟨some 12, .p (.faddr 0), [.t 5], none⟩, ⟨some 13, .load 1 false, [.t 12], none⟩, ⟨some 14, .p (.faddr 0), [.t 3], none⟩, ⟨some 15, .p (.faddr 0), [.t 14], none⟩, ⟨some 16, .load 1 false, [.t 15], none⟩, ⟨some 17, .p (.binI .sub), [.t 13, .t 16], none⟩, ⟨some 18, .p (.faddr 1), [.t 5], none⟩, ⟨some 19, .load 1 false, [.t 18], none⟩, ⟨some 20, .p (.faddr 0), [.t 3], none⟩, ⟨some 21, .p (.faddr 1), [.t 20], none⟩, ⟨some 22, .load 1 false, [.t 21], none⟩, ⟨some 23, .p (.binI .sub), [.t 19, .t 22], none⟩, ⟨some 8, .p (.mov), [.t 17], none⟩, ⟨some 9, .p (.mov), [.t 23], none⟩]) (.seq (.ops true [] [⟨some 24, .p (.faddr 0), [.t 5], none⟩, ⟨some 25, .load 1 false, [.t 24], none⟩, ⟨some 26, .p (.faddr 0), [.t 4], none⟩, ⟨some 27, .p (.faddr 0), [.t 26], none⟩, ⟨some 28, .load 1 false, [.t 27], none⟩, ⟨some 29, .p (.binI .sub), [.t 25, .t 28], none⟩, ⟨some 30, .p (.faddr 1), [.t 5], none⟩, ⟨some 31, .load 1 false, [.t 30], none⟩, ⟨some 32, .p (.faddr 0), [.t 4], none⟩, ⟨some 33, .p (.faddr 1), [.t 32], none⟩, ⟨some 34, .load 1 false, [.t 33], none⟩, ⟨some 35, .p (.binI .sub), [.t 31, .t 34], none⟩, ⟨some 10, .p (.mov), [.t 29], none⟩, ⟨some 11, .p (.mov), [.t 35], none⟩]) (.seq (.ops true [] [⟨some 36, .p (.faddr 2), [.t 3], none⟩, ⟨some 37, .load 1 false, [.t 36], none⟩, ⟨some 38, .p (.mov), [.t 8], none⟩, ⟨some 39, .p (.mov), [.t 11], none⟩, ⟨some 40, .p (.binI .mul), [.t 38, .t 39], none⟩, ⟨some 41, .p (.mov), [.t 9], none⟩, ⟨some 42, .p (.mov), [.t 10], none⟩, ⟨some 43, .p (.binI .mul), [.t 41, .t 42], none⟩, ⟨some 44, .p (.binI .sub), [.t 40, .t 43], none⟩, ⟨some 45, .p (.binI .mul), [.t 37, .t 44], none⟩, ⟨some 46, .p (.mov), [.t 8], none⟩, ⟨some 47, .p (.mov), [.t 8], none⟩, ⟨some 48, .p (.binI .mul), [.t 46, .t 47], none⟩, ⟨some 49, .p (.mov), [.t 9], none⟩, ⟨some 50, .p (.mov), [.t 9], none⟩, ⟨some 51, .p (.binI .mul), [.t 49, .t 50], none⟩, ⟨some 52, .p (.binI .add), [.t 48, .t 51], none⟩, ⟨some 53, .p (.faddr 2), [.t 4], none⟩, ⟨some 54, .load 1 false, [.t 53], none⟩, ⟨some 55, .p (.binI .add), [.t 52, .t 54], none⟩, ⟨some 6, .p (.mov), [.t 45], none⟩, ⟨some 7, .p (.mov), [.t 55], none⟩]) (.ret))))
theorem c115 : FnC Try.prog 115 56 a115 [.tmp 6, .tmp 7] := ⟨Try.call115, _, _, Try.func115, rfl, by kernel_rfl, by kernel_rfl, rfl⟩
def a125 : AC := .seq (.ops false [] [⟨some 3, .box 108 4 1 true, [.t 0], none⟩, ⟨some 4, .box 90 3 1 true, [.t 1], none⟩, ⟨some 5, .box 44 2 1 true, [.t 2], none⟩, ⟨some 6, .p (.mov), [.c (.int .i64 0)], none⟩]) (.seq (.ops false [] [⟨some 15, .load 4 true, [.t 3], none⟩, ⟨some 16, .call 154, [.t 15], none⟩, ⟨some 7, .alloc 204 3 [.agg [.int .i64 0, .int .i64 0, .int .i64 0], .agg [.int .i64 0, .int .i64 0, .int .i64 0]], [], none⟩, ⟨none, .store 6 true, [.t 7, .t 16], none⟩]) (.seq (.ops false [] [⟨some 18, .p (.iaddrA 2 3), [.t 7, .c (.int .i64 0)], none⟩, ⟨some 19, .load 3 true, [.t 18], none⟩, ⟨some 20, .load 3 true, [.t 4], none⟩, ⟨some 21, .load 2 true, [.t 5], none⟩, ⟨some 22, .call 115, [.t 19, .t 20, .t 21], none⟩, ⟨some 17, .p (.mov), [.t 22], none⟩, ⟨some 23, .p (.ext 0), [.t 17], none⟩, ⟨some 24, .p (.ext 1), [.t 17], none⟩, ⟨some 8, .p (.mov), [.t 23], none⟩, ⟨some 9, .p (.mov), [.t 24], none⟩]) (.seq (.ops false [] [⟨some 26, .p (.iaddrA 2 3), [.t 7, .c (.int .i64 1)], none⟩, ⟨some 27, .load 3 true, [.t 26], none⟩, ⟨some 28, .load 3 true, [.t 4], none⟩, ⟨some 29, .load 2 true, [.t 5], none⟩, ⟨some 30, .call 115, [.t 27, .t 28, .t 29], none⟩, ⟨some 25, .p (.mov), [.t 30], none⟩, ⟨some 31, .p (.ext 0), [.t 25], none⟩, ⟨some 32, .p (.ext 1), [.t 25], none⟩, ⟨some 10, .p (.mov), [.t 31], none⟩, ⟨some 11, .p (.mov), [.t 32], none⟩]) (.seq (.ops false [] [⟨some 33, .p (.mov), [.t 8], none⟩, ⟨some 34, .p (.mov), [.t 11], none⟩, ⟨some 35, .p (.binI .mul), [.t 33, .t 34], none⟩, ⟨some 36, .p (.mov), [.t 10], none⟩, ⟨some 37, .p (.mov), [.t 9], none⟩, ⟨some 38, .p (.binI .mul), [.t 36, .t 37], none⟩, ⟨some 39, .p (.binI .add), [.t 35, .t 38], none⟩, ⟨some 40, .p (.mov), [.t 9], none⟩, ⟨some 41, .p (.mov), [.t 11], none⟩, ⟨some 42, .p (.binI .mul), [.t 40, .t 41], none⟩, ⟨some 12, .p (.mov), [.t 39], none⟩, ⟨some 13, .p (.mov), [.t 42], none⟩]) (.seq (.ops false [] [⟨some 43, .p (.mov), [.t 12], none⟩, ⟨some 44, .p (.mov), [.t 13], none⟩, ⟨some 45, .p (.binI .quo), [.t 43, .t 44], none⟩, ⟨some 14, .p (.mov), [.t 45], none⟩]) (.seq (.seq (.ops false [] [⟨some 46, .p (.mov), [.t 12], none⟩, ⟨some 47, .p (.mov), [.t 13], none⟩, ⟨some 48, .p (.binI .rem), [.t 46, .t 47], none⟩, ⟨some 49, .p (.binI .lss), [.t 48, .c (.int .i64 0)], none⟩]) (.cond (.t 49) (.ops false [] [⟨some 50, .p (.mov), [.t 14], none⟩, ⟨some 51, .p (.binI .sub), [.t 50, .c (.int .i64 1)], none⟩, ⟨some 14, .p (.mov), [.t 51], none⟩]) (.skip))) (.seq (.ops false [] [⟨some 52, .p (.mov), [.t 14], none⟩, ⟨some 6, .p (.mov), [.t 52], none⟩]) (.ret))))))))
theorem c125 : FnC Try.prog 125 53 a125 [.tmp 6] := ⟨Try.call125, _, _, Try.func125, rfl, by kernel_rfl, by kernel_rfl, rfl⟩
def a154 : AC := .seq (.ops false [] [⟨some 1, .box 108 4 1 true, [.t 0], none⟩, ⟨some 2, .alloc 204 3 [.agg [.int .i64 0, .int .i64 0, .int .i64 0], .agg [.int .i64 0, .int .i64 0, .int .i64 0]], [], none⟩]) (.seq (.ops true [(1, 4), (3, 4), (1, 5), (3, 5), (4, 5), (3, 6)] [⟨some 5, .p (.faddr 0), [.t 1], none⟩, ⟨some 6, .load 2 true, [.t 5], none⟩, ⟨some 7, .p (.faddr 0), [.t 1], none⟩, ⟨some 8, .load 2 true, [.t 7], none⟩, ⟨some 3, .alloc 44 2 [.agg [.int .i64 0, .int .i64 0]], [], none⟩, ⟨some 4, .alloc 44 2 [.agg [.int .i64 0, .int .i64 0]], [], none⟩, ⟨none, .store 2 true, [.t 3, .t 6], none⟩, ⟨none, .store 2 true, [.t 4, .t 8], none⟩]) (.seq (.ops false [] [⟨some 9, .p (.faddr 0), [.t 3], none⟩, ⟨some 10, .load 1 false, [.t 9], none⟩, ⟨some 11, .p (.faddr 2), [.t 1], none⟩, ⟨some 12, .load 1 false, [.t 11], none⟩, ⟨some 13, .p (.binI .sub), [.t 10, .t 12], none⟩, ⟨some 14, .p (.faddr 0), [.t 3], none⟩, ⟨none, .store 1 false, [.t 14, .t 13], none⟩]) (.seq (.ops false [] [⟨some 15, .p (.faddr 0), [.t 4], none⟩, ⟨some 16, .load 1 false, [.t 15], none⟩, ⟨some 17, .p (.faddr 2), [.t 1], none⟩, ⟨some 18, .load 1 false, [.t 17], none⟩, ⟨some 19, .p (.binI .add), [.t 16, .t 18], none⟩, ⟨some 20, .p (.faddr 0), [.t 4], none⟩, ⟨none, .store 1 false, [.t 20, .t 19], none⟩]) (.seq (.ops false [] [⟨some 21, .load 2 true, [.t 3], none⟩, ⟨some 22, .p (.faddr 3), [.t 1], none⟩, ⟨some 23, .load 1 false, [.t 22], none⟩, ⟨some 24, .p (.build [.int .i64 0, .int .i64 0, .int .i64 0] [(0, 2), (2, 1)]), [.t 21, .t 23], none⟩, ⟨some 25, .load 2 true, [.t 4], none⟩, ⟨some 26, .p (.faddr 3), [.t 1], none⟩, ⟨some 27, .load 1 false, [.t 26], none⟩, ⟨some 28, .p (.neg), [.t 27], none⟩, ⟨some 29, .p (.build [.int .i64 0, .int .i64 0, .int .i64 0] [(0, 2), (2, 1)]), [.t 25, .t 28], none⟩, ⟨some 30, .p (.build [.int .i64 0, .int .i64 0, .int .i64 0, .int .i64 0, .int .i64 0, .int .i64 0] [(0, 3), (3, 3)]), [.t 24, .t 29], none⟩, ⟨none, .store 6 true, [.t 2, .t 30], none⟩]) (.ret)))))
theorem c154 : FnC Try.prog 154 31 a154 [.cell 2 6 true] := ⟨Try.call154, _, _, Try.func154, rfl, by kernel_rfl, by kernel_rfl, rfl⟩
namespace Wa
theorem mul_bd {a b A B : Int} (ha : -A ≤ a ∧ a ≤ A) (hb : -B ≤ b ∧ b ≤ B) : -(A * B) ≤ a * b ∧ a * b ≤ A * B := by
  have h1 : a.natAbs ≤ A.natAbs := by omega
  have h2 : b.natAbs ≤ B.natAbs := by omega
  have h3 := Nat.mul_le_mul h1 h2
  rw [← Int.natAbs_mul, ← Int.natAbs_mul] at h3
  have h4 : 0 ≤ A * B := Int.mul_nonneg (by omega) (by omega)
  generalize a * b = x at *
  generalize A * B = y at *
  omega
theorem ro_32 (a b c d e f : AV) : rowsOf 3 2 [a, b, c, d, e, f] = [.agg [a, b, c], .agg [d, e, f]] := rfl
def paB (p : Pa) : Prop := (ptR ⟨p.y, p.z⟩ ∧ (0 ≤ p.h ∧ p.h ≤ 100)) ∧ (-10000 ≤ p.s ∧ p.s ≤ 10000)
instance (p : Pa) : Decidable (paB p) := by unfold paB; infer_instance
theorem k_vortices (p : Pa) (hp : paB p) : FOk P 154 [ePa p] (.agg [I (p.y - p.h), I p.z, I p.s, I (p.y + p.h), I p.z, I (-p.s)]) := by
  unfold paB ptR siR heR at hp
  simp only at hp
  have w1 : IntKind.wrap .i64 (p.y - p.h) = p.y - p.h := wrap64 (by omega) (by omega)
  have w2 : IntKind.wrap .i64 (p.y + p.h) = p.y + p.h := wrap64 (by omega) (by omega)
  have w3 : IntKind.wrap .i64 (0 - p.s) = -p.s := by rw [wrap64 (by omega) (by omega)]; omega
  refine c154.fok rfl (Cor.run (noC_good _) (noHx_good _) hm ?_)
  simp +contextual -implicitDefEqProofs (maxSteps := 2000000) only [bg_eq, a154, w1, w2, w3, ro_32, ruB, rh_no, Int.reduceLT, Int.reduceLE, Int.reduceAdd, Int.reduceSub, Int.reduceMul, Int.reduceNeg, Int.reduceToNat, Int.reduceEq, Int.reduceNe, Int.reduceTDiv, Int.reduceTMod, implies_true, putL, appN, appX, appC, Eng.Fi, reduceCtorEq, exists_eq_left', exists_eq_left, if_true, if_false, List.replicate, Nat.reduceAdd, Nat.reduceSub, Nat.reduceMul, Nat.reduceLeDiff, Nat.reduceLT, Nat.reduceEqDiff]
def cf_vortices : List AV → Option AV
  | [.agg [.int .i64 p_y, .int .i64 p_z, .int .i64 p_h, .int .i64 p_s]] => if paB (⟨p_y, p_z, p_h, p_s⟩ : Pa) then some (.agg [I ((⟨p_y, p_z, p_h, p_s⟩ : Pa).y - (⟨p_y, p_z, p_h, p_s⟩ : Pa).h), I (⟨p_y, p_z, p_h, p_s⟩ : Pa).z, I (⟨p_y, p_z, p_h, p_s⟩ : Pa).s, I ((⟨p_y, p_z, p_h, p_s⟩ : Pa).y + (⟨p_y, p_z, p_h, p_s⟩ : Pa).h), I (⟨p_y, p_z, p_h, p_s⟩ : Pa).z, I (-(⟨p_y, p_z, p_h, p_s⟩ : Pa).s)]) else none
  | _ => none
theorem g_vortices : Fn P 154 cf_vortices := fun args v hh => by
  unfold cf_vortices at hh; split at hh
  · split at hh
    · rename_i hc; have hk := Option.some.inj hh; subst hk; exact k_vortices ⟨_, _, _, _⟩ hc
    · cases hh
  · cases hh
theorem x_vortices (p : Pa) (hc : (paB p) = True) : cf_vortices [.agg [I p.y, I p.z, I p.h, I p.s]] = some (.agg [I (p.y - p.h), I p.z, I p.s, I (p.y + p.h), I p.z, I (-p.s)]) := by
  exact if_pos (by rw [hc]; trivial)
def rnV (v : Vo) (s : Su) (p : Pt) : Int := v.s * ((p.y - v.y) * (p.z - s.z) - (p.z - v.z) * (p.y - s.y))
def rdV (v : Vo) (s : Su) (p : Pt) : Int := (p.y - v.y) * (p.y - v.y) + (p.z - v.z) * (p.z - v.z) + s.c
def suR (s : Su) : Prop := ptR ⟨s.y, s.z⟩ ∧ (1 ≤ s.c ∧ s.c ≤ 10000)
instance (s : Su) : Decidable (suR s) := by unfold suR; infer_instance
def raB (v : Vo) (s : Su) (p : Pt) : Prop := (((-1100 ≤ v.y ∧ v.y ≤ 1100) ∧ heR v.z) ∧ (-10000 ≤ v.s ∧ v.s ≤ 10000)) ∧ suR s ∧ ptR p
instance (v : Vo) (s : Su) (p : Pt) : Decidable (raB v s p) := by unfold raB; infer_instance
theorem ra_bd {v : Vo} {s : Su} {p : Pt} (h : raB v s p) : (-41000000000 ≤ rnV v s p ∧ rnV v s p ≤ 41000000000) ∧ (1 ≤ rdV v s p ∧ rdV v s p ≤ 6000000) := by
  unfold raB suR ptR siR heR at h
  simp only at h
  have p1 := mul_bd (a := p.y - v.y) (b := p.z - s.z) (A := 2100) (B := 1000) (by omega) (by omega)
  have p2 := mul_bd (a := p.z - v.z) (b := p.y - s.y) (A := 1000) (B := 2000) (by omega) (by omega)
  have p3 := mul_bd (a := v.s) (b := (p.y - v.y) * (p.z - s.z) - (p.z - v.z) * (p.y - s.y)) (A := 10000) (B := 4100000) (by omega) (by omega)
  have p4 := mul_bd (a := p.y - v.y) (b := p.y - v.y) (A := 2100) (B := 2100) (by omega) (by omega)
  have p5 := mul_bd (a := p.z - v.z) (b := p.z - v.z) (A := 1000) (B := 1000) (by omega) (by omega)
  have q4 : 0 ≤ (p.y - v.y) * (p.y - v.y) := by
    rcases Int.le_total 0 (p.y - v.y) with g | g
    · exact Int.mul_nonneg g g
    · exact Int.mul_nonneg_of_nonpos_of_nonpos g g
  have q5 : 0 ≤ (p.z - v.z) * (p.z - v.z) := by
    rcases Int.le_total 0 (p.z - v.z) with g | g
    · exact Int.mul_nonneg g g
    · exact Int.mul_nonneg_of_nonpos_of_nonpos g g
  unfold rnV rdV
  omega
theorem k_radial (v : Vo) (s : Su) (p : Pt) (h : raB v s p) : FOk P 115 [eVo v, eSu s, ePt p] (.tup [I (rnV v s p), I (rdV v s p)]) := by
  have hb := ra_bd h
  unfold raB suR ptR siR heR at h
  simp only at h
  have p1 := mul_bd (a := p.y - v.y) (b := p.z - s.z) (A := 2100) (B := 1000) (by omega) (by omega)
  have p2 := mul_bd (a := p.z - v.z) (b := p.y - s.y) (A := 1000) (B := 2000) (by omega) (by omega)
  have p4 := mul_bd (a := p.y - v.y) (b := p.y - v.y) (A := 2100) (B := 2100) (by omega) (by omega)
  have p5 := mul_bd (a := p.z - v.z) (b := p.z - v.z) (A := 1000) (B := 1000) (by omega) (by omega)
  have e1 : IntKind.wrap .i64 (p.y - v.y) = p.y - v.y := wrap64 (by omega) (by omega)
  have e2 : IntKind.wrap .i64 (p.z - v.z) = p.z - v.z := wrap64 (by omega) (by omega)
  have e3 : IntKind.wrap .i64 (p.y - s.y) = p.y - s.y := wrap64 (by omega) (by omega)
  have e4 : IntKind.wrap .i64 (p.z - s.z) = p.z - s.z := wrap64 (by omega) (by omega)
  have e5 : IntKind.wrap .i64 ((p.y - v.y) * (p.z - s.z)) = (p.y - v.y) * (p.z - s.z) := wrap64 (by omega) (by omega)
  have e6 : IntKind.wrap .i64 ((p.z - v.z) * (p.y - s.y)) = (p.z - v.z) * (p.y - s.y) := wrap64 (by omega) (by omega)
  have e7 : IntKind.wrap .i64 ((p.y - v.y) * (p.z - s.z) - (p.z - v.z) * (p.y - s.y)) = (p.y - v.y) * (p.z - s.z) - (p.z - v.z) * (p.y - s.y) := wrap64 (by omega) (by omega)
  have e8 : IntKind.wrap .i64 (v.s * ((p.y - v.y) * (p.z - s.z) - (p.z - v.z) * (p.y - s.y))) = rnV v s p := wrap64 (by unfold rnV at hb; omega) (by unfold rnV at hb; omega)
  have e9 : IntKind.wrap .i64 ((p.y - v.y) * (p.y - v.y)) = (p.y - v.y) * (p.y - v.y) := wrap64 (by omega) (by omega)
  have f1 : IntKind.wrap .i64 ((p.z - v.z) * (p.z - v.z)) = (p.z - v.z) * (p.z - v.z) := wrap64 (by omega) (by omega)
  have f2 : IntKind.wrap .i64 ((p.y - v.y) * (p.y - v.y) + (p.z - v.z) * (p.z - v.z)) = (p.y - v.y) * (p.y - v.y) + (p.z - v.z) * (p.z - v.z) := wrap64 (by omega) (by omega)
  have f3 : IntKind.wrap .i64 ((p.y - v.y) * (p.y - v.y) + (p.z - v.z) * (p.z - v.z) + s.c) = rdV v s p := wrap64 (by omega) (by omega)
  refine c115.fok rfl (Cor.run (noC_good _) (noHx_good _) hm ?_)
  simp +contextual -implicitDefEqProofs (maxSteps := 2000000) only [bg_eq, a115, e1, e2, e3, e4, e5, e6, e7, e8, e9, f1, f2, f3, ruB, rh_no, Int.reduceLT, Int.reduceLE, Int.reduceAdd, Int.reduceSub, Int.reduceMul, Int.reduceNeg, Int.reduceToNat, Int.reduceEq, Int.reduceNe, Int.reduceTDiv, Int.reduceTMod, implies_true, putL, appN, appX, appC, Eng.Fi, reduceCtorEq, exists_eq_left', exists_eq_left, if_true, if_false, List.replicate, Nat.reduceAdd, Nat.reduceSub, Nat.reduceMul, Nat.reduceLeDiff, Nat.reduceLT, Nat.reduceEqDiff]
def cf_radial : List AV → Option AV
  | [.agg [.int .i64 v_y, .int .i64 v_z, .int .i64 v_s], .agg [.int .i64 s_y, .int .i64 s_z, .int .i64 s_c], .agg [.int .i64 p_y, .int .i64 p_z]] => if raB (⟨v_y, v_z, v_s⟩ : Vo) (⟨s_y, s_z, s_c⟩ : Su) (⟨p_y, p_z⟩ : Pt) then some (.tup [I (rnV (⟨v_y, v_z, v_s⟩ : Vo) (⟨s_y, s_z, s_c⟩ : Su) (⟨p_y, p_z⟩ : Pt)), I (rdV (⟨v_y, v_z, v_s⟩ : Vo) (⟨s_y, s_z, s_c⟩ : Su) (⟨p_y, p_z⟩ : Pt))]) else none
  | _ => none
theorem g_radial : Fn P 115 cf_radial := fun args v hh => by
  unfold cf_radial at hh; split at hh
  · split at hh
    · rename_i hc; have hk := Option.some.inj hh; subst hk; exact k_radial ⟨_, _, _⟩ ⟨_, _, _⟩ ⟨_, _⟩ hc
    · cases hh
  · cases hh
theorem x_radial (v : Vo) (s : Su) (p : Pt) (hc : (raB v s p) = True) : cf_radial [.agg [I v.y, I v.z, I v.s], .agg [I s.y, I s.z, I s.c], .agg [I p.y, I p.z]] = some (.tup [I (rnV v s p), I (rdV v s p)]) := by
  exact if_pos (by rw [hc]; trivial)
def vL (p : Pa) : Vo := ⟨p.y - p.h, p.z, p.s⟩
def vR (p : Pa) : Vo := ⟨p.y + p.h, p.z, -p.s⟩
def prN (p : Pa) (s : Su) (q : Pt) : Int := rnV (vL p) s q * rdV (vR p) s q + rnV (vR p) s q * rdV (vL p) s q
def prD (p : Pa) (s : Su) (q : Pt) : Int := rdV (vL p) s q * rdV (vR p) s q
def prV (p : Pa) (s : Su) (q : Pt) : Int := if (prN p s q).tmod (prD p s q) < 0 then (prN p s q).tdiv (prD p s q) - 1 else (prN p s q).tdiv (prD p s q)
def prB (p : Pa) (s : Su) (q : Pt) : Prop := paB p ∧ suR s ∧ ptR q
instance (p : Pa) (s : Su) (q : Pt) : Decidable (prB p s q) := by unfold prB; infer_instance
theorem k_product (p : Pa) (s : Su) (q : Pt) (h : prB p s q) : FOk P 125 [ePa p, eSu s, ePt q] (I (prV p s q)) := by
  have hL : raB (vL p) s q := by
    unfold prB paB ptR siR heR at h; unfold raB vL heR; simp only at h ⊢
    exact ⟨by omega, h.2.1, by unfold ptR siR heR; exact h.2.2⟩
  have hR : raB (vR p) s q := by
    unfold prB paB ptR siR heR at h; unfold raB vR heR; simp only at h ⊢
    exact ⟨by omega, h.2.1, by unfold ptR siR heR; exact h.2.2⟩
  have yv := x_vortices p (by simp only [h.1])
  have y1 := x_radial (vL p) s q (by simp only [hL])
  have y2 := x_radial (vR p) s q (by simp only [hR])
  simp only [vL, vR] at y1 y2
  obtain ⟨⟨a1, a2⟩, a3, a4⟩ := ra_bd hL
  obtain ⟨⟨b1, b2⟩, b3, b4⟩ := ra_bd hR
  have p1 := mul_bd (a := rnV (vL p) s q) (b := rdV (vR p) s q) (A := 41000000000) (B := 6000000) (by omega) (by omega)
  have p2 := mul_bd (a := rnV (vR p) s q) (b := rdV (vL p) s q) (A := 41000000000) (B := 6000000) (by omega) (by omega)
  have p3 := mul_bd (a := rdV (vL p) s q) (b := rdV (vR p) s q) (A := 6000000) (B := 6000000) (by omega) (by omega)
  have hD : 0 < prD p s q := Int.mul_pos (by omega) (by omega)
  have w1 : IntKind.wrap .i64 (rnV (vL p) s q * rdV (vR p) s q) = rnV (vL p) s q * rdV (vR p) s q := wrap64 (by omega) (by omega)
  have w2 : IntKind.wrap .i64 (rnV (vR p) s q * rdV (vL p) s q) = rnV (vR p) s q * rdV (vL p) s q := wrap64 (by omega) (by omega)
  have w3 : IntKind.wrap .i64 (rnV (vL p) s q * rdV (vR p) s q + rnV (vR p) s q * rdV (vL p) s q) = prN p s q := wrap64 (by omega) (by omega)
  have w4 : IntKind.wrap .i64 (rdV (vL p) s q * rdV (vR p) s q) = prD p s q := wrap64 (by omega) (by omega)
  have hq : (prN p s q).natAbs / (prD p s q).natAbs ≤ (prN p s q).natAbs := Nat.div_le_self _ _
  have hq2 : ((prN p s q).tdiv (prD p s q)).natAbs = (prN p s q).natAbs / (prD p s q).natAbs := Int.natAbs_tdiv _ _
  have hN : -600000000000000000 ≤ prN p s q ∧ prN p s q ≤ 600000000000000000 := by unfold prN; omega
  have w5 : IntKind.wrap .i64 ((prN p s q).tdiv (prD p s q)) = (prN p s q).tdiv (prD p s q) := wrap64 (by omega) (by omega)
  have w6 : IntKind.wrap .i64 ((prN p s q).tdiv (prD p s q) - 1) = (prN p s q).tdiv (prD p s q) - 1 := wrap64 (by omega) (by omega)
  have d0 : (prD p s q = 0) = False := eq_false (by omega)
  simp only [vL, vR] at w1 w2 w3 w4
  by_cases hm0 : (prN p s q).tmod (prD p s q) < 0
  · have hm1 := eq_true hm0
    rw [prV, if_pos hm0]
    refine c125.fok rfl (Cor.run (addC_good g_radial (addC_good g_vortices (noC_good _))) (noHx_good _) hm ?_)
    simp +contextual -implicitDefEqProofs (maxSteps := 2000000) only [bg_eq, a125, ro_32, yv, y1, y2, w1, w2, w3, w4, w5, w6, d0, hm1, ruB, rh_no, Int.reduceLT, Int.reduceLE, Int.reduceAdd, Int.reduceSub, Int.reduceMul, Int.reduceNeg, Int.reduceToNat, Int.reduceEq, Int.reduceNe, Int.reduceTDiv, Int.reduceTMod, implies_true, putL, appN, appX, appC, Eng.Fi, reduceCtorEq, exists_eq_left', exists_eq_left, if_true, if_false, List.replicate, Nat.reduceAdd, Nat.reduceSub, Nat.reduceMul, Nat.reduceLeDiff, Nat.reduceLT, Nat.reduceEqDiff]
  · have hm1 := eq_false hm0
    rw [prV, if_neg hm0]
    refine c125.fok rfl (Cor.run (addC_good g_radial (addC_good g_vortices (noC_good _))) (noHx_good _) hm ?_)
    simp +contextual -implicitDefEqProofs (maxSteps := 2000000) only [bg_eq, a125, ro_32, yv, y1, y2, w1, w2, w3, w4, w5, w6, d0, hm1, ruB, rh_no, Int.reduceLT, Int.reduceLE, Int.reduceAdd, Int.reduceSub, Int.reduceMul, Int.reduceNeg, Int.reduceToNat, Int.reduceEq, Int.reduceNe, Int.reduceTDiv, Int.reduceTMod, implies_true, putL, appN, appX, appC, Eng.Fi, reduceCtorEq, exists_eq_left', exists_eq_left, if_true, if_false, List.replicate, Nat.reduceAdd, Nat.reduceSub, Nat.reduceMul, Nat.reduceLeDiff, Nat.reduceLT, Nat.reduceEqDiff]
def cf_product : List AV → Option AV
  | [.agg [.int .i64 p_y, .int .i64 p_z, .int .i64 p_h, .int .i64 p_s], .agg [.int .i64 s_y, .int .i64 s_z, .int .i64 s_c], .agg [.int .i64 q_y, .int .i64 q_z]] => if prB (⟨p_y, p_z, p_h, p_s⟩ : Pa) (⟨s_y, s_z, s_c⟩ : Su) (⟨q_y, q_z⟩ : Pt) then some (I (prV (⟨p_y, p_z, p_h, p_s⟩ : Pa) (⟨s_y, s_z, s_c⟩ : Su) (⟨q_y, q_z⟩ : Pt))) else none
  | _ => none
theorem g_product : Fn P 125 cf_product := fun args v hh => by
  unfold cf_product at hh; split at hh
  · split at hh
    · rename_i hc; have hk := Option.some.inj hh; subst hk; exact k_product ⟨_, _, _, _⟩ ⟨_, _, _⟩ ⟨_, _⟩ hc
    · cases hh
  · cases hh
theorem x_product (p : Pa) (s : Su) (q : Pt) (hc : (prB p s q) = True) : cf_product [.agg [I p.y, I p.z, I p.h, I p.s], .agg [I s.y, I s.z, I s.c], .agg [I q.y, I q.z]] = some (I (prV p s q)) := by
  exact if_pos (by rw [hc]; trivial)
def raE (p : Pa) (s : Su) (q : Pt) : Int := firstE [paE p, suE s, ptE q]
def raV (p : Pa) (s : Su) (q : Pt) : AV := if raE p s q = 0 then .tup [I (prV p s q), I 0] else .tup [I 0, I (raE p s q)]
theorem raE_z {p : Pa} {s : Su} {q : Pt} (h : raE p s q = 0) : prB p s q := by
  have z := firstE_zero h
  have z1 := firstE_zero (z (paE p) (by simp))
  have z2 := firstE_zero (z (suE s) (by simp))
  have a1 := unl_zero (z1 (ptE ⟨p.y, p.z⟩) (by simp)) (by decide)
  have a2 := unl_zero (z1 (unl ((1 ≤ p.h ∧ p.h ≤ 100) ∧ (1 ≤ p.s ∧ p.s ≤ 10000)) 2) (by simp)) (by decide)
  have a3 := unl_zero (z2 (ptE ⟨s.y, s.z⟩) (by simp)) (by decide)
  have a4 := unl_zero (z2 (unl (1 ≤ s.c ∧ s.c ≤ 10000) 2) (by simp)) (by decide)
  have a5 := unl_zero (z (ptE q) (by simp)) (by decide)
  exact ⟨⟨⟨a1, by omega⟩, by omega⟩, ⟨a3, a4⟩, a5⟩
theorem k_RadialAt (p : Pa) (s : Su) (q : Pt) : FOk P 60 [ePa p, eSu s, ePt q] (raV p s q) := by
  by_cases h0 : raE p s q = 0
  · have y := x_product p s q (by simp only [raE_z h0])
    rw [raV, if_pos h0]
    refine c60.fok rfl (Cor.run (addC_good g_product (addC_good g_first (addC_good g_pointErr (addC_good g_setupErr (addC_good g_CheckPair (noC_good _)))))) (noHx_good _) hm ?_)
    have h1 := h0
    unfold raE at h1
    simp +contextual -implicitDefEqProofs (maxSteps := 2000000) only [bg_eq, a60, x_CheckPair, x_setupErr, x_pointErr, x_first, y_first, y, h1, not_true_eq_false, ruB, rh_no, Int.reduceLT, Int.reduceLE, Int.reduceAdd, Int.reduceSub, Int.reduceMul, Int.reduceNeg, Int.reduceToNat, Int.reduceEq, Int.reduceNe, Int.reduceTDiv, Int.reduceTMod, implies_true, putL, appN, appX, appC, Eng.Fi, reduceCtorEq, exists_eq_left', exists_eq_left, if_true, if_false, List.replicate, Nat.reduceAdd, Nat.reduceSub, Nat.reduceMul, Nat.reduceLeDiff, Nat.reduceLT, Nat.reduceEqDiff]
  · rw [raV, if_neg h0]
    refine c60.fok rfl (Cor.run (addC_good g_product (addC_good g_first (addC_good g_pointErr (addC_good g_setupErr (addC_good g_CheckPair (noC_good _)))))) (noHx_good _) hm ?_)
    unfold raE at h0 ⊢
    simp +contextual -implicitDefEqProofs (maxSteps := 2000000) only [bg_eq, a60, x_CheckPair, x_setupErr, x_pointErr, x_first, y_first, h0, not_false_eq_true, ruB, rh_no, Int.reduceLT, Int.reduceLE, Int.reduceAdd, Int.reduceSub, Int.reduceMul, Int.reduceNeg, Int.reduceToNat, Int.reduceEq, Int.reduceNe, Int.reduceTDiv, Int.reduceTMod, implies_true, putL, appN, appX, appC, Eng.Fi, reduceCtorEq, exists_eq_left', exists_eq_left, if_true, if_false, List.replicate, Nat.reduceAdd, Nat.reduceSub, Nat.reduceMul, Nat.reduceLeDiff, Nat.reduceLT, Nat.reduceEqDiff]
def cf_RadialAt : List AV → Option AV
  | [.agg [.int .i64 p_y, .int .i64 p_z, .int .i64 p_h, .int .i64 p_s], .agg [.int .i64 s_y, .int .i64 s_z, .int .i64 s_c], .agg [.int .i64 q_y, .int .i64 q_z]] => some (raV (⟨p_y, p_z, p_h, p_s⟩ : Pa) (⟨s_y, s_z, s_c⟩ : Su) (⟨q_y, q_z⟩ : Pt))
  | _ => none
theorem g_RadialAt : Fn P 60 cf_RadialAt := fun args v hh => by
  unfold cf_RadialAt at hh; split at hh
  · have hk := Option.some.inj hh; subst hk; exact k_RadialAt ⟨_, _, _, _⟩ ⟨_, _, _⟩ ⟨_, _⟩
  · cases hh
theorem x_RadialAt (p : Pa) (s : Su) (q : Pt) : cf_RadialAt [.agg [I p.y, I p.z, I p.h, I p.s], .agg [I s.y, I s.z, I s.c], .agg [I q.y, I q.z]] = some (raV p s q) := by
  rfl
end Wa
