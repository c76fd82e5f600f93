import Derived.Test.YtabkbhpeeefmgaaEngS9
import Derived.Test.YtabkbhpeeefmgaaW903
import Derived.Test.YtabkbhpeeefmgaaEngSH
open Go Go.Proofs Eng
set_option maxRecDepth 100000
set_option linter.unusedSimpArgs false
set_option linter.unusedVariables false
def a123 : AC := .seq (.ops false [] [⟨some 2, .p (.mov), [.c (.int .i64 0)], none⟩]) (.seq (.seq (.ops false [] [⟨some 3, .p (.mov), [.t 0], none⟩, ⟨some 4, .p (.lenS), [.t 3], none⟩, ⟨some 5, .p (.binI .gtr), [.t 4, .c (.int .i64 12)], none⟩]) (.cond (.t 5) (.seq (.ops false [] [⟨some 2, .p (.mov), [.c (.int .i64 8)], none⟩]) (.ret)) (.skip))) (.seq (.ops false [] [⟨some 6, .p (.mov), [.t 0], none⟩, ⟨some 7, .call 152, [.t 6, .c (.fn 153 [] [])], none⟩, ⟨some 2, .p (.mov), [.t 7], none⟩]) (.ret)))
theorem c123 : FnC Try.prog 123 8 a123 [.tmp 2] := ⟨Try.call123, _, _, Try.func123, rfl, by kernel_rfl, by kernel_rfl, rfl⟩
def a124 : AC := .seq (.ops false [] [⟨some 3, .box 108 4 1 true, [.t 0], none⟩, ⟨some 4, .box 90 3 1 true, [.t 1], none⟩, ⟨some 6, .p (.mov), [.c (.int .i64 0)], none⟩]) (.seq (.ops false [] [⟨some 7, .p (.mov), [.c (.int .i64 0)], none⟩]) (.seq (.seq (.ops false [] [⟨some 10, .p (.mov), [.t 2], none⟩, ⟨some 11, .p (.lenS), [.t 10], none⟩, ⟨some 12, .p (.mov), [.c (.int .i64 0)], none⟩]) (.block 0 (.loop (.seq (.ops false [] [⟨some 13, .p (.binI .lss), [.t 12, .t 11], none⟩]) (.seq (.cond (.t 13) (.skip) (.exit 0)) (.seq (.block 1 (.seq (.ops false [] [⟨some 14, .p (.iaddrS 3), [.t 10, .t 12], none⟩, ⟨some 15, .load 3 true, [.t 14], none⟩, ⟨some 9, .alloc 118 3 [.agg [.int .i64 0, .int .i64 0, .int .i64 0]], [], none⟩, ⟨none, .store 3 true, [.t 9, .t 15], none⟩]) (.ops true [] [⟨some 16, .p (.mov), [.t 7], none⟩, ⟨some 17, .load 4 true, [.t 3], none⟩, ⟨some 18, .load 3 true, [.t 4], none⟩, ⟨some 19, .p (.faddr 0), [.t 9], none⟩, ⟨some 20, .load 2 true, [.t 19], none⟩, ⟨some 21, .call 125, [.t 17, .t 18, .t 20], none⟩, ⟨some 22, .p (.faddr 2), [.t 9], none⟩, ⟨some 23, .load 1 false, [.t 22], none⟩, ⟨some 24, .p (.binI .sub), [.t 21, .t 23], none⟩, ⟨some 25, .call 143, [.t 24], none⟩, ⟨some 26, .p (.binI .add), [.t 16, .t 25], none⟩, ⟨some 7, .p (.mov), [.t 26], none⟩]))) (.ops false [] [⟨some 27, .p (.binI .add), [.t 12, .c (.int .i64 1)], none⟩, ⟨some 12, .p (.mov), [.t 27], none⟩]))))))) (.seq (.ops false [] [⟨some 28, .p (.mov), [.t 7], none⟩, ⟨some 6, .p (.mov), [.t 28], none⟩]) (.ret))))
theorem c124 : FnC Try.prog 124 29 a124 [.tmp 6] := ⟨Try.call124, _, _, Try.func124, rfl, by kernel_rfl, by kernel_rfl, rfl⟩
def a143 : AC := .seq (.ops false [] [⟨some 2, .p (.mov), [.c (.int .i64 0)], none⟩]) (.seq (.ops false [] [⟨some 3, .p (.mov), [.t 0], none⟩, ⟨some 4, .p (.mov), [.t 0], none⟩, ⟨some 5, .p (.neg), [.t 4], none⟩, ⟨some 6, .p (.mm true), [.t 3, .t 5], none⟩, ⟨some 2, .p (.mov), [.t 6], none⟩]) (.ret))
theorem c143 : FnC Try.prog 143 7 a143 [.tmp 2] := ⟨Try.call143, _, _, Try.func143, rfl, by kernel_rfl, by kernel_rfl, rfl⟩
def a152 : AC := .seq (.ops false [] [⟨some 4, .p (.mov), [.c (.int .i64 0)], none⟩]) (.seq (.seq (.ops false [] [⟨some 8, .p (.mov), [.t 0], none⟩, ⟨some 9, .p (.lenS), [.t 8], none⟩, ⟨some 10, .p (.mov), [.c (.int .i64 0)], none⟩]) (.block 0 (.loop (.seq (.ops false [] [⟨some 11, .p (.binI .lss), [.t 10, .t 9], none⟩]) (.seq (.cond (.t 11) (.skip) (.exit 0)) (.seq (.block 1 (.seq (.ops false [] [⟨some 12, .p (.iaddrS 3), [.t 8, .t 10], none⟩, ⟨some 13, .load 3 true, [.t 12], none⟩, ⟨some 6, .alloc 118 3 [.agg [.int .i64 0, .int .i64 0, .int .i64 0]], [], none⟩, ⟨none, .store 3 true, [.t 6, .t 13], none⟩]) (.seq (.ops false [] [⟨some 14, .p (.mov), [.t 1], none⟩, ⟨some 15, .load 3 true, [.t 6], none⟩, ⟨some 16, .callv, [.t 14, .t 15], none⟩, ⟨some 7, .p (.mov), [.t 16], none⟩]) (.seq (.ops false [] [⟨some 17, .p (.mov), [.t 7], none⟩, ⟨some 18, .p (.binI .neq), [.t 17, .c (.int .i64 0)], none⟩]) (.cond (.t 18) (.seq (.ops false [] [⟨some 19, .p (.mov), [.t 7], none⟩, ⟨some 4, .p (.mov), [.t 19], none⟩]) (.ret)) (.skip)))))) (.ops false [] [⟨some 20, .p (.binI .add), [.t 10, .c (.int .i64 1)], none⟩, ⟨some 10, .p (.mov), [.t 20], none⟩]))))))) (.seq (.ops false [] [⟨some 4, .p (.mov), [.c (.int .i64 0)], none⟩]) (.ret)))
theorem c152 : FnC Try.prog 152 21 a152 [.tmp 4] := ⟨Try.call152, _, _, Try.func152, rfl, by kernel_rfl, by kernel_rfl, rfl⟩
def a153 : AC := .seq (.ops false [] [⟨some 1, .box 118 3 1 true, [.t 0], none⟩, ⟨some 2, .p (.mov), [.c (.int .i64 0)], none⟩]) (.seq (.ops true [] [⟨some 3, .p (.faddr 0), [.t 1], none⟩, ⟨some 4, .load 2 true, [.t 3], none⟩, ⟨some 5, .call 114, [.t 4], none⟩, ⟨some 6, .p (.faddr 2), [.t 1], none⟩, ⟨some 7, .load 1 false, [.t 6], none⟩, ⟨some 8, .call 116, [.t 7, .c (.int .i64 1000000000)], none⟩, ⟨some 9, .call 91, [.t 8, .c (.int .i64 2)], none⟩, ⟨some 10, .fbs 1, [.t 5, .t 9], none⟩, ⟨some 11, .call 79, [.t 10], none⟩, ⟨some 2, .p (.mov), [.t 11], none⟩]) (.ret))
theorem c153 : FnC Try.prog 153 12 a153 [.tmp 2] := ⟨Try.call153, _, _, Try.func153, rfl, by kernel_rfl, by kernel_rfl, rfl⟩
namespace Wa
structure Rg where
  y : Int
  z : Int
  p : Int
  deriving DecidableEq
abbrev eRg (x : Rg) : AV := .agg [I x.y, I x.z, I x.p]
def dRg : AV → Option Rg
  | .agg [.int .i64 y, .int .i64 z, .int .i64 p] => some ⟨y, z, p⟩
  | _ => none
theorem dRg_e (x : Rg) : dRg (eRg x) = some x := rfl
theorem dRg_inv (v : AV) (x : Rg) (h : dRg v = some x) : v = eRg x := by
  unfold dRg at h
  split at h
  · cases h; rfl
  · cases h
theorem free_Rg (φ : Nat → Fate) (l : List Rg) : subs φ (l.map eRg) = l.map eRg := subs_mapE φ _ (fun _ => rfl) l
theorem k_size (n : Int) (h : -4611686018427387904 ≤ n ∧ n ≤ 4611686018427387904) : FOk P 143 [I n] (I (max n (-n))) := by
  have w : IntKind.wrap .i64 (0 - n) = -n := by rw [wrap64 (by omega) (by omega)]; omega
  refine c143.fok rfl (Cor.run (noC_good _) (noHx_good _) hm ?_)
  simp +contextual -implicitDefEqProofs (maxSteps := 2000000) only [bg_eq, a143, w, ruB, rh_no, Int.reduceLT, Int.reduceLE, Int.reduceAdd, Int.reduceSub, Int.reduceMul, Int.reduceNeg, Int.reduceToNat, Int.reduceEq, Int.reduceNe, Int.reduceTDiv, Int.reduceTMod, implies_true, putL, appN, appX, appC, Eng.Fi, reduceCtorEq, exists_eq_left', exists_eq_left, if_true, if_false, List.replicate, Nat.reduceAdd, Nat.reduceSub, Nat.reduceMul, Nat.reduceLeDiff, Nat.reduceLT, Nat.reduceEqDiff]
def cf_size : List AV → Option AV
  | [.int .i64 n] => if -4611686018427387904 ≤ n ∧ n ≤ 4611686018427387904 then some (.int .i64 (max n (-n))) else none
  | _ => none
theorem g_size : Fn P 143 cf_size := fun args v hh => by
  unfold cf_size at hh; split at hh
  · split at hh
    · rename_i hc; have hk := Option.some.inj hh; subst hk; exact k_size _ hc
    · cases hh
  · cases hh
theorem x_size (n : Int) (hc : (-4611686018427387904 ≤ n ∧ n ≤ 4611686018427387904) = True) : cf_size [.int .i64 n] = some (.int .i64 (max n (-n))) := by
  exact if_pos (by rw [hc]; trivial)
/-- what a radial product is at most -/
theorem rn_le {v : Vo} {s : Su} {p : Pt} (h : raB v s p) : -(20000000 * rdV v s p) ≤ rnV v s p ∧ rnV v s p ≤ 20000000 * rdV v s p := by
  unfold raB suR ptR siR heR at h
  simp only at h
  have sq : ∀ x : Int, x ≤ x * x ∧ -x ≤ x * x := fun x => by
    rcases Int.lt_trichotomy x 0 with g | g | g
    · have h1 : (-x) * 1 ≤ (-x) * (-x) := Int.mul_le_mul_of_nonneg_left (by omega) (by omega)
      rw [Int.neg_mul_neg, Int.mul_one] at h1
      have := Int.mul_nonneg_of_nonpos_of_nonpos (Int.le_of_lt g) (Int.le_of_lt g)
      omega
    · subst g; simp
    · have h1 : x * 1 ≤ x * x := Int.mul_le_mul_of_nonneg_left (by omega) (by omega)
      rw [Int.mul_one] at h1
      have := Int.mul_nonneg (Int.le_of_lt g) (Int.le_of_lt g)
      omega
  have s1 := sq (p.y - v.y)
  have s2 := sq (p.z - v.z)
  have p1 := mul_bd (a := p.y - v.y) (b := p.z - s.z) (A := (p.y - v.y) * (p.y - v.y)) (B := 2000) (by omega) (by omega)
  have p2 := mul_bd (a := p.z - v.z) (b := p.y - s.y) (A := (p.z - v.z) * (p.z - v.z)) (B := 2000) (by omega) (by omega)
  have p3 := mul_bd (a := v.s) (b := (p.y - v.y) * (p.z - s.z) - (p.z - v.z) * (p.y - s.y)) (A := 10000) (B := ((p.y - v.y) * (p.y - v.y) + (p.z - v.z) * (p.z - v.z)) * 2000) (by omega) (by omega)
  unfold rnV rdV
  generalize (p.y - v.y) * (p.y - v.y) = x1 at *
  generalize (p.z - v.z) * (p.z - v.z) = x2 at *
  generalize v.s * ((p.y - v.y) * (p.z - s.z) - (p.z - v.z) * (p.y - s.y)) = x3 at *
  omega
theorem pr_parts {p : Pa} {s : Su} {q : Pt} (h : prB p s q) : raB (vL p) s q ∧ raB (vR p) s q := by
  constructor
  · unfold prB paB ptR siR heR at h; unfold raB vL heR; simp only at h ⊢
    exact ⟨by omega, h.2.1, by unfold ptR siR heR; exact h.2.2⟩
  · unfold prB paB ptR siR heR at h; unfold raB vR heR; simp only at h ⊢
    exact ⟨by omega, h.2.1, by unfold ptR siR heR; exact h.2.2⟩
theorem pr_le {p : Pa} {s : Su} {q : Pt} (h : prB p s q) : -40000001 ≤ prV p s q ∧ prV p s q ≤ 40000000 := by
  obtain ⟨hL, hR⟩ := pr_parts h
  have n1 := rn_le hL
  have n2 := rn_le hR
  obtain ⟨_, d1, _⟩ := ra_bd hL
  obtain ⟨_, d2, _⟩ := ra_bd hR
  have hD : 0 < prD p s q := Int.mul_pos (by omega) (by omega)
  have k1 : -(20000000 * prD p s q) ≤ rnV (vL p) s q * rdV (vR p) s q ∧ rnV (vL p) s q * rdV (vR p) s q ≤ 20000000 * prD p s q := by
    unfold prD
    have a := Int.mul_le_mul_of_nonneg_right n1.1 (show 0 ≤ rdV (vR p) s q by omega)
    have b := Int.mul_le_mul_of_nonneg_right n1.2 (show 0 ≤ rdV (vR p) s q by omega)
    rw [Int.neg_mul, Int.mul_assoc] at a
    rw [Int.mul_assoc] at b
    exact ⟨a, b⟩
  have k2 : -(20000000 * prD p s q) ≤ rnV (vR p) s q * rdV (vL p) s q ∧ rnV (vR p) s q * rdV (vL p) s q ≤ 20000000 * prD p s q := by
    unfold prD
    have a := Int.mul_le_mul_of_nonneg_right n2.1 (show 0 ≤ rdV (vL p) s q by omega)
    have b := Int.mul_le_mul_of_nonneg_right n2.2 (show 0 ≤ rdV (vL p) s q by omega)
    rw [Int.neg_mul, Int.mul_assoc, Int.mul_comm (rdV (vR p) s q)] at a
    rw [Int.mul_assoc, Int.mul_comm (rdV (vR p) s q)] at b
    exact ⟨a, b⟩
  have hN : -(40000000 * prD p s q) ≤ prN p s q ∧ prN p s q ≤ 40000000 * prD p s q := by unfold prN; omega
  have hq : -40000000 ≤ (prN p s q).tdiv (prD p s q) ∧ (prN p s q).tdiv (prD p s q) ≤ 40000000 := by
    have e := Int.mul_tdiv_add_tmod (prN p s q) (prD p s q)
    have m1 := Int.tmod_lt_of_pos (prN p s q) hD
    have m2 := Int.lt_tmod_of_pos (prN p s q) hD
    generalize (prN p s q).tdiv (prD p s q) = t at *
    generalize (prN p s q).tmod (prD p s q) = m at *
    generalize prD p s q = d at *
    generalize prN p s q = n at *
    constructor
    · refine Int.le_of_not_gt fun g => ?_
      have : d * t ≤ d * (-40000001) := Int.mul_le_mul_of_nonneg_left (by omega) (by omega)
      omega
    · refine Int.le_of_not_gt fun g => ?_
      have : d * 40000001 ≤ d * t := Int.mul_le_mul_of_nonneg_left (by omega) (by omega)
      omega
  unfold prV
  split <;> omega
def szV (n : Int) : Int := max n (-n)
def rgR (r : Rg) : Prop := ptR ⟨r.y, r.z⟩ ∧ (-1000000000 ≤ r.p ∧ r.p ≤ 1000000000)
instance (r : Rg) : Decidable (rgR r) := by unfold rgR; infer_instance
def mfS (p : Pa) (s : Su) : Int → List Rg → Int
  | a, [] => a
  | a, r :: l => mfS p s (a + szV (prV p s ⟨r.y, r.z⟩ - r.p)) l
def mfV (p : Pa) (s : Su) (l : List Rg) : Int := mfS p s 0 l
def mfB (p : Pa) (s : Su) (l : List Rg) : Prop := paB p ∧ suR s ∧ l.length ≤ 100 ∧ ∀ r ∈ l, rgR r
instance (p : Pa) (s : Su) (l : List Rg) : Decidable (mfB p s l) := by unfold mfB; infer_instance
theorem mf_term {p : Pa} {s : Su} {r : Rg} (hp : paB p) (hs : suR s) (hr : rgR r) : prB p s ⟨r.y, r.z⟩ ∧ -1100000000 ≤ prV p s ⟨r.y, r.z⟩ - r.p ∧ prV p s ⟨r.y, r.z⟩ - r.p ≤ 1100000000 ∧ 0 ≤ szV (prV p s ⟨r.y, r.z⟩ - r.p) ∧ szV (prV p s ⟨r.y, r.z⟩ - r.p) ≤ 1100000000 := by
  have h : prB p s ⟨r.y, r.z⟩ := ⟨hp, hs, hr.1⟩
  have := pr_le h
  have h2 := hr.2
  unfold szV
  exact ⟨h, by omega, by omega, by omega, by omega⟩
def S_mf0 (p : Pa) (s : Su) (l : List Rg) : AState := ⟨[.any, .any, .vs (l.map eRg), .vp [ePa p] 0 0, .vp [eSu s] 0 0, .any, .any, .any, .any, .any, .any, .any, .any, .any, .any, .any, .any, .any, .any, .any, .any, .any, .any, .any, .any, .any, .any, .any, .any], [], 0⟩
def S_mf (p : Pa) (s : Su) (l : List Rg) (q : Nat × Int) : AState := ⟨[.any, .any, .any, .vp [ePa p] 0 0, .vp [eSu s] 0 0, .any, .any, I q.2, .any, .any, .vs (l.map eRg), I l.length, I q.1, .any, .any, .any, .any, .any, .any, .any, .any, .any, .any, .any, .any, .any, .any, .any, .any], [], 0⟩
theorem k_misfit (p : Pa) (s : Su) (l : List Rg) (h : mfB p s l) : FOk P 124 [ePa p, eSu s, .vs (l.map eRg)] (I (mfV p s l)) := by
  obtain ⟨hp, hs, hl, hr⟩ := h
  refine c124.fok (y := YH P noHx) (by simp only [subs, sub1, free_Rg]) ?_
  rw [bg_eq]
  refine Cor.seq (Cor.run (noC_good _) (noHx_good _) hm ?_)
  simp +contextual -implicitDefEqProofs (maxSteps := 2000000) only [eThen_normal, ruB, rh_no, Int.reduceLT, Int.reduceLE, Int.reduceAdd, Int.reduceSub, Int.reduceMul, Int.reduceNeg, Int.reduceToNat, Int.reduceEq, Int.reduceNe, Int.reduceTDiv, Int.reduceTMod, implies_true, putL, appN, appX, appC, Eng.Fi, reduceCtorEq, exists_eq_left', exists_eq_left, if_true, if_false, List.replicate, Nat.reduceAdd, Nat.reduceSub, Nat.reduceMul, Nat.reduceLeDiff, Nat.reduceLT, Nat.reduceEqDiff]
  refine Cor.wk (s2 := S_mf0 p s l) (Wkn.to ⟨0, [], [0, 1], 0, [2, 3, 4]⟩ rfl rfl (by simp [Wk.st, keepT, memN, Wk.fate, Wk.fate0, assoc, getE, Wk.hp, ABlk.sub, sub1, subs, S_mf0, free_Rg])) ?_
  refine Cor.run (addC_good g_size (addC_good g_product (noC_good _))) (noHx_good _) hm ?_
  simp +contextual -implicitDefEqProofs (maxSteps := 2000000) only [S_mf0, List.length_map, ruB, rh_no, Int.reduceLT, Int.reduceLE, Int.reduceAdd, Int.reduceSub, Int.reduceMul, Int.reduceNeg, Int.reduceToNat, Int.reduceEq, Int.reduceNe, Int.reduceTDiv, Int.reduceTMod, implies_true, putL, appN, appX, appC, Eng.Fi, reduceCtorEq, exists_eq_left', exists_eq_left, if_true, if_false, List.replicate, Nat.reduceAdd, Nat.reduceSub, Nat.reduceMul, Nat.reduceLeDiff, Nat.reduceLT, Nat.reduceEqDiff]
  refine Cor.lp (addC_good g_size (addC_good g_product (noC_good _))) (noHx_good _) hm (S_mf p s l) (fun q => q.1 ≤ l.length ∧ (0 ≤ q.2 ∧ q.2 ≤ 1100000000 * (q.1 : Int)) ∧ mfV p s l = mfS p s q.2 (l.drop q.1)) (fun q => l.length - q.1) (a := (0, 0)) ⟨Nat.zero_le _, by simp, rfl⟩ (Wkn.keep [3, 4, 7, 10, 11, 12] rfl) ?_
  rintro f ⟨k, a⟩ ⟨hk, ha, hf⟩ go
  simp only at hk ha hf
  rcases Nat.lt_or_ge k l.length with h | h
  · have e1 : decide ((k : Int) < (l.length : Int)) = true := lt_t h
    have e2 : (l.map eRg)[k]? = some (eRg l[k]) := get_e eRg l h
    have e3 : IntKind.wrap .i64 ((k : Int) + 1) = ((k + 1 : Nat) : Int) := suc_w (by omega)
    have hrk := hr l[k] (by simp)
    rw [List.drop_eq_getElem_cons h, mfS] at hf
    generalize l[k] = r at *
    obtain ⟨g1, g2, g3, g4, g5⟩ := mf_term hp hs hrk
    have y := x_product p s ⟨r.y, r.z⟩ (by simp only [g1])
    have w1 : IntKind.wrap .i64 (prV p s ⟨r.y, r.z⟩ - r.p) = prV p s ⟨r.y, r.z⟩ - r.p := wrap64 (by omega) (by omega)
    have y2 := x_size (prV p s ⟨r.y, r.z⟩ - r.p) (by simp only [eq_iff_iff, iff_true]; omega)
    have y2 : cf_size [.int .i64 (prV p s ⟨r.y, r.z⟩ - r.p)] = some (.int .i64 (szV (prV p s ⟨r.y, r.z⟩ - r.p))) := y2
    have w2 : IntKind.wrap .i64 (a + szV (prV p s ⟨r.y, r.z⟩ - r.p)) = a + szV (prV p s ⟨r.y, r.z⟩ - r.p) := wrap64 (by omega) (by omega)
    simp +contextual -implicitDefEqProofs (maxSteps := 2000000) only [S_mf, e1, e2, e3, y, y2, w1, w2, ruB, rh_no, Int.reduceLT, Int.reduceLE, Int.reduceAdd, Int.reduceSub, Int.reduceMul, Int.reduceNeg, Int.reduceToNat, Int.reduceEq, Int.reduceNe, Int.reduceTDiv, Int.reduceTMod, implies_true, putL, appN, appX, appC, Eng.Fi, reduceCtorEq, exists_eq_left', exists_eq_left, if_true, if_false, List.replicate, Nat.reduceAdd, Nat.reduceSub, Nat.reduceMul, Nat.reduceLeDiff, Nat.reduceLT, Nat.reduceEqDiff]
    exact go _ (k + 1, a + szV (prV p s ⟨r.y, r.z⟩ - r.p)) ⟨h, by simp only; omega, hf⟩ (by simp only; omega) (Wkn.to ⟨0, [], [], 0, [3, 4, 7, 10, 11, 12]⟩ rfl rfl (by simp only [Wk.st, keepT, sub1, subs, Wk.hp, ABlk.sub, S_mf, free_Rg]; try rfl))
  · have e1 : decide ((k : Int) < (l.length : Int)) = false := lt_f h
    rw [List.drop_eq_nil_of_le h, mfS] at hf
    rw [hf]
    simp +contextual -implicitDefEqProofs (maxSteps := 2000000) only [S_mf, e1, ruB, rh_no, Int.reduceLT, Int.reduceLE, Int.reduceAdd, Int.reduceSub, Int.reduceMul, Int.reduceNeg, Int.reduceToNat, Int.reduceEq, Int.reduceNe, Int.reduceTDiv, Int.reduceTMod, implies_true, putL, appN, appX, appC, Eng.Fi, reduceCtorEq, exists_eq_left', exists_eq_left, if_true, if_false, List.replicate, Nat.reduceAdd, Nat.reduceSub, Nat.reduceMul, Nat.reduceLeDiff, Nat.reduceLT, Nat.reduceEqDiff]
def cf_misfit : List AV → Option AV
  | [.agg [.int .i64 p_y, .int .i64 p_z, .int .i64 p_h, .int .i64 p_s], .agg [.int .i64 s_y, .int .i64 s_z, .int .i64 s_c], .vs l_v] => onL dRg l_v fun l => if mfB (⟨p_y, p_z, p_h, p_s⟩ : Pa) (⟨s_y, s_z, s_c⟩ : Su) l then some (I (mfV (⟨p_y, p_z, p_h, p_s⟩ : Pa) (⟨s_y, s_z, s_c⟩ : Su) l)) else none
  | _ => none
theorem g_misfit : Fn P 124 cf_misfit := fun args v hh => by
  unfold cf_misfit at hh; split at hh
  · obtain ⟨l, rfl, hh1⟩ := onL_inv dRg_inv hh
    split at hh1
    · rename_i hc; have hk := Option.some.inj hh1; subst hk; exact k_misfit ⟨_, _, _, _⟩ ⟨_, _, _⟩ _ hc
    · cases hh1
  · cases hh
theorem x_misfit (p : Pa) (s : Su) (l : List Rg) (hc : (mfB p s l) = True) : cf_misfit [.agg [I p.y, I p.z, I p.h, I p.s], .agg [I s.y, I s.z, I s.c], .vs (l.map eRg)] = some (I (mfV p s l)) := by
  simp only [cf_misfit, onL_map dRg_e]
  exact if_pos (by rw [hc]; trivial)
def rgE (r : Rg) : Int := firstE [ptE ⟨r.y, r.z⟩, unl (-1000000000 ≤ r.p ∧ r.p ≤ 1000000000) 2]
theorem k_readingsErr1 (r : Rg) : FOk P 153 [eRg r] (I (rgE r)) := by
  have y := x_sized' r.p 1000000000 (by simp) (-1000000000) rfl
  refine c153.fok rfl (Cor.run (addC_good g_first (addC_good g_unless (addC_good g_sized (addC_good g_pointErr (noC_good _))))) (noHx_good _) hm ?_)
  simp +contextual -implicitDefEqProofs (maxSteps := 2000000) only [bg_eq, a153, x_pointErr, y, x_unless, x_first, y_first, rgE, ruB, rh_no, Int.reduceLT, Int.reduceLE, Int.reduceAdd, Int.reduceSub, Int.reduceMul, Int.reduceNeg, Int.reduceToNat, Int.reduceEq, Int.reduceNe, Int.reduceTDiv, Int.reduceTMod, implies_true, putL, appN, appX, appC, Eng.Fi, reduceCtorEq, exists_eq_left', exists_eq_left, if_true, if_false, List.replicate, Nat.reduceAdd, Nat.reduceSub, Nat.reduceMul, Nat.reduceLeDiff, Nat.reduceLT, Nat.reduceEqDiff]
def cf_readingsErr1 : List AV → Option AV
  | [.agg [.int .i64 r_y, .int .i64 r_z, .int .i64 r_p]] => some (I (rgE (⟨r_y, r_z, r_p⟩ : Rg)))
  | _ => none
theorem g_readingsErr1 : Fn P 153 cf_readingsErr1 := fun args v hh => by
  unfold cf_readingsErr1 at hh; split at hh
  · have hk := Option.some.inj hh; subst hk; exact k_readingsErr1 ⟨_, _, _⟩
  · cases hh
theorem x_readingsErr1 (r : Rg) : cf_readingsErr1 [.agg [I r.y, I r.z, I r.p]] = some (I (rgE r)) := by
  rfl
def rgG : List Rg → Int
  | [] => 0
  | r :: l => if rgE r = 0 then rgG l else rgE r
def S_eRg (l : List Rg) (k : Nat) : AState := ⟨[.any, .fn 153 [] [], .any, .any, .any, .any, .any, .any, .vs (l.map eRg), I l.length, I k, .any, .any, .any, .any, .any, .any, .any, .any, .any, .any], [], 0⟩
theorem k_eachR (l : List Rg) (hl : l.length ≤ 1099511627776) : FOk P 152 [.vs (l.map eRg), .fn 153 [] []] (I (rgG l)) := by
  refine c152.fok (by simp only [subs, sub1, free_Rg]) (Cor.run (addC_good g_readingsErr1 (noC_good _)) (noHx_good _) hm ?_)
  simp +contextual -implicitDefEqProofs (maxSteps := 2000000) only [bg_eq, a152, List.length_map, ruB, rh_no, Int.reduceLT, Int.reduceLE, Int.reduceAdd, Int.reduceSub, Int.reduceMul, Int.reduceNeg, Int.reduceToNat, Int.reduceEq, Int.reduceNe, Int.reduceTDiv, Int.reduceTMod, implies_true, putL, appN, appX, appC, Eng.Fi, reduceCtorEq, exists_eq_left', exists_eq_left, if_true, if_false, List.replicate, Nat.reduceAdd, Nat.reduceSub, Nat.reduceMul, Nat.reduceLeDiff, Nat.reduceLT, Nat.reduceEqDiff]
  refine Cor.lp (addC_good g_readingsErr1 (noC_good _)) (noHx_good _) hm (S_eRg l) (fun k => k ≤ l.length ∧ rgG l = rgG (l.drop k)) (fun k => l.length - k) (a := 0) ⟨Nat.zero_le _, rfl⟩ (Wkn.keep [1, 8, 9, 10] rfl) ?_
  intro f k ⟨hk, hf⟩ go
  rcases Nat.lt_or_ge k l.length with h | h
  · have e1 : decide ((k : Int) < (l.length : Int)) = true := lt_t h
    have e2 : (l.map eRg)[k]? = some (eRg l[k]) := get_e eRg l h
    have e3 : IntKind.wrap .i64 ((k : Int) + 1) = ((k + 1 : Nat) : Int) := suc_w (by omega)
    have y := x_readingsErr1 l[k]
    rw [List.drop_eq_getElem_cons h, rgG] at hf
    generalize l[k] = r at *
    by_cases c1 : rgE r = 0
    · have c1' := eq_true c1
      rw [if_pos c1] at hf
      simp +contextual -implicitDefEqProofs (maxSteps := 2000000) only [S_eRg, e1, e2, e3, y, c1', not_true_eq_false, ruB, rh_no, Int.reduceLT, Int.reduceLE, Int.reduceAdd, Int.reduceSub, Int.reduceMul, Int.reduceNeg, Int.reduceToNat, Int.reduceEq, Int.reduceNe, Int.reduceTDiv, Int.reduceTMod, implies_true, putL, appN, appX, appC, Eng.Fi, reduceCtorEq, exists_eq_left', exists_eq_left, if_true, if_false, List.replicate, Nat.reduceAdd, Nat.reduceSub, Nat.reduceMul, Nat.reduceLeDiff, Nat.reduceLT, Nat.reduceEqDiff]
      exact go _ (k + 1) ⟨h, hf⟩ (by omega) (Wkn.to ⟨0, [], [], 0, [1, 8, 9, 10]⟩ rfl rfl (by simp only [Wk.st, keepT, sub1, subs, Wk.hp, ABlk.sub, S_eRg, free_Rg]; try rfl))
    · have c1' := eq_false c1
      rw [if_neg c1] at hf
      rw [hf]
      simp +contextual -implicitDefEqProofs (maxSteps := 2000000) only [S_eRg, e1, e2, e3, y, c1', not_false_eq_true, ruB, rh_no, Int.reduceLT, Int.reduceLE, Int.reduceAdd, Int.reduceSub, Int.reduceMul, Int.reduceNeg, Int.reduceToNat, Int.reduceEq, Int.reduceNe, Int.reduceTDiv, Int.reduceTMod, implies_true, putL, appN, appX, appC, Eng.Fi, reduceCtorEq, exists_eq_left', exists_eq_left, if_true, if_false, List.replicate, Nat.reduceAdd, Nat.reduceSub, Nat.reduceMul, Nat.reduceLeDiff, Nat.reduceLT, Nat.reduceEqDiff]
  · have e1 : decide ((k : Int) < (l.length : Int)) = false := lt_f h
    rw [List.drop_eq_nil_of_le h, rgG] at hf
    rw [hf]
    simp +contextual -implicitDefEqProofs (maxSteps := 2000000) only [S_eRg, e1, ruB, rh_no, Int.reduceLT, Int.reduceLE, Int.reduceAdd, Int.reduceSub, Int.reduceMul, Int.reduceNeg, Int.reduceToNat, Int.reduceEq, Int.reduceNe, Int.reduceTDiv, Int.reduceTMod, implies_true, putL, appN, appX, appC, Eng.Fi, reduceCtorEq, exists_eq_left', exists_eq_left, if_true, if_false, List.replicate, Nat.reduceAdd, Nat.reduceSub, Nat.reduceMul, Nat.reduceLeDiff, Nat.reduceLT, Nat.reduceEqDiff]
def cf_eachR : List AV → Option AV
  | [.vs l_v, .fn 153 [] []] => onL dRg l_v fun l => if l.length ≤ 1099511627776 then some (I (rgG l)) else none
  | _ => none
theorem g_eachR : Fn P 152 cf_eachR := fun args v hh => by
  unfold cf_eachR at hh; split at hh
  · obtain ⟨l, rfl, hh1⟩ := onL_inv dRg_inv hh
    split at hh1
    · rename_i hc; have hk := Option.some.inj hh1; subst hk; exact k_eachR _ hc
    · cases hh1
  · cases hh
theorem x_eachR (l : List Rg) (hc : (l.length ≤ 1099511627776) = True) : cf_eachR [.vs (l.map eRg), .fn 153 [] []] = some (I (rgG l)) := by
  simp only [cf_eachR, onL_map dRg_e]
  exact if_pos (by rw [hc]; trivial)
def rsE (l : List Rg) : Int := if 12 < (l.length : Int) then 8 else rgG l
theorem k_readingsErr (l : List Rg) : FOk P 123 [.vs (l.map eRg)] (I (rsE l)) := by
  unfold rsE
  by_cases h : 12 < (l.length : Int)
  · have h' := eq_true h
    rw [if_pos h]
    refine c123.fok (by simp only [subs, sub1, free_Rg]) (Cor.run (addC_good g_eachR (noC_good _)) (noHx_good _) hm ?_)
    simp +contextual -implicitDefEqProofs (maxSteps := 2000000) only [bg_eq, a123, List.length_map, h', ruB, rh_no, Int.reduceLT, Int.reduceLE, Int.reduceAdd, Int.reduceSub, Int.reduceMul, Int.reduceNeg, Int.reduceToNat, Int.reduceEq, Int.reduceNe, Int.reduceTDiv, Int.reduceTMod, implies_true, putL, appN, appX, appC, Eng.Fi, reduceCtorEq, exists_eq_left', exists_eq_left, if_true, if_false, List.replicate, Nat.reduceAdd, Nat.reduceSub, Nat.reduceMul, Nat.reduceLeDiff, Nat.reduceLT, Nat.reduceEqDiff]
  · have h' := eq_false h
    rw [if_neg h]
    have y := x_eachR l (by simp only [eq_iff_iff, iff_true]; omega)
    refine c123.fok (by simp only [subs, sub1, free_Rg]) (Cor.run (addC_good g_eachR (noC_good _)) (noHx_good _) hm ?_)
    simp +contextual -implicitDefEqProofs (maxSteps := 2000000) only [bg_eq, a123, List.length_map, h', y, ruB, rh_no, Int.reduceLT, Int.reduceLE, Int.reduceAdd, Int.reduceSub, Int.reduceMul, Int.reduceNeg, Int.reduceToNat, Int.reduceEq, Int.reduceNe, Int.reduceTDiv, Int.reduceTMod, implies_true, putL, appN, appX, appC, Eng.Fi, reduceCtorEq, exists_eq_left', exists_eq_left, if_true, if_false, List.replicate, Nat.reduceAdd, Nat.reduceSub, Nat.reduceMul, Nat.reduceLeDiff, Nat.reduceLT, Nat.reduceEqDiff]
def cf_readingsErr : List AV → Option AV
  | [.vs l_v] => onL dRg l_v fun l => some (I (rsE l))
  | _ => none
theorem g_readingsErr : Fn P 123 cf_readingsErr := fun args v hh => by
  unfold cf_readingsErr at hh; split at hh
  · obtain ⟨l, rfl, hh1⟩ := onL_inv dRg_inv hh
    have hk := Option.some.inj hh1; subst hk; exact k_readingsErr _
  · cases hh
theorem x_readingsErr (l : List Rg) : cf_readingsErr [.vs (l.map eRg)] = some (I (rsE l)) := by
  simp only [cf_readingsErr, onL_map dRg_e]
theorem rgG_z : ∀ {l : List Rg}, rgG l = 0 → ∀ r ∈ l, rgR r
  | [], _, r, h => by simp at h
  | x :: l, h, r, hr => by
    rw [rgG] at h
    split at h
    · rename_i hx
      rcases List.mem_cons.1 hr with rfl | hr
      · have z := firstE_zero hx
        exact ⟨unl_zero (z (ptE ⟨r.y, r.z⟩) (by simp)) (by decide), unl_zero (z (unl (-1000000000 ≤ r.p ∧ r.p ≤ 1000000000) 2) (by simp)) (by decide)⟩
      · exact rgG_z h r hr
    · rename_i hx; exact absurd h hx
theorem rsE_z {l : List Rg} (h : rsE l = 0) : l.length ≤ 12 ∧ ∀ r ∈ l, rgR r := by
  unfold rsE at h
  split at h
  · simp at h
  · exact ⟨by omega, rgG_z h⟩
theorem suE_z {s : Su} (h : suE s = 0) : suR s := by
  have z2 := firstE_zero h
  exact ⟨unl_zero (z2 (ptE ⟨s.y, s.z⟩) (by simp)) (by decide), unl_zero (z2 (unl (1 ≤ s.c ∧ s.c ≤ 10000) 2) (by simp)) (by decide)⟩
end Wa
