import Derived.Test.YtabkbhpeeefmgaaEngS9
import Derived.Test.YtabkbhpeeefmgaaW3
open Go Go.Proofs Eng
set_option maxRecDepth 100000
set_option linter.unusedSimpArgs false
set_option linter.unusedVariables false

namespace Wa
def faP (a b lo hi : Int) : Prop := if b = 0 then a ≤ hi else 0 < b ∧ (a - hi ≤ b ∧ b ≤ a - lo)
instance (a b lo hi : Int) : Decidable (faP a b lo hi) := by unfold faP; infer_instance
def stP (d : Bx) (v w : Vo) : Prop := ((v.y + d.yl ≤ w.y ∧ w.y ≤ v.y + d.yh) ∧ faP v.z w.z d.zl d.zh) ∧ faP v.s w.s d.sl d.sh
instance (d : Bx) (v w : Vo) : Decidable (stP d v w) := by unfold stP; infer_instance
theorem fa_step {a b v w lo hi : Int} {k : Int} (hlo : 0 ≤ lo) (h1 : max 0 (a - k * hi) ≤ v) (h2 : v ≤ max 0 (b - k * lo)) (hs : faP v w lo hi) : max 0 (a - (k + 1) * hi) ≤ w ∧ w ≤ max 0 (b - (k + 1) * lo) := by
  have e1 : (k + 1) * hi = k * hi + hi := by rw [Int.add_mul, Int.one_mul]
  have e2 : (k + 1) * lo = k * lo + lo := by rw [Int.add_mul, Int.one_mul]
  rw [e1, e2]
  generalize k * hi = x at *
  generalize k * lo = y at *
  unfold faP at hs
  split at hs <;> omega
theorem ho_step {b d : Bx} {v w : Vo} {k : Int} (hd : dfR d) (h : hoP (afV b d k) v) (hs : stP d v w) : hoP (afV b d (k + 1)) w := by
  unfold dfR inR at hd
  unfold stP at hs
  unfold hoP afV at h ⊢
  simp only at h ⊢
  have e1 : (k + 1) * d.yl = k * d.yl + d.yl := by rw [Int.add_mul, Int.one_mul]
  have e2 : (k + 1) * d.yh = k * d.yh + d.yh := by rw [Int.add_mul, Int.one_mul]
  have z := fa_step (a := b.zl) (b := b.zh) (k := k) (by omega) h.1.2.1 h.1.2.2 hs.1.2
  have s := fa_step (a := b.sl) (b := b.sh) (k := k) (by omega) h.2.1 h.2.2 hs.2
  refine ⟨⟨?_, z⟩, s⟩
  rw [e1, e2]
  generalize k * d.yl = x at *
  generalize k * d.yh = y at *
  omega
theorem af_zero {b d : Bx} (hb : bxR b) : afV b d 0 = b := by
  unfold bxR inR at hb
  unfold afV
  cases b
  simp only at hb ⊢
  simp only [Int.zero_mul, Int.sub_zero, Int.add_zero, Bx.mk.injEq, true_and]
  omega
theorem max_step {a x y : Int} (hy : 0 ≤ y) : max 0 (max 0 (a - x) - y) = max 0 (a - (x + y)) := by omega
theorem af_add {b d : Bx} (hd : dfR d) {s t : Int} (ht : 0 ≤ t) : afV (afV b d s) d t = afV b d (s + t) := by
  unfold dfR inR at hd
  have m : ∀ x : Int, 0 ≤ x → 0 ≤ t * x := fun x hx => Int.mul_nonneg ht hx
  have e : ∀ x : Int, (s + t) * x = s * x + t * x := fun x => Int.add_mul s t x
  have m1 := m d.zl (by omega)
  have m2 := m d.zh (by omega)
  have m3 := m d.sl (by omega)
  have m4 := m d.sh (by omega)
  unfold afV
  simp only [e, Bx.mk.injEq]
  exact ⟨by omega, by omega, max_step m2, max_step m1, max_step m4, max_step m3⟩
end Wa
