import Derived.Test.YtabkbhpeeefmgaaEngS9
import Derived.Test.YtabkbhpeeefmgaaW3
open Go Go.Proofs Eng
set_option maxRecDepth 100000
set_option linter.unusedSimpArgs false
set_option linter.unusedVariables false

namespace Wa
theorem af_zero {b d : Bx} (hb : bxR b) : afV b d 0 = b := by
  unfold bxR inR at hb
  unfold afV
  cases b
  simp only at hb ⊢
  simp only [Int.zero_mul, Int.sub_zero, Int.add_zero, Bx.mk.injEq, true_and]
  omega
theorem max_step {a x y : Int} (hy : 0 ≤ y) : max 0 (max 0 (a - x) - y) = max 0 (a - (x + y)) := by omega
theorem af_add {b d : Bx} (hd : dfR d) {s t : Int} (ht : 0 ≤ t) : afV (afV b d s) d t = afV b d (s + t) := by
  unfold dfR inR at hd
  have m : ∀ x : Int, 0 ≤ x → 0 ≤ t * x := fun x hx => Int.mul_nonneg ht hx
  have e : ∀ x : Int, (s + t) * x = s * x + t * x := fun x => Int.add_mul s t x
  have m1 := m d.zl (by omega)
  have m2 := m d.zh (by omega)
  have m3 := m d.sl (by omega)
  have m4 := m d.sh (by omega)
  unfold afV
  simp only [e, Bx.mk.injEq]
  exact ⟨by omega, by omega, max_step m2, max_step m1, max_step m4, max_step m3⟩
def meB (a b : Bx) : Bx := ⟨max a.yl b.yl, min a.yh b.yh, max a.zl b.zl, min a.zh b.zh, max a.sl b.sl, min a.sh b.sh⟩
end Wa
