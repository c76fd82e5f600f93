import Derived.Test.YtabkbhpeeefmgaaEngS9
import Derived.Test.YtabkbhpeeefmgaaW32
import Derived.Test.YtabkbhpeeefmgaaEngSG
open Go Go.Proofs Eng
set_option maxRecDepth 100000
set_option linter.unusedSimpArgs false
set_option linter.unusedVariables false

namespace Wa
def nxV (b d : Bx) : Bx := ⟨b.yl + d.yl, b.yh + d.yh, max 0 (b.zl - d.zh), max 0 (b.zh - d.zl), max 0 (b.sl - d.sh), max 0 (b.sh - d.sl)⟩
def nxB (b d : Bx) : Prop := (inR (-100000000) 100000000 b.yl b.yh ∧ inR (-100000000) 100000000 b.zl b.zh ∧ inR (-100000000) 100000000 b.sl b.sh) ∧ dfR d
instance (b d : Bx) : Decidable (nxB b d) := by unfold nxB; infer_instance
theorem nx_af {b d : Bx} (hd : dfR d) (k : Int) : nxV (afV b d k) d = afV b d (k + 1) := by
  have e := af_add (b := b) hd (s := k) (t := 1) (by omega)
  rw [← e]
  generalize afV b d k = c
  unfold nxV afV
  simp only [Int.one_mul]
theorem af_bd {b d : Bx} (hb : bxR b) (hd : dfR d) {k : Int} (h0 : 0 ≤ k) (h1 : k ≤ 1001) : nxB (afV b d k) d := by
  refine ⟨?_, hd⟩
  unfold bxR inR at hb
  unfold dfR inR at hd
  have p1 := mul_bd (a := k) (b := d.yl) (A := 1001) (B := 100) (by omega) (by omega)
  have p2 := mul_bd (a := k) (b := d.yh) (A := 1001) (B := 100) (by omega) (by omega)
  have p3 := mul_bd (a := k) (b := d.zl) (A := 1001) (B := 100) (by omega) (by omega)
  have p4 := mul_bd (a := k) (b := d.zh) (A := 1001) (B := 100) (by omega) (by omega)
  have p5 := mul_bd (a := k) (b := d.sl) (A := 1001) (B := 100) (by omega) (by omega)
  have p6 := mul_bd (a := k) (b := d.sh) (A := 1001) (B := 100) (by omega) (by omega)
  unfold afV inR
  simp only
  omega
end Wa
