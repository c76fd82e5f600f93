import Derived.Test.YtabkbhpeeefmgaaEngS9
import Derived.Test.YtabkbhpeeefmgaaW38
open Go Go.Proofs Eng
set_option maxRecDepth 100000
set_option linter.unusedSimpArgs false
set_option linter.unusedVariables false

namespace Wa
def loC (b : Bx) : Vo := ⟨b.yl, b.zl, b.sl⟩
def hiC (b : Bx) : Vo := ⟨b.yh, b.zh, b.sh⟩
def loL (b d : Bx) (n : Nat) : List Vo := (List.range n).map fun k : Nat => loC (afV b d (k : Int))
def hiL (b d : Bx) (n : Nat) : List Vo := (List.range n).map fun k : Nat => hiC (afV b d (k : Int))
theorem loL_len (b d : Bx) (n : Nat) : (loL b d n).length = n := by simp [loL]
theorem hiL_len (b d : Bx) (n : Nat) : (hiL b d n).length = n := by simp [hiL]
theorem loL_s (b d : Bx) (n : Nat) : loL b d (n + 1) = loL b d n ++ [loC (afV b d n)] := by
  unfold loL; rw [List.range_succ, List.map_append]; rfl
theorem hiL_s (b d : Bx) (n : Nat) : hiL b d (n + 1) = hiL b d n ++ [hiC (afV b d n)] := by
  unfold hiL; rw [List.range_succ, List.map_append]; rfl
theorem loL_get (b d : Bx) (n k : Nat) (h : k < (loL b d n).length) : (loL b d n)[k] = loC (afV b d k) := by simp [loL]
theorem hiL_get (b d : Bx) (n k : Nat) (h : k < (hiL b d n).length) : (hiL b d n)[k] = hiC (afV b d k) := by simp [hiL]
theorem pgG_all {d : Bx} : ∀ {r : List Vo} {i : Nat} {v : Vo}, (∀ k, ∀ h : k + 1 < (v :: r).length, stP d (v :: r)[k] (v :: r)[k + 1]) → pgG d i v r = (0, 0)
  | [], i, v, _ => rfl
  | w :: r, i, v, h => by
    have h' : stP d v w := h 0 (by simp)
    rw [pgG, if_pos h']
    exact pgG_all fun k hk => h (k + 1) (by simp at hk ⊢; omega)
theorem cpV_all {b d : Bx} {l : List Vo} (hm : mvE b d = 0) (h0 : 0 < l.length) (h1 : l.length ≤ 1001) (hb : hoP b l[0]) (hs : ∀ k, ∀ h : k + 1 < l.length, stP d l[k] l[k + 1]) : cpV b d l = (0, 0) := by
  have hc0 : cpE b d l = 0 := by rw [cpE_mv hm, unl_t 10 (by omega), unl_t 8 (by omega)]; rfl
  rw [cpV, if_pos hc0]
  cases l with
  | nil => simp at h0
  | cons v r =>
    have hb' : hoP b v := hb
    rw [cpG, if_pos hb']
    exact pgG_all hs
theorem fa_lo {v lo hi : Int} (h : 0 ≤ lo ∧ lo ≤ hi) : faP v (max 0 (v - hi)) lo hi := by
  unfold faP
  split <;> omega
theorem fa_hi {v lo hi : Int} (h : 0 ≤ lo ∧ lo ≤ hi) : faP v (max 0 (v - lo)) lo hi := by
  unfold faP
  split <;> omega
theorem st_lo {b d : Bx} (hd : dfE d = 0) (k : Nat) : stP d (loC (afV b d k)) (loC (afV b d (k + 1 : Nat))) := by
  obtain ⟨d1, d2, d3, d4⟩ := dfE_z hd
  have e := nx_af (b := b) d1 (k : Int)
  have e4 : (k : Int) + 1 = ((k + 1 : Nat) : Int) := by omega
  rw [e4] at e
  rw [← e]
  generalize afV b d k = n
  unfold dfR inR at d1
  unfold stP loC nxV
  simp only
  exact ⟨⟨by omega, fa_lo (by omega)⟩, fa_lo (by omega)⟩
theorem st_hi {b d : Bx} (hd : dfE d = 0) (k : Nat) : stP d (hiC (afV b d k)) (hiC (afV b d (k + 1 : Nat))) := by
  obtain ⟨d1, d2, d3, d4⟩ := dfE_z hd
  have e := nx_af (b := b) d1 (k : Int)
  have e4 : (k : Int) + 1 = ((k + 1 : Nat) : Int) := by omega
  rw [e4] at e
  rw [← e]
  generalize afV b d k = n
  unfold dfR inR at d1
  unfold stP hiC nxV
  simp only
  exact ⟨⟨by omega, fa_hi (by omega)⟩, fa_hi (by omega)⟩
theorem cp_lo {b d : Bx} (hm : mvE b d = 0) (n : Nat) (h1 : n ≤ 1000) : cpV b d (loL b d (n + 1)) = (0, 0) := by
  have hz := hm
  rw [mvE_first] at hz
  have z := firstE_zero hz
  have hb := z (bxE b) (by simp)
  have hd := z (dfE d) (by simp)
  obtain ⟨b1, b2, b3, b4⟩ := bxE_z hb
  refine cpV_all hm (by rw [loL_len]; omega) (by rw [loL_len]; omega) ?_ fun k hk => ?_
  · rw [loL_get]
    have := af_zero (d := d) b1
    show hoP b (loC (afV b d 0))
    rw [this]
    unfold hoP loC
    simp only
    omega
  · rw [loL_get, loL_get]
    exact st_lo hd k
theorem cp_hi {b d : Bx} (hm : mvE b d = 0) (n : Nat) (h1 : n ≤ 1000) : cpV b d (hiL b d (n + 1)) = (0, 0) := by
  have hz := hm
  rw [mvE_first] at hz
  have z := firstE_zero hz
  have hb := z (bxE b) (by simp)
  have hd := z (dfE d) (by simp)
  obtain ⟨b1, b2, b3, b4⟩ := bxE_z hb
  refine cpV_all hm (by rw [hiL_len]; omega) (by rw [hiL_len]; omega) ?_ fun k hk => ?_
  · rw [hiL_get]
    have := af_zero (d := d) b1
    show hoP b (hiC (afV b d 0))
    rw [this]
    unfold hoP hiC
    simp only
    omega
  · rw [hiL_get, hiL_get]
    exact st_hi hd k
/-- an accepted path lies in the boxes -/
theorem cp_in {b d : Bx} {l : List Vo} (hm : mvE b d = 0) (h0 : 0 < l.length) (h1 : l.length ≤ 1001) (hc : (cpV b d l).2 = 0) {k : Nat} (hk : k < l.length) : hoP (afV b d k) l[k] := by
  have hz := hm
  rw [mvE_first] at hz
  have z := firstE_zero hz
  obtain ⟨b1, b2, b3, b4⟩ := bxE_z (z (bxE b) (by simp))
  obtain ⟨d1, d2, d3, d4⟩ := dfE_z (z (dfE d) (by simp))
  have hc0 : cpE b d l = 0 := by rw [cpE_mv hm, unl_t 10 (by omega), unl_t 8 (by omega)]; rfl
  rw [cpV, if_pos hc0] at hc
  cases l with
  | nil => simp at h0
  | cons v r =>
    rw [cpG] at hc
    split at hc
    · rename_i hv
      have hp : pgG d 0 v r = (0, 0) := by
        rcases pgG_cases d r 0 v with h | ⟨j, _, h⟩
        · exact h
        · rw [h] at hc; simp at hc
      have := ho_path (b := b) b1 d1 (pgG_step hp) (i := 0) (by simp) hv k (by simpa using hk)
      simpa using this
    · simp at hc
end Wa
