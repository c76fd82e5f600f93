import Derived.Test.YtabkbhpeeefmgabEngS9
import Derived.Test.YtabkbhpeeefmgabW911
open Go Go.Proofs Eng
set_option maxRecDepth 100000
set_option linter.unusedSimpArgs false
set_option linter.unusedVariables false

namespace Wa
theorem arCorridor {n : Nat} {u : AV} (h : ArG P n 47 u) : ∃ c : Co, u = eCo c := by
  obtain ⟨us, rfl, hh⟩ := h.agg 6 (ks := [.i, .i, .i, .i, .i, .i, .i]) (by kernel_rfl) (by kernel_rfl)
  simp only [ShV, ShV1] at hh
  obtain ⟨_, _, rfl, ⟨a, rfl, _⟩, _, _, rfl, ⟨b', rfl, _⟩, _, _, rfl, ⟨c, rfl, _⟩, _, _, rfl, ⟨d, rfl, _⟩, _, _, rfl, ⟨e, rfl, _⟩, _, _, rfl, ⟨f, rfl, _⟩, _, _, rfl, ⟨t, rfl, _⟩, rfl⟩ := hh
  exact ⟨⟨a, b', c, d, e, f, t⟩, rfl⟩
end Wa
open Go Go.Proofs Eng
set_option maxRecDepth 100000
set_option linter.unusedSimpArgs false
set_option linter.unusedVariables false
namespace Wa
theorem cpE_mv {b d : Bx} {l : List Vo} (h : mvE b d = 0) : cpE b d l = firstE [unl (0 < (l.length : Int)) 10, unl ((l.length : Int) ≤ 1001) 8] := by
  rw [mvE_first] at h
  have z := firstE_zero h
  rw [cpE, z (bxE b) (by simp), z (dfE d) (by simp), fE0, fE0]
end Wa
open Go Go.Proofs Eng
set_option maxRecDepth 100000
set_option linter.unusedSimpArgs false
set_option linter.unusedVariables false
namespace Wa
end Wa
open Go Go.Proofs Eng
set_option maxRecDepth 100000
set_option linter.unusedSimpArgs false
set_option linter.unusedVariables false
namespace Wa
/-- an accepted path lies in the boxes -/
theorem cp_in {b d : Bx} {l : List Vo} (hm : mvE b d = 0) (h0 : 0 < l.length) (h1 : l.length ≤ 1001) (hc : (cpV b d l).2 = 0) {k : Nat} (hk : k < l.length) : hoP (afV b d k) l[k] := by
  have hz := hm
  rw [mvE_first] at hz
  have z := firstE_zero hz
  obtain ⟨b1, b2, b3, b4⟩ := bxE_z (z (bxE b) (by simp))
  obtain ⟨d1, d2, d3, d4⟩ := dfE_z (z (dfE d) (by simp))
  have hc0 : cpE b d l = 0 := by rw [cpE_mv hm, unl_t 10 (by omega), unl_t 8 (by omega)]; rfl
  rw [cpV, if_pos hc0] at hc
  cases l with
  | nil => simp at h0
  | cons v r =>
    rw [cpG] at hc
    split at hc
    · rename_i hv
      have hp : pgG d 0 v r = (0, 0) := by
        rcases pgG_cases d r 0 v with h | ⟨j, _, h⟩
        · exact h
        · rw [h] at hc; simp at hc
      have := ho_path (b := b) b1 d1 (pgG_step hp) (i := 0) (by simp) hv k (by simpa using hk)
      simpa using this
    · simp at hc
end Wa
open Go Go.Proofs Eng
set_option maxRecDepth 100000
set_option linter.unusedSimpArgs false
set_option linter.unusedVariables false
namespace Wa
structure orB (b : Bx) : Prop where
  y : b.yl ≤ b.yh
  z : b.zl ≤ b.zh
  s : b.sl ≤ b.sh
theorem af_orB {b d : Bx} {t : Int} (ht : 0 ≤ t) (hb : orB b) (hd : orB d) : orB (afV b d t) := by
  have h1 := Int.mul_le_mul_of_nonneg_left hd.y ht
  have h2 := Int.mul_le_mul_of_nonneg_left hd.z ht
  have h3 := Int.mul_le_mul_of_nonneg_left hd.s ht
  have := hb.y
  have := hb.z
  have := hb.s
  refine ⟨?_, ?_, ?_⟩
  · simp only [afV]; omega
  · simp only [afV]; omega
  · simp only [afV]; omega
theorem fi_to {b : Bx} {c : Co} (hb : orB b) (h : fiP b c) : toP b c := by
  unfold fiP inR at h
  unfold toP
  have := hb.y
  have := hb.z
  have := hb.s
  omega
theorem frG_free {b d : Bx} {c : Co} : ∀ (n : Nat) (t : Int), (∀ k : Nat, k < n → ¬ toP (afV b d (t + k)) c ∧ ¬ fiP (afV b d (t + k)) c) → frG b d c n t 2 = 2
  | 0, t, _ => rfl
  | n + 1, t, h => by
    have h0 := h 0 (by omega)
    rw [show t + ((0 : Nat) : Int) = t by omega] at h0
    rw [frG, if_neg h0.2, if_neg h0.1]
    refine frG_free n (t + 1) fun k hk => ?_
    have := h (k + 1) (by omega)
    rwa [show t + ((k + 1 : Nat) : Int) = t + 1 + (k : Int) by omega] at this
theorem frG_zero {b d : Bx} {c : Co} : ∀ (n : Nat) (t a : Int), a ≠ 0 → frG b d c n t a = 0 → ∃ k : Nat, k < n ∧ fiP (afV b d (t + k)) c
  | 0, t, a, ha, h => absurd h ha
  | n + 1, t, a, ha, h => by
    rw [frG] at h
    split at h
    · rename_i hf
      exact ⟨0, by omega, by simpa using hf⟩
    · obtain ⟨k, hk, hf⟩ := frG_zero n (t + 1) _ (by split <;> omega) h
      exact ⟨k + 1, by omega, by rwa [show t + ((k + 1 : Nat) : Int) = t + 1 + (k : Int) by omega]⟩
theorem erG_sp {b d : Bx} {c : Co} : ∀ (n : Nat) (t : Int), (∀ s, erG b d c n t < s → s ≤ t → ¬ toP (afV b d s) c) ∧ (t - n < erG b d c n t → toP (afV b d (erG b d c n t)) c)
  | 0, t => by
    rw [erG]
    exact ⟨fun s h1 h2 => by omega, fun h => by omega⟩
  | n + 1, t => by
    rw [erG]
    split
    · rename_i h
      exact ⟨fun s h1 h2 => by omega, fun _ => h⟩
    · rename_i h
      obtain ⟨h1, h2⟩ := erG_sp n (t - 1) (b := b) (d := d) (c := c)
      refine ⟨fun s h3 h4 => ?_, fun h3 => h2 (by omega)⟩
      by_cases e : s = t
      · rw [e]; exact h
      · exact h1 s h3 (by omega)
structure crI (b d : Bx) (c : Co) : Prop where
  b : orB b
  d : orB d
  c : 0 ≤ c.fr ∧ c.fr ≤ c.to
theorem eR_sp {b d : Bx} {c : Co} (h : crI b d c) : (c.fr - 1 ≤ eR b d c ∧ eR b d c ≤ c.to) ∧ (∀ s, eR b d c < s → s ≤ c.to → ¬ toP (afV b d s) c) ∧ (c.fr ≤ eR b d c → toP (afV b d (eR b d c)) c) := by
  have h1 := erG_bd b d c (c.to + 1 - c.fr).toNat c.to
  have h2 := erG_sp (b := b) (d := d) (c := c) (c.to + 1 - c.fr).toNat c.to
  have hc := h.c
  refine ⟨?_, h2.1, fun h3 => h2.2 ?_⟩
  · unfold eR; omega
  · unfold eR at h3; omega
theorem iF_two {b d : Bx} {c : Co} (h : crI b d c) : iF b d c = 2 ↔ ∀ s, c.fr ≤ s → s ≤ c.to → ¬ toP (afV b d s) c := by
  have hc := h.c
  constructor
  · intro h2 s h3 h4
    obtain ⟨_, h5⟩ := frG_two _ _ _ h2
    have := h5 (s - c.fr).toNat (by omega)
    rwa [show c.fr + ((s - c.fr).toNat : Int) = s by omega] at this
  · intro h2
    refine frG_free _ _ fun k hk => ?_
    have h3 := h2 (c.fr + k) (by omega) (by omega)
    exact ⟨h3, fun q => h3 (fi_to (af_orB (by omega) h.b h.d) q)⟩
theorem iF_eR {b d : Bx} {c : Co} (h : crI b d c) : iF b d c = 2 ↔ eR b d c = c.fr - 1 := by
  obtain ⟨⟨h1, h2⟩, h3, h4⟩ := eR_sp h
  rw [iF_two h]
  constructor
  · intro h5
    refine Decidable.byContradiction fun q => ?_
    exact h5 (eR b d c) (by omega) h2 (h4 (by omega))
  · intro h5 s h6 h7
    exact h3 s (by omega) h7
theorem iF_later {b d : Bx} {c : Co} (h : crI b d c) {f : Int} (h0 : 0 ≤ f) (h1 : eR b d c < f) (h2 : f ≤ c.to) : iF b d { c with fr := f } = 2 :=
  (iF_two (c := { c with fr := f }) ⟨h.b, h.d, h0, h2⟩).2 fun s h3 h4 => (eR_sp h).2.1 s (by simp only at h3; omega) h4
theorem iF_before {b d : Bx} {c : Co} (h : crI b d c) (h1 : c.fr ≤ eR b d c) : iF b d { c with fr := eR b d c } ≠ 2 := fun q => by
  have hc := h.c
  have hs := eR_sp h
  exact (iF_two (c := { c with fr := eR b d c }) ⟨h.b, h.d, by simp only; omega, hs.1.2⟩).1 q _ (Int.le_refl _) hs.1.2 (hs.2.2 h1)
theorem iF_more {b d : Bx} {c : Co} (h : crI b d c) (h1 : iF b d c = 2) : iF b d { c with lim := c.lim + 1 } = 2 :=
  (iF_two (c := { c with lim := c.lim + 1 }) ⟨h.b, h.d, h.c⟩).2 fun s h3 h4 q => (iF_two h).1 h1 s h3 h4 (by
    unfold toP at q ⊢
    simp only at q
    omega)
/-- who crosses -/
def crP (c : Co) (l : List Vo) (k : Int) : Prop := ∃ j : Nat, c.fr ≤ (j : Int) ∧ (j : Int) < k ∧ ∃ h : j < l.length, hoP (reG c) l[j]
theorem cr_yes {b d : Bx} {c : Co} {l : List Vo} (h : crI b d c) (hl : ∀ k : Nat, ∀ hk : k < l.length, hoP (afV b d k) l[k]) (h2 : iF b d c = 2) {k : Int} (hk : k ≤ c.to + 1) : ¬ crP c l k := by
  rintro ⟨j, h3, h4, h5, h6⟩
  exact free_no h2 h3 (by omega) (hl j h5) h6
theorem cr_no {b d : Bx} {c : Co} {l : List Vo} (h : crI b d c) (hsm : ∀ v ∈ l, v.s ≤ 1000000) (hl : ∀ k : Nat, ∀ hk : k < l.length, hoP (afV b d k) l[k]) (h2 : iF b d c = 0) (hlen : c.to < (l.length : Int)) : crP c l (c.to + 1) := by
  have hc := h.c
  obtain ⟨k, hk, hf⟩ := frG_zero _ _ _ (by decide) h2
  have hj : (c.fr + k).toNat < l.length := by omega
  have e : (((c.fr + k).toNat : Nat) : Int) = c.fr + k := by omega
  refine ⟨(c.fr + k).toNat, by omega, by omega, hj, ?_⟩
  have h3 := hl _ hj
  rw [e] at h3
  have h4 := hsm _ (List.getElem_mem hj)
  generalize l[(c.fr + k).toNat] = v at *
  generalize afV b d (c.fr + k) = x at *
  unfold fiP inR at hf
  unfold hoP at h3 ⊢
  simp only [reG]
  omega
end Wa
