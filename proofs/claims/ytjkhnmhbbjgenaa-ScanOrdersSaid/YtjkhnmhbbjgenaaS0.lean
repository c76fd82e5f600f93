import Derived.Test.YtjkhnmhbbjgenaaEngS9
open Go Eng
set_option maxRecDepth 100000
set_option linter.unusedSimpArgs false
set_option linter.unusedVariables false

namespace Sc
def sumF (f : Nat → Int) : Nat → Int
  | 0 => 0
  | n + 1 => sumF f n + f n
def stp (r a : Int) (t k : Nat) : Int := min (min r (((k : Int) + 1) * a)) (((t : Int) - k) * a)
def rch (r a : Int) (t : Nat) : Int := sumF (stp r a t) t
/-- a drive that is right -/
def axR (r a : Int) : Prop := (1 ≤ r ∧ r ≤ 30) ∧ (1 ≤ a ∧ a ≤ 30)
instance (r a : Int) : Decidable (axR r a) := by unfold axR; infer_instance
theorem stp_mul {r a : Int} (h : axR r a) {t k : Nat} (hk : k < t) (ht : t ≤ 100000) : (1 ≤ ((k : Int) + 1) * a ∧ ((k : Int) + 1) * a ≤ 3000000) ∧ 1 ≤ ((t : Int) - k) * a ∧ ((t : Int) - k) * a ≤ 3000000 := by
  obtain ⟨_, h1, h2⟩ := h
  have k1 : (0 : Int) ≤ k := Int.natCast_nonneg k
  have k2 : (k : Int) + 1 ≤ t := by omega
  have k3 : (t : Int) ≤ 100000 := by omega
  have a1 := Int.mul_le_mul (show (1 : Int) ≤ (k : Int) + 1 by omega) h1 (by decide) (by omega)
  have a2 := Int.mul_le_mul (show (k : Int) + 1 ≤ 100000 by omega) h2 (by omega) (by decide)
  have a3 := Int.mul_le_mul (show (1 : Int) ≤ (t : Int) - k by omega) h1 (by decide) (by omega)
  have a4 := Int.mul_le_mul (show (t : Int) - k ≤ 100000 by omega) h2 (by omega) (by decide)
  omega
theorem stp_pos {r a : Int} (h : axR r a) {t k : Nat} (hk : k < t) (ht : t ≤ 100000) : 1 ≤ stp r a t k ∧ stp r a t k ≤ 30 := by
  have := stp_mul h hk ht
  obtain ⟨⟨_, _⟩, _, _⟩ := h
  unfold stp; omega
theorem sumF_le30 {r a : Int} (h : axR r a) {t : Nat} (ht : t ≤ 100000) : ∀ n : Nat, n ≤ t → (n : Int) ≤ sumF (stp r a t) n ∧ sumF (stp r a t) n ≤ 30 * n
  | 0, _ => by simp [sumF]
  | n + 1, hn => by
    have h1 := sumF_le30 h ht n (by omega)
    have h2 := stp_pos h (k := n) (t := t) (by omega) ht
    simp only [sumF]; omega
theorem rch_bd {r a : Int} (h : axR r a) {t : Nat} (ht : t ≤ 100000) : (t : Int) ≤ rch r a t ∧ rch r a t ≤ 30 * t := sumF_le30 h ht t (Nat.le_refl _)
/-- ticks for a distance -/
def tkF (r a d : Int) : Nat → Nat → Nat
  | 0, t => t
  | f + 1, t => if rch r a t < d then tkF r a d f (t + 1) else t
def tkL (r a d : Int) : Nat := tkF r a d d.toNat 0
theorem tkF_spec {r a d : Int} : ∀ (f t : Nat), (∀ s, s < t → rch r a s < d) → d ≤ rch r a (t + f) → d ≤ rch r a (tkF r a d f t) ∧ (∀ s, s < tkF r a d f t → rch r a s < d) ∧ tkF r a d f t ≤ t + f
  | 0, t, h1, h2 => ⟨h2, h1, Nat.le_refl _⟩
  | f + 1, t, h1, h2 => by
    simp only [tkF]
    split
    · rename_i hlt
      have := tkF_spec f (t + 1) (fun s hs => by
        rcases Nat.lt_or_ge s t with h | h
        · exact h1 s h
        · have : s = t := by omega
          rw [this]; exact hlt) (by rw [Nat.add_right_comm]; exact h2)
      exact ⟨this.1, this.2.1, by have := this.2.2; omega⟩
    · rename_i hge
      exact ⟨by omega, h1, by omega⟩
theorem tkL_spec {r a d : Int} (h : axR r a) (hd : 0 ≤ d ∧ d ≤ 1000) : d ≤ rch r a (tkL r a d) ∧ (∀ s, s < tkL r a d → rch r a s < d) ∧ (tkL r a d : Int) ≤ d := by
  have h1 := rch_bd h (t := d.toNat) (by omega)
  have := tkF_spec (r := r) (a := a) (d := d) d.toNat 0 (fun s hs => by omega) (by rw [Nat.zero_add]; omega)
  exact ⟨this.1, this.2.1, by have := this.2.2; unfold tkL; omega⟩
end Sc
