import Derived.Test.YtjkhnmhbbjgenaaEngS9
open Go Eng
set_option maxRecDepth 100000
set_option linter.unusedSimpArgs false
set_option linter.unusedVariables false

namespace Sc

/-! drives: how far in some ticks -/
def sumF (f : Nat → Int) : Nat → Int
  | 0 => 0
  | n + 1 => sumF f n + f n
theorem sumF_le {f g : Nat → Int} : ∀ {n : Nat}, (∀ k, k < n → f k ≤ g k) → sumF f n ≤ sumF g n
  | 0, _ => Int.le_refl _
  | n + 1, h => by
    have h1 := sumF_le (n := n) fun k hk => h k (by omega)
    have h2 := h n (by omega)
    simp only [sumF]; omega
theorem sumF_eq {f g : Nat → Int} : ∀ {n : Nat}, (∀ k, k < n → f k = g k) → sumF f n = sumF g n
  | 0, _ => rfl
  | n + 1, h => by simp only [sumF, sumF_eq (n := n) fun k hk => h k (by omega), h n (by omega)]
theorem sumF_const (c : Int) : ∀ n : Nat, sumF (fun _ => c) n = n * c
  | 0 => by simp [sumF]
  | n + 1 => by
    have : ((n + 1 : Nat) : Int) * c = (n : Int) * c + c := by rw [Int.natCast_add, Int.add_mul]; simp
    simp only [sumF, sumF_const c n]; omega
theorem sumF_nonneg {f : Nat → Int} : ∀ {n : Nat}, (∀ k, k < n → 0 ≤ f k) → 0 ≤ sumF f n
  | 0, _ => Int.le_refl _
  | n + 1, h => by
    have h1 := sumF_nonneg (n := n) fun k hk => h k (by omega)
    have h2 := h n (by omega)
    simp only [sumF]; omega
theorem sumF_shift (f : Nat → Int) : ∀ n : Nat, sumF f (n + 1) = f 0 + sumF (fun k => f (k + 1)) n
  | 0 => by simp [sumF]
  | n + 1 => by
    have := sumF_shift f n
    simp only [sumF] at this ⊢
    omega
theorem sumF_mul (f : Nat → Int) (a : Int) : ∀ n : Nat, sumF (fun k => f k * a) n = sumF f n * a
  | 0 => by simp [sumF]
  | n + 1 => by simp only [sumF, sumF_mul f a n, Int.add_mul]
theorem sumF_add1 (f : Nat → Int) : ∀ n : Nat, sumF (fun k => 1 + f k) n = n + sumF f n
  | 0 => by simp [sumF]
  | n + 1 => by
    have := sumF_add1 f n
    simp only [sumF] at this ⊢
    omega

def stp (r a : Int) (t k : Nat) : Int := min (min r (((k : Int) + 1) * a)) (((t : Int) - k) * a)
def rch (r a : Int) (t : Nat) : Int := sumF (stp r a t) t
/-- a drive that is right -/
def axR (r a : Int) : Prop := (1 ≤ r ∧ r ≤ 30) ∧ (1 ≤ a ∧ a ≤ 30)
instance (r a : Int) : Decidable (axR r a) := by unfold axR; infer_instance
theorem stp_mul {r a : Int} (h : axR r a) {t k : Nat} (hk : k < t) (ht : t ≤ 100000) : (1 ≤ ((k : Int) + 1) * a ∧ ((k : Int) + 1) * a ≤ 3000000) ∧ 1 ≤ ((t : Int) - k) * a ∧ ((t : Int) - k) * a ≤ 3000000 := by
  obtain ⟨_, h1, h2⟩ := h
  have k1 : (0 : Int) ≤ k := Int.natCast_nonneg k
  have k2 : (k : Int) + 1 ≤ t := by omega
  have k3 : (t : Int) ≤ 100000 := by omega
  have a1 := Int.mul_le_mul (show (1 : Int) ≤ (k : Int) + 1 by omega) h1 (by decide) (by omega)
  have a2 := Int.mul_le_mul (show (k : Int) + 1 ≤ 100000 by omega) h2 (by omega) (by decide)
  have a3 := Int.mul_le_mul (show (1 : Int) ≤ (t : Int) - k by omega) h1 (by decide) (by omega)
  have a4 := Int.mul_le_mul (show (t : Int) - k ≤ 100000 by omega) h2 (by omega) (by decide)
  omega
theorem stp_pos {r a : Int} (h : axR r a) {t k : Nat} (hk : k < t) (ht : t ≤ 100000) : 1 ≤ stp r a t k ∧ stp r a t k ≤ 30 := by
  have := stp_mul h hk ht
  obtain ⟨⟨_, _⟩, _, _⟩ := h
  unfold stp; omega
theorem sumF_le30 {r a : Int} (h : axR r a) {t : Nat} (ht : t ≤ 100000) : ∀ n : Nat, n ≤ t → (n : Int) ≤ sumF (stp r a t) n ∧ sumF (stp r a t) n ≤ 30 * n
  | 0, _ => by simp [sumF]
  | n + 1, hn => by
    have h1 := sumF_le30 h ht n (by omega)
    have h2 := stp_pos h (k := n) (t := t) (by omega) ht
    simp only [sumF]; omega
theorem rch_bd {r a : Int} (h : axR r a) {t : Nat} (ht : t ≤ 100000) : (t : Int) ≤ rch r a t ∧ rch r a t ≤ 30 * t := sumF_le30 h ht t (Nat.le_refl _)
theorem rch_mono {r r' a a' : Int} (hr : r ≤ r') (ha : a ≤ a') (h0 : 0 ≤ a) (t : Nat) : rch r a t ≤ rch r' a' t := sumF_le fun k hk => by
  have a1 := Int.mul_le_mul_of_nonneg_left ha (show (0 : Int) ≤ (k : Int) + 1 by omega)
  have a2 := Int.mul_le_mul_of_nonneg_left ha (show (0 : Int) ≤ (t : Int) - k by omega)
  unfold stp; omega
theorem rch_succ {r a : Int} (h : axR r a) (t : Nat) : rch r a t + 1 ≤ rch r a (t + 1) := by
  obtain ⟨⟨hr, _⟩, ha, _⟩ := h
  have h1 : sumF (stp r a t) t ≤ sumF (stp r a (t + 1)) t := sumF_le fun k hk => by
    have a2 := Int.mul_le_mul_of_nonneg_right (show (t : Int) - k ≤ ((t + 1 : Nat) : Int) - k by omega) (show 0 ≤ a by omega)
    unfold stp; omega
  have h2 : 1 ≤ stp r a (t + 1) t := by
    have a1 := Int.mul_le_mul (show (1 : Int) ≤ (t : Int) + 1 by omega) ha (by decide) (by omega)
    have a3 : (((t + 1 : Nat) : Int) - t) * a = a := by
      rw [show ((t + 1 : Nat) : Int) - t = 1 by omega]; simp
    unfold stp; omega
  have : rch r a (t + 1) = sumF (stp r a (t + 1)) t + stp r a (t + 1) t := rfl
  rw [this]; unfold rch; omega
theorem rch_le {r a : Int} (h : axR r a) {s t : Nat} (hst : s ≤ t) : rch r a s ≤ rch r a t := by
  induction t with
  | zero => have : s = 0 := by omega
            rw [this]; exact Int.le_refl _
  | succ t ih =>
    rcases Nat.lt_or_ge s (t + 1) with h1 | h1
    · have := ih (by omega); have := rch_succ h t; omega
    · have : s = t + 1 := by omega
      rw [this]; exact Int.le_refl _
/-- ticks for a distance -/
def tkF (r a d : Int) : Nat → Nat → Nat
  | 0, t => t
  | f + 1, t => if rch r a t < d then tkF r a d f (t + 1) else t
def tkL (r a d : Int) : Nat := tkF r a d d.toNat 0
theorem tkF_spec {r a d : Int} : ∀ (f t : Nat), (∀ s, s < t → rch r a s < d) → d ≤ rch r a (t + f) → d ≤ rch r a (tkF r a d f t) ∧ (∀ s, s < tkF r a d f t → rch r a s < d) ∧ tkF r a d f t ≤ t + f
  | 0, t, h1, h2 => ⟨h2, h1, Nat.le_refl _⟩
  | f + 1, t, h1, h2 => by
    simp only [tkF]
    split
    · rename_i hlt
      have := tkF_spec f (t + 1) (fun s hs => by
        rcases Nat.lt_or_ge s t with h | h
        · exact h1 s h
        · have : s = t := by omega
          rw [this]; exact hlt) (by rw [Nat.add_right_comm]; exact h2)
      exact ⟨this.1, this.2.1, by have := this.2.2; omega⟩
    · rename_i hge
      exact ⟨by omega, h1, by omega⟩
theorem tkL_spec {r a d : Int} (h : axR r a) (hd : 0 ≤ d ∧ d ≤ 1000) : d ≤ rch r a (tkL r a d) ∧ (∀ s, s < tkL r a d → rch r a s < d) ∧ (tkL r a d : Int) ≤ d := by
  have h1 := rch_bd h (t := d.toNat) (by omega)
  have := tkF_spec (r := r) (a := a) (d := d) d.toNat 0 (fun s hs => by omega) (by rw [Nat.zero_add]; omega)
  exact ⟨this.1, this.2.1, by have := this.2.2; unfold tkL; omega⟩
theorem tkL_uniq {r a d : Int} (h : axR r a) (hd : 0 ≤ d ∧ d ≤ 1000) {t : Nat} (h1 : d ≤ rch r a t) (h2 : ∀ s, s < t → rch r a s < d) : tkL r a d = t := by
  obtain ⟨h3, h4, _⟩ := tkL_spec h hd
  rcases Nat.lt_trichotomy (tkL r a d) t with h5 | h5 | h5
  · have := h2 _ h5; omega
  · exact h5
  · have := h4 _ h5; omega
theorem tkL_le {r r' a a' d d' : Int} (h : axR r a) (h' : axR r' a') (hd : 0 ≤ d ∧ d ≤ 1000) (hd' : 0 ≤ d' ∧ d' ≤ 1000) (hr : r' ≤ r) (ha : a' ≤ a) (hdd : d ≤ d') : tkL r a d ≤ tkL r' a' d' := by
  obtain ⟨_, h4, _⟩ := tkL_spec h hd
  obtain ⟨h5, _, _⟩ := tkL_spec h' hd'
  rcases Nat.lt_or_ge (tkL r' a' d') (tkL r a d) with h6 | h6
  · have := h4 _ h6
    have := rch_mono hr ha (by have := h'.2.1; omega) (tkL r' a' d')
    omega
  · exact h6
theorem tri (n : Nat) : 4 * sumF (fun k => min ((k : Int) + 1) ((n : Int) - k)) n ≤ ((n : Int) + 1) * ((n : Int) + 1) ∧ 4 * sumF (fun k => min ((k : Int) + 1) (((n + 1 : Nat) : Int) - k)) (n + 1) ≤ (((n + 1 : Nat) : Int) + 1) * (((n + 1 : Nat) : Int) + 1) := by
  induction n with
  | zero => exact ⟨by decide, by decide⟩
  | succ n ih =>
    refine ⟨ih.2, ?_⟩
    have e1 : sumF (fun k => min ((k : Int) + 1) (((n + 1 + 1 : Nat) : Int) - k)) (n + 1 + 1) = 2 + n + sumF (fun k => min ((k : Int) + 1) ((n : Int) - k)) n := by
      rw [sumF_shift]
      have : sumF (fun k => min (((k + 1 : Nat) : Int) + 1) (((n + 1 + 1 : Nat) : Int) - ((k + 1 : Nat) : Int))) (n + 1) = (sumF (fun k => 1 + min ((k : Int) + 1) ((n : Int) - k)) n) + 1 := by
        simp only [sumF]
        have e2 : sumF (fun k => min (((k + 1 : Nat) : Int) + 1) (((n + 1 + 1 : Nat) : Int) - ((k + 1 : Nat) : Int))) n = sumF (fun k => 1 + min ((k : Int) + 1) ((n : Int) - k)) n := sumF_eq fun k hk => by omega
        rw [e2]; omega
      rw [this, sumF_add1]; omega
    rw [e1]
    have h1 := ih.1
    have e3 : (((n + 1 + 1 : Nat) : Int) + 1) * (((n + 1 + 1 : Nat) : Int) + 1) = ((n : Int) + 1) * ((n : Int) + 1) + 4 * (n : Int) + 8 := by
      have : ((n + 1 + 1 : Nat) : Int) + 1 = ((n : Int) + 1) + 2 := by omega
      rw [this, Int.add_mul, Int.mul_add]
      omega
    rw [e3]; omega
theorem rch_rate {r a : Int} (t : Nat) : rch r a t ≤ t * r := by
  have := sumF_le (f := stp r a t) (g := fun _ => r) (n := t) fun k _ => by unfold stp; omega
  rw [sumF_const] at this
  exact this
theorem rch_acc {r a : Int} (ha : 0 ≤ a) (t : Nat) : 4 * rch r a t ≤ ((t : Int) + 1) * ((t : Int) + 1) * a := by
  have h1 : rch r a t ≤ sumF (fun k => min ((k : Int) + 1) ((t : Int) - k) * a) t := sumF_le fun k hk => by
    unfold stp
    rcases Int.le_total ((k : Int) + 1) ((t : Int) - k) with h | h
    · rw [Int.min_eq_left h]; omega
    · rw [Int.min_eq_right h]; omega
  rw [sumF_mul] at h1
  have h2 := Int.mul_le_mul_of_nonneg_right (tri t).1 ha
  rw [Int.mul_assoc] at h2
  omega
end Sc
