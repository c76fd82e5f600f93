import Derived.Test.YtabkbhpeeefmgaaEngS9
import Derived.Test.YtabkbhpeeefmgaaW917
import Derived.Test.YtabkbhpeeefmgaaEngSH
open Go Go.Proofs Eng
set_option maxRecDepth 100000
set_option linter.unusedSimpArgs false
set_option linter.unusedVariables false

namespace Wa
def sumF (f : Nat → Int) : List Nat → Int
  | [] => 0
  | a :: l => f a + sumF f l
theorem sumF_app (f : Nat → Int) : ∀ a b, sumF f (a ++ b) = sumF f a + sumF f b
  | [], b => by simp [sumF]
  | x :: a, b => by rw [List.cons_append, sumF, sumF, sumF_app f a b]; omega
theorem sumF_perm (f : Nat → Int) {a b : List Nat} (h : a.Perm b) : sumF f a = sumF f b := by
  induction h with
  | nil => rfl
  | cons x _ ih => simp only [sumF, ih]
  | swap x y l => simp only [sumF]; omega
  | trans _ _ h1 h2 => rw [h1, h2]
theorem sumF_congr {f g : Nat → Int} : ∀ {l : List Nat}, (∀ u ∈ l, f u = g u) → sumF f l = sumF g l
  | [], _ => rfl
  | a :: l, h => by rw [sumF, sumF, h a (by simp), sumF_congr fun u hu => h u (by simp [hu])]
theorem sumF_sub (f g : Nat → Int) : ∀ l, sumF (fun u => f u - g u) l = sumF f l - sumF g l
  | [] => rfl
  | a :: l => by simp only [sumF, sumF_sub f g l]; omega
theorem sumF_zero {f : Nat → Int} : ∀ {l : List Nat}, (∀ u ∈ l, f u = 0) → sumF f l = 0
  | [], _ => rfl
  | a :: l, h => by rw [sumF, h a (by simp), sumF_zero fun u hu => h u (by simp [hu])]; rfl
def wtF (w : Nat → Nat → Int) : List Nat → Int
  | [] => 0
  | [_] => 0
  | a :: b :: l => w a b + wtF w (b :: l)
def nxt (x : Nat) : List Nat → Nat → Nat
  | [], u => u
  | [a], u => if u = a then x else u
  | a :: b :: t, u => if u = a then b else nxt x (b :: t) u
theorem nxt_out (x u : Nat) : ∀ l, ¬ u ∈ l → nxt x l u = u
  | [], _ => rfl
  | [a], h => by
    have : ¬ u = a := fun e => h (by simp [e])
    simp [nxt, this]
  | a :: b :: t, h => by
    have h1 : ¬ u = a := fun e => h (by simp [e])
    have h2 : ¬ u ∈ b :: t := fun e => h (List.mem_cons_of_mem _ e)
    rw [nxt, if_neg h1, nxt_out x u (b :: t) h2]
theorem nxt_map (x : Nat) : ∀ (a : Nat) (l : List Nat), (a :: l).Nodup → (a :: l).map (nxt x (a :: l)) = l ++ [x]
  | a, [], h => by simp [nxt]
  | a, b :: t, h => by
    have h2 : (b :: t).Nodup := (List.nodup_cons.1 h).2
    have ha : ¬ a ∈ b :: t := (List.nodup_cons.1 h).1
    have e : (b :: t).map (nxt x (a :: b :: t)) = (b :: t).map (nxt x (b :: t)) := List.map_congr_left fun u hu => by
      have hne : ¬ u = a := fun e => ha (by rw [← e]; exact hu)
      rw [nxt, if_neg hne]
    rw [List.map_cons, e, nxt_map x b t h2, nxt, if_pos rfl]; rfl
theorem sum_nxt (w : Nat → Nat → Int) (x : Nat) : ∀ (a : Nat) (l : List Nat), (a :: l).Nodup → sumF (fun u => w u (nxt x (a :: l) u)) (a :: l) = wtF w (a :: (l ++ [x]))
  | a, [], h => by simp [sumF, wtF, nxt]
  | a, b :: t, h => by
    have h2 : (b :: t).Nodup := (List.nodup_cons.1 h).2
    have ha : ¬ a ∈ b :: t := (List.nodup_cons.1 h).1
    have ih := sum_nxt w x b t h2
    have e : sumF (fun u => w u (nxt x (a :: b :: t) u)) (b :: t) = sumF (fun u => w u (nxt x (b :: t) u)) (b :: t) := sumF_congr fun u hu => by
      have hne : ¬ u = a := fun e => ha (by rw [← e]; exact hu)
      rw [nxt, if_neg hne]
    have e2 : nxt x (a :: b :: t) a = b := by rw [nxt, if_pos rfl]
    rw [sumF, e, ih, e2]
    rfl
theorem sub_perm : ∀ (c p : List Nat), c.Nodup → (∀ x ∈ c, x ∈ p) → ∃ r, p.Perm (c ++ r)
  | [], p, _, _ => ⟨p, List.Perm.refl _⟩
  | a :: c, p, h, hs => by
    have ha : a ∈ p := hs a (by simp)
    have h1 := List.perm_cons_erase ha
    obtain ⟨r, hr⟩ := sub_perm c (p.erase a) (List.nodup_cons.1 h).2 fun x hx => by
      have hne : x ≠ a := fun e => (List.nodup_cons.1 h).1 (by rw [← e]; exact hx)
      exact (List.mem_erase_of_ne hne).2 (hs x (by simp [hx]))
    exact ⟨r, h1.trans (hr.cons a)⟩
theorem nodup_len {N : Nat} {c : List Nat} (h : c.Nodup) (hs : ∀ x ∈ c, x < N) : c.length ≤ N := by
  obtain ⟨r, hr⟩ := sub_perm c (List.range N) h fun x hx => List.mem_range.2 (hs x hx)
  have := hr.length_eq
  rw [List.length_range, List.length_append] at this
  omega
/-- no simple cycle below 0 -/
def simC (N : Nat) (w : Nat → Nat → Int) : Prop := ∀ a l, (a :: l).Nodup → (∀ u ∈ a :: l, u < N) → 0 ≤ wtF w (a :: (l ++ [a]))
/-- each walk has a short one to the same end that weighs no more -/
def pK (p : L) (i : Nat) : Int := gk i p
def wK (m : List L) (p : L) (i j : Nat) : Int := cell m i (pK p j) - cell m i (pK p i)
theorem cst_sum (m : List L) (g : Nat → Int) : ∀ (k i : Nat), cstG m i ((List.range' i k).map g) = sumF (fun j => cell m j (g j)) (List.range' i k)
  | 0, i => rfl
  | k + 1, i => by rw [List.range'_succ, List.map_cons, cstG, cst_sum m g k (i + 1)]; rfl
theorem cst_sum0 (m : List L) (g : Nat → Int) (N : Nat) : cst m ((List.range N).map g) = sumF (fun j => cell m j (g j)) (List.range N) := by
  rw [List.range_eq_range']; exact cst_sum m g N 0
theorem pK_range {p : L} {N : Nat} (h : p.length = N) : p = (List.range N).map (pK p) := by
  refine List.ext_getElem (by simp [h]) fun i h1 h2 => ?_
  rw [List.getElem_map, List.getElem_range, pK, gk, List.getElem?_eq_getElem h1]; rfl
structure asg (m : List L) (p : L) : Prop where
  n : p.length = m.length
  r : ∀ k ∈ p, 0 ≤ k ∧ k < (m.length : Int)
  d : p.Nodup
theorem asg_in {m : List L} {p : L} (h : asg m p) : p ∈ permG m.length m.length [] :=
  perm_all m.length [] p h.n h.r (fun _ _ h => by simp at h) h.d
theorem asg_of {m : List L} {p : L} (h : p ∈ permG m.length m.length []) : asg m p := by
  have h1 := perm_mem (N := m.length) m.length [] (by simp) (by simp) p h
  exact ⟨h1.1, h1.2, perm_nodup m.length [] p (by simp) h⟩
theorem sim_of {m : List L} {p : L} (h : asg m p) (hle : ∀ q ∈ permG m.length m.length [], cst m p ≤ cst m q) : simC m.length (wK m p) := fun a l hd hN => by
  obtain ⟨r, hr⟩ := sub_perm (a :: l) (List.range m.length) hd fun x hx => List.mem_range.2 (hN x hx)
  have hnd : ((a :: l) ++ r).Nodup := (hr.nodup_iff).1 List.nodup_range
  have hout : ∀ u ∈ r, nxt a (a :: l) u = u := fun u hu => nxt_out a u _ fun hm => (List.nodup_append.1 hnd).2.2 u hm u hu rfl
  have hmr : r.map (nxt a (a :: l)) = r := by
    rw [List.map_congr_left (g := id) fun u hu => hout u hu]; simp
  have hp1 : ((List.range m.length).map (nxt a (a :: l))).Perm (List.range m.length) := by
    refine (hr.map _).trans (List.Perm.trans ?_ hr.symm)
    rw [List.map_append, nxt_map a a l hd, hmr]
    exact List.Perm.append_right r List.perm_append_comm
  have hq := asg_in (m := m) (p := ((List.range m.length).map (nxt a (a :: l))).map (pK p)) ⟨by simp, fun k hk => ?_, ?_⟩
  · have hc := hle _ hq
    rw [List.map_map, cst_sum0] at hc
    have e0 : cst m p = sumF (fun j => cell m j (pK p j)) (List.range m.length) := by
      conv => lhs; rw [pK_range h.n]
      exact cst_sum0 m _ _
    rw [e0] at hc
    have e1 : sumF (fun i => wK m p i (nxt a (a :: l) i)) (List.range m.length) = sumF (fun j => cell m j ((pK p ∘ nxt a (a :: l)) j)) (List.range m.length) - sumF (fun j => cell m j (pK p j)) (List.range m.length) := sumF_sub _ _ _
    have e2 := sumF_perm (fun i => wK m p i (nxt a (a :: l) i)) hr
    rw [sumF_app, sum_nxt (wK m p) a a l hd] at e2
    have e3 : sumF (fun i => wK m p i (nxt a (a :: l) i)) r = 0 := sumF_zero fun u hu => by
      rw [hout u hu]; exact Int.sub_self _
    omega
  · have hk' : k ∈ p := by
      rw [pK_range h.n]
      exact ((hp1.map (pK p)).mem_iff).1 hk
    exact h.r k hk'
  · refine ((hp1.map (pK p)).nodup_iff).2 ?_
    rw [← pK_range h.n]; exact h.d
end Wa
open Go Go.Proofs Eng
set_option maxRecDepth 100000
set_option linter.unusedSimpArgs false
set_option linter.unusedVariables false
namespace Wa
abbrev pN (p : L) (i : Nat) : Nat := (pK p i).toNat
theorem asg_lt {m : List L} {p : L} (h : asg m p) {i : Nat} (hi : i < m.length) : (0 ≤ pK p i ∧ pK p i < m.length) ∧ (pN p i : Int) = pK p i ∧ pN p i < m.length := by
  have hl : i < p.length := by rw [h.n]; exact hi
  have hk : pK p i = p[i] := by rw [pK, gk, List.getElem?_eq_getElem hl]; rfl
  have := h.r p[i] (List.getElem_mem hl)
  rw [← hk] at this
  unfold pN
  omega
theorem asg_inj {m : List L} {p : L} (h : asg m p) {i j : Nat} (hi : i < m.length) (hj : j < m.length) (he : pN p i = pN p j) : i = j := by
  have h1 := asg_lt h hi
  have h2 := asg_lt h hj
  have e : pK p i = pK p j := by rw [← h1.2.1, ← h2.2.1, he]
  have li : i < p.length := by rw [h.n]; exact hi
  have lj : j < p.length := by rw [h.n]; exact hj
  have ki : pK p i = p[i] := by rw [pK, gk, List.getElem?_eq_getElem li]; rfl
  have kj : pK p j = p[j] := by rw [pK, gk, List.getElem?_eq_getElem lj]; rfl
  rw [ki, kj] at e
  have hp := List.pairwise_iff_getElem.1 h.d
  rcases Nat.lt_trichotomy i j with g | g | g
  · exact absurd e (hp i j li lj g)
  · exact g
  · exact absurd e.symm (hp j i lj li g)
end Wa
open Go Go.Proofs Eng
set_option maxRecDepth 100000
set_option linter.unusedSimpArgs false
set_option linter.unusedVariables false
namespace Wa
end Wa
open Go Go.Proofs Eng
set_option maxRecDepth 100000
set_option linter.unusedSimpArgs false
set_option linter.unusedVariables false
namespace Wa
end Wa
open Go Go.Proofs Eng
set_option maxRecDepth 100000
set_option linter.unusedSimpArgs false
set_option linter.unusedVariables false
namespace Wa
def asV (m : List L) : L := (chV m).1.headD []
theorem asV_in (m : List L) : asV m ∈ (chV m).1 := by
  have := ch_ne (m := m)
  unfold asV
  cases h : (chV m).1 with
  | nil => exact absurd h this
  | cons a l => simp
theorem asV_asg (m : List L) : asg m (asV m) ∧ cst m (asV m) = (chV m).2 := by
  have h := asV_in m
  rw [chV_fil] at h
  obtain ⟨h1, h2⟩ := List.mem_filter.1 h
  exact ⟨asg_of h1, by simpa using h2⟩
theorem chV_le (m : List L) : ∀ q ∈ permG m.length m.length [], (chV m).2 ≤ cst m q := by
  obtain ⟨y, hy⟩ := cp_some m (permG m.length m.length []) none (.inl (perm_ne _))
  have h := cp_inv m (permG m.length m.length []) [] none rfl
  rw [hy] at h
  obtain ⟨l, c⟩ := y
  have hy' : chO m = some (l, c) := hy
  rw [chV, hy']
  exact h.2
theorem asV_sim (m : List L) : simC m.length (wK m (asV m)) := sim_of (asV_asg m).1 fun q hq => by
  rw [(asV_asg m).2]; exact chV_le m q hq
end Wa
