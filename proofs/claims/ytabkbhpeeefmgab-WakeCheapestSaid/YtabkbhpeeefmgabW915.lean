import Derived.Test.YtabkbhpeeefmgabEngS9
import Derived.Test.YtabkbhpeeefmgabW914
open Go Go.Proofs Eng
set_option maxRecDepth 100000
set_option linter.unusedSimpArgs false
set_option linter.unusedVariables false

namespace Wa
def sumF (f : Nat → Int) : List Nat → Int
  | [] => 0
  | a :: l => f a + sumF f l
theorem sumF_app (f : Nat → Int) : ∀ a b, sumF f (a ++ b) = sumF f a + sumF f b
  | [], b => by simp [sumF]
  | x :: a, b => by rw [List.cons_append, sumF, sumF, sumF_app f a b]; omega
theorem sumF_perm (f : Nat → Int) {a b : List Nat} (h : a.Perm b) : sumF f a = sumF f b := by
  induction h with
  | nil => rfl
  | cons x _ ih => simp only [sumF, ih]
  | swap x y l => simp only [sumF]; omega
  | trans _ _ h1 h2 => rw [h1, h2]
theorem sumF_congr {f g : Nat → Int} : ∀ {l : List Nat}, (∀ u ∈ l, f u = g u) → sumF f l = sumF g l
  | [], _ => rfl
  | a :: l, h => by rw [sumF, sumF, h a (by simp), sumF_congr fun u hu => h u (by simp [hu])]
theorem sumF_sub (f g : Nat → Int) : ∀ l, sumF (fun u => f u - g u) l = sumF f l - sumF g l
  | [] => rfl
  | a :: l => by simp only [sumF, sumF_sub f g l]; omega
theorem sumF_zero {f : Nat → Int} : ∀ {l : List Nat}, (∀ u ∈ l, f u = 0) → sumF f l = 0
  | [], _ => rfl
  | a :: l, h => by rw [sumF, h a (by simp), sumF_zero fun u hu => h u (by simp [hu])]; rfl
def wtF (w : Nat → Nat → Int) : List Nat → Int
  | [] => 0
  | [_] => 0
  | a :: b :: l => w a b + wtF w (b :: l)
theorem wtF_mid (w : Nat → Nat → Int) (a : Nat) : ∀ (p r : List Nat), wtF w (p ++ a :: r) = wtF w (p ++ [a]) + wtF w (a :: r)
  | [], r => by simp [wtF]
  | [x], r => by simp [wtF]
  | x :: y :: p, r => by
    have := wtF_mid w a (y :: p) r
    simp only [List.cons_append, wtF] at this ⊢
    omega
def nxt (x : Nat) : List Nat → Nat → Nat
  | [], u => u
  | [a], u => if u = a then x else u
  | a :: b :: t, u => if u = a then b else nxt x (b :: t) u
theorem nxt_out (x u : Nat) : ∀ l, ¬ u ∈ l → nxt x l u = u
  | [], _ => rfl
  | [a], h => by
    have : ¬ u = a := fun e => h (by simp [e])
    simp [nxt, this]
  | a :: b :: t, h => by
    have h1 : ¬ u = a := fun e => h (by simp [e])
    have h2 : ¬ u ∈ b :: t := fun e => h (List.mem_cons_of_mem _ e)
    rw [nxt, if_neg h1, nxt_out x u (b :: t) h2]
theorem nxt_map (x : Nat) : ∀ (a : Nat) (l : List Nat), (a :: l).Nodup → (a :: l).map (nxt x (a :: l)) = l ++ [x]
  | a, [], h => by simp [nxt]
  | a, b :: t, h => by
    have h2 : (b :: t).Nodup := (List.nodup_cons.1 h).2
    have ha : ¬ a ∈ b :: t := (List.nodup_cons.1 h).1
    have e : (b :: t).map (nxt x (a :: b :: t)) = (b :: t).map (nxt x (b :: t)) := List.map_congr_left fun u hu => by
      have hne : ¬ u = a := fun e => ha (by rw [← e]; exact hu)
      rw [nxt, if_neg hne]
    rw [List.map_cons, e, nxt_map x b t h2, nxt, if_pos rfl]; rfl
theorem sum_nxt (w : Nat → Nat → Int) (x : Nat) : ∀ (a : Nat) (l : List Nat), (a :: l).Nodup → sumF (fun u => w u (nxt x (a :: l) u)) (a :: l) = wtF w (a :: (l ++ [x]))
  | a, [], h => by simp [sumF, wtF, nxt]
  | a, b :: t, h => by
    have h2 : (b :: t).Nodup := (List.nodup_cons.1 h).2
    have ha : ¬ a ∈ b :: t := (List.nodup_cons.1 h).1
    have ih := sum_nxt w x b t h2
    have e : sumF (fun u => w u (nxt x (a :: b :: t) u)) (b :: t) = sumF (fun u => w u (nxt x (b :: t) u)) (b :: t) := sumF_congr fun u hu => by
      have hne : ¬ u = a := fun e => ha (by rw [← e]; exact hu)
      rw [nxt, if_neg hne]
    have e2 : nxt x (a :: b :: t) a = b := by rw [nxt, if_pos rfl]
    rw [sumF, e, ih, e2]
    rfl
theorem dup_dec : ∀ (l : List Nat), ¬ l.Nodup → ∃ p y q r, l = p ++ y :: (q ++ y :: r)
  | [], h => absurd List.nodup_nil h
  | a :: t, h => by
    by_cases ha : a ∈ t
    · obtain ⟨q, r, rfl⟩ := List.append_of_mem ha
      exact ⟨[], a, q, r, rfl⟩
    · have : ¬ t.Nodup := fun ht => h (List.nodup_cons.2 ⟨ha, ht⟩)
      obtain ⟨p, y, q, r, rfl⟩ := dup_dec t this
      exact ⟨a :: p, y, q, r, rfl⟩
theorem sub_perm : ∀ (c p : List Nat), c.Nodup → (∀ x ∈ c, x ∈ p) → ∃ r, p.Perm (c ++ r)
  | [], p, _, _ => ⟨p, List.Perm.refl _⟩
  | a :: c, p, h, hs => by
    have ha : a ∈ p := hs a (by simp)
    have h1 := List.perm_cons_erase ha
    obtain ⟨r, hr⟩ := sub_perm c (p.erase a) (List.nodup_cons.1 h).2 fun x hx => by
      have hne : x ≠ a := fun e => (List.nodup_cons.1 h).1 (by rw [← e]; exact hx)
      exact (List.mem_erase_of_ne hne).2 (hs x (by simp [hx]))
    exact ⟨r, h1.trans (hr.cons a)⟩
theorem nodup_len {N : Nat} {c : List Nat} (h : c.Nodup) (hs : ∀ x ∈ c, x < N) : c.length ≤ N := by
  obtain ⟨r, hr⟩ := sub_perm c (List.range N) h fun x hx => List.mem_range.2 (hs x hx)
  have := hr.length_eq
  rw [List.length_range, List.length_append] at this
  omega
/-- no simple cycle below 0 -/
def simC (N : Nat) (w : Nat → Nat → Int) : Prop := ∀ a l, (a :: l).Nodup → (∀ u ∈ a :: l, u < N) → 0 ≤ wtF w (a :: (l ++ [a]))
theorem closed_nn {N : Nat} {w : Nat → Nat → Int} (hs : simC N w) : ∀ (n : Nat) (a : Nat) (l : List Nat), l.length ≤ n → (∀ u ∈ a :: l, u < N) → 0 ≤ wtF w (a :: (l ++ [a]))
  | 0, a, l, hl, hN => by
    have : l = [] := List.length_eq_zero_iff.1 (by omega)
    subst this
    exact hs a [] (by simp) hN
  | n + 1, a, l, hl, hN => by
    by_cases hd : (a :: l).Nodup
    · exact hs a l hd hN
    · obtain ⟨p, y, q, r, he⟩ := dup_dec _ hd
      cases p with
      | nil =>
        rw [List.nil_append] at he
        injection he with h1 h2
        subst h1; subst h2
        have e : a :: ((q ++ a :: r) ++ [a]) = (a :: q) ++ a :: (r ++ [a]) := by simp
        rw [List.length_append, List.length_cons] at hl
        have i1 := closed_nn hs n a q (by omega) fun u hu => hN u (by simp at hu ⊢; rcases hu with h | h <;> simp [h])
        have i2 := closed_nn hs n a r (by omega) fun u hu => hN u (by simp at hu ⊢; rcases hu with h | h <;> simp [h])
        rw [e, wtF_mid]
        have e2 : (a :: q) ++ [a] = a :: (q ++ [a]) := rfl
        rw [e2]; omega
      | cons b p =>
        rw [List.cons_append] at he
        injection he with h1 h2
        subst h1; subst h2
        rw [List.length_append, List.length_cons, List.length_append, List.length_cons] at hl
        have e : a :: ((p ++ y :: (q ++ y :: r)) ++ [a]) = (a :: p) ++ y :: (q ++ y :: (r ++ [a])) := by simp
        have e3 : y :: (q ++ y :: (r ++ [a])) = (y :: q) ++ y :: (r ++ [a]) := rfl
        have e4 : a :: ((p ++ y :: r) ++ [a]) = (a :: p) ++ y :: (r ++ [a]) := by simp
        have i1 := closed_nn hs n y q (by omega) fun u hu => hN u (by simp at hu ⊢; rcases hu with h | h <;> simp [h])
        have i2 := closed_nn hs n a (p ++ y :: r) (by rw [List.length_append, List.length_cons]; omega) fun u hu => hN u (by simp at hu ⊢; rcases hu with h | h | h | h <;> simp [h])
        rw [e4, wtF_mid] at i2
        rw [e, wtF_mid w y (a :: p), e3, wtF_mid w y (y :: q)]
        have e2 : (y :: q) ++ [y] = y :: (q ++ [y]) := rfl
        rw [e2]; omega
/-- each walk has a short one to the same end that weighs no more -/
theorem short {N : Nat} {w : Nat → Nat → Int} (hs : simC N w) : ∀ (n : Nat) (l : List Nat) (v : Nat), l.length ≤ n → (∀ u ∈ l ++ [v], u < N) → ∃ l', l'.length < N ∧ (∀ u ∈ l' ++ [v], u < N) ∧ wtF w (l' ++ [v]) ≤ wtF w (l ++ [v])
  | n, l, v, hl, hN => by
    by_cases hd : (l ++ [v]).Nodup
    · have := nodup_len hd hN
      rw [List.length_append, List.length_singleton] at this
      exact ⟨l, by omega, hN, Int.le_refl _⟩
    · obtain ⟨p, y, q, r, he⟩ := dup_dec _ hd
      have hlen := congrArg List.length he
      rw [List.length_append, List.length_singleton, List.length_append, List.length_cons, List.length_append, List.length_cons] at hlen
      have hc : 0 ≤ wtF w ((y :: q) ++ [y]) := closed_nn hs q.length y q (Nat.le_refl _) fun u hu => hN u (by rw [he]; simp at hu ⊢; rcases hu with h | h <;> simp [h])
      have hw : wtF w (p ++ y :: r) ≤ wtF w (l ++ [v]) := by
        have e3 : y :: (q ++ y :: r) = (y :: q) ++ y :: r := rfl
        rw [he, wtF_mid w y p (q ++ y :: r), wtF_mid w y p r, e3, wtF_mid w y (y :: q) r]
        omega
      have hN2 : ∀ u ∈ p ++ y :: r, u < N := fun u hu => hN u (by rw [he]; simp at hu ⊢; rcases hu with h | h | h <;> simp [h])
      have hex : ∃ l2, p ++ y :: r = l2 ++ [v] ∧ l2.length < l.length := by
        rcases List.eq_nil_or_concat r with rfl | ⟨L', b, rfl⟩
        · have e5 : l ++ [v] = (p ++ y :: q) ++ [y] := by rw [he]; simp
          obtain ⟨_, h2⟩ := List.append_inj' e5 rfl
          injection h2 with h3
          subst h3
          exact ⟨p, rfl, by simp at hlen; omega⟩
        · have e5 : l ++ [v] = (p ++ y :: (q ++ y :: L')) ++ [b] := by rw [he]; simp
          obtain ⟨_, h2⟩ := List.append_inj' e5 rfl
          injection h2 with h3
          subst h3
          refine ⟨p ++ y :: L', by simp, ?_⟩
          simp at hlen ⊢; omega
      obtain ⟨l2, h1, h2⟩ := hex
      rw [h1] at hw hN2
      cases n with
      | zero => omega
      | succ n =>
        obtain ⟨l3, h3, h4, h5⟩ := short hs n l2 v (by omega) hN2
        exact ⟨l3, h3, h4, by omega⟩
def pK (p : L) (i : Nat) : Int := gk i p
def wK (m : List L) (p : L) (i j : Nat) : Int := cell m i (pK p j) - cell m i (pK p i)
theorem cst_sum (m : List L) (g : Nat → Int) : ∀ (k i : Nat), cstG m i ((List.range' i k).map g) = sumF (fun j => cell m j (g j)) (List.range' i k)
  | 0, i => rfl
  | k + 1, i => by rw [List.range'_succ, List.map_cons, cstG, cst_sum m g k (i + 1)]; rfl
theorem cst_sum0 (m : List L) (g : Nat → Int) (N : Nat) : cst m ((List.range N).map g) = sumF (fun j => cell m j (g j)) (List.range N) := by
  rw [List.range_eq_range']; exact cst_sum m g N 0
theorem pK_range {p : L} {N : Nat} (h : p.length = N) : p = (List.range N).map (pK p) := by
  refine List.ext_getElem (by simp [h]) fun i h1 h2 => ?_
  rw [List.getElem_map, List.getElem_range, pK, gk, List.getElem?_eq_getElem h1]; rfl
structure asg (m : List L) (p : L) : Prop where
  n : p.length = m.length
  r : ∀ k ∈ p, 0 ≤ k ∧ k < (m.length : Int)
  d : p.Nodup
theorem asg_in {m : List L} {p : L} (h : asg m p) : p ∈ permG m.length m.length [] :=
  perm_all m.length [] p h.n h.r (fun _ _ h => by simp at h) h.d
theorem asg_of {m : List L} {p : L} (h : p ∈ permG m.length m.length []) : asg m p := by
  have h1 := perm_mem (N := m.length) m.length [] (by simp) (by simp) p h
  exact ⟨h1.1, h1.2, perm_nodup m.length [] p (by simp) h⟩
theorem sim_of {m : List L} {p : L} (h : asg m p) (hle : ∀ q ∈ permG m.length m.length [], cst m p ≤ cst m q) : simC m.length (wK m p) := fun a l hd hN => by
  obtain ⟨r, hr⟩ := sub_perm (a :: l) (List.range m.length) hd fun x hx => List.mem_range.2 (hN x hx)
  have hnd : ((a :: l) ++ r).Nodup := (hr.nodup_iff).1 List.nodup_range
  have hout : ∀ u ∈ r, nxt a (a :: l) u = u := fun u hu => nxt_out a u _ fun hm => (List.nodup_append.1 hnd).2.2 u hm u hu rfl
  have hmr : r.map (nxt a (a :: l)) = r := by
    rw [List.map_congr_left (g := id) fun u hu => hout u hu]; simp
  have hp1 : ((List.range m.length).map (nxt a (a :: l))).Perm (List.range m.length) := by
    refine (hr.map _).trans (List.Perm.trans ?_ hr.symm)
    rw [List.map_append, nxt_map a a l hd, hmr]
    exact List.Perm.append_right r List.perm_append_comm
  have hq := asg_in (m := m) (p := ((List.range m.length).map (nxt a (a :: l))).map (pK p)) ⟨by simp, fun k hk => ?_, ?_⟩
  · have hc := hle _ hq
    rw [List.map_map, cst_sum0] at hc
    have e0 : cst m p = sumF (fun j => cell m j (pK p j)) (List.range m.length) := by
      conv => lhs; rw [pK_range h.n]
      exact cst_sum0 m _ _
    rw [e0] at hc
    have e1 : sumF (fun i => wK m p i (nxt a (a :: l) i)) (List.range m.length) = sumF (fun j => cell m j ((pK p ∘ nxt a (a :: l)) j)) (List.range m.length) - sumF (fun j => cell m j (pK p j)) (List.range m.length) := sumF_sub _ _ _
    have e2 := sumF_perm (fun i => wK m p i (nxt a (a :: l) i)) hr
    rw [sumF_app, sum_nxt (wK m p) a a l hd] at e2
    have e3 : sumF (fun i => wK m p i (nxt a (a :: l) i)) r = 0 := sumF_zero fun u hu => by
      rw [hout u hu]; exact Int.sub_self _
    omega
  · have hk' : k ∈ p := by
      rw [pK_range h.n]
      exact ((hp1.map (pK p)).mem_iff).1 hk
    exact h.r k hk'
  · refine ((hp1.map (pK p)).nodup_iff).2 ?_
    rw [← pK_range h.n]; exact h.d
end Wa
open Go Go.Proofs Eng
set_option maxRecDepth 100000
set_option linter.unusedSimpArgs false
set_option linter.unusedVariables false
namespace Wa
abbrev pN (p : L) (i : Nat) : Nat := (pK p i).toNat
def rlx (m : List L) (p : L) (i : Nat) (C : L) (v : Nat) : L := C.set v (min (gk v C) (gk (pN p i) C + cell m i v - cell m i (pK p i)))
def rlRow (m : List L) (p : L) (C : L) (i : Nat) : L := (List.range' 0 m.length).foldl (rlx m p i) C
def rlAll (m : List L) (p : L) (C : L) (_ : Nat) : L := (List.range' 0 m.length).foldl (rlRow m p) C
def colV (m : List L) (p : L) : L := (List.range' 0 m.length).foldl (rlAll m p) (List.replicate m.length 0)
theorem gk_set {C : L} {v k : Nat} {x : Int} (h : v < C.length) : gk k (C.set v x) = if k = v then x else gk k C := by
  unfold gk
  by_cases e : k = v
  · subst e
    rw [if_pos rfl, List.getElem?_set_self h]; rfl
  · rw [if_neg e, List.getElem?_set_ne (fun q => e q.symm)]
theorem asg_lt {m : List L} {p : L} (h : asg m p) {i : Nat} (hi : i < m.length) : (0 ≤ pK p i ∧ pK p i < m.length) ∧ (pN p i : Int) = pK p i ∧ pN p i < m.length := by
  have hl : i < p.length := by rw [h.n]; exact hi
  have hk : pK p i = p[i] := by rw [pK, gk, List.getElem?_eq_getElem hl]; rfl
  have := h.r p[i] (List.getElem_mem hl)
  rw [← hk] at this
  unfold pN
  omega
theorem asg_inj {m : List L} {p : L} (h : asg m p) {i j : Nat} (hi : i < m.length) (hj : j < m.length) (he : pN p i = pN p j) : i = j := by
  have h1 := asg_lt h hi
  have h2 := asg_lt h hj
  have e : pK p i = pK p j := by rw [← h1.2.1, ← h2.2.1, he]
  have li : i < p.length := by rw [h.n]; exact hi
  have lj : j < p.length := by rw [h.n]; exact hj
  have ki : pK p i = p[i] := by rw [pK, gk, List.getElem?_eq_getElem li]; rfl
  have kj : pK p j = p[j] := by rw [pK, gk, List.getElem?_eq_getElem lj]; rfl
  rw [ki, kj] at e
  have hp := List.pairwise_iff_getElem.1 h.d
  rcases Nat.lt_trichotomy i j with g | g | g
  · exact absurd e (hp i j li lj g)
  · exact g
  · exact absurd e.symm (hp j i lj li g)
theorem asg_sur {m : List L} {p : L} (h : asg m p) {v : Nat} (hv : v < m.length) : ∃ j, j < m.length ∧ pN p j = v := by
  have hnd : ((List.range m.length).map (pN p)).Nodup := by
    refine List.pairwise_iff_getElem.2 fun i j hi hj hij => ?_
    rw [List.length_map, List.length_range] at hi hj
    rw [List.getElem_map, List.getElem_map, List.getElem_range, List.getElem_range]
    exact fun e => absurd (asg_inj h hi hj e) (by omega)
  obtain ⟨r, hr⟩ := sub_perm _ (List.range m.length) hnd fun x hx => by
    obtain ⟨i, hi, rfl⟩ := List.mem_map.1 hx
    exact List.mem_range.2 (asg_lt h (List.mem_range.1 hi)).2.2
  have hl := hr.length_eq
  rw [List.length_append, List.length_map, List.length_range] at hl
  have : r = [] := List.length_eq_zero_iff.1 (by omega)
  subst this
  rw [List.append_nil] at hr
  obtain ⟨j, hj, e⟩ := List.mem_map.1 ((hr.mem_iff).1 (List.mem_range.2 hv))
  exact ⟨j, List.mem_range.1 hj, e⟩
structure Iv (m : List L) (p : L) (t : Nat) (C : L) : Prop where
  len : C.length = m.length
  wk : ∀ j, j < m.length → ∃ l, (∀ u ∈ l ++ [j], u < m.length) ∧ gk (pN p j) C = wtF (wK m p) (l ++ [j])
  ub : ∀ l v, l.length ≤ t → (∀ u ∈ l ++ [v], u < m.length) → gk (pN p v) C ≤ wtF (wK m p) (l ++ [v])
theorem wt_snoc (w : Nat → Nat → Int) (l : List Nat) (i j : Nat) : wtF w ((l ++ [i]) ++ [j]) = wtF w (l ++ [i]) + w i j := by
  rw [List.append_assoc, List.singleton_append, wtF_mid w i l [j]]
  simp [wtF]
theorem rlx_ok {m : List L} {p : L} (ha : asg m p) {t : Nat} {C : L} (h : Iv m p t C) {i v : Nat} (hi : i < m.length) (hv : v < m.length) :
    Iv m p t (rlx m p i C v) ∧ (∀ k, gk k (rlx m p i C v) ≤ gk k C) ∧ gk v (rlx m p i C v) ≤ gk (pN p i) C + cell m i v - cell m i (pK p i) := by
  have hvC : v < C.length := by rw [h.len]; exact hv
  have hg : ∀ k, gk k (rlx m p i C v) = if k = v then min (gk v C) (gk (pN p i) C + cell m i v - cell m i (pK p i)) else gk k C := fun k => gk_set hvC
  have hmono : ∀ k, gk k (rlx m p i C v) ≤ gk k C := fun k => by
    rw [hg]
    split
    · rename_i e; rw [e]; omega
    · exact Int.le_refl _
  refine ⟨⟨by rw [rlx, List.length_set]; exact h.len, fun j hj => ?_, fun l u hl hN => Int.le_trans (hmono _) (h.ub l u hl hN)⟩, hmono, by rw [hg, if_pos rfl]; omega⟩
  rw [hg]
  split
  · rename_i e
    rcases Int.le_total (gk v C) (gk (pN p i) C + cell m i v - cell m i (pK p i)) with g | g
    · obtain ⟨l, h1, h2⟩ := h.wk j hj
      exact ⟨l, h1, by rw [← h2, e]; omega⟩
    · obtain ⟨l, h1, h2⟩ := h.wk i hi
      refine ⟨l ++ [i], fun u hu => ?_, ?_⟩
      · rcases List.mem_append.1 hu with hu | hu
        · exact h1 u hu
        · rw [List.mem_singleton.1 hu]; exact hj
      · rw [wt_snoc, ← h2]
        have hP := (asg_lt ha hj).2.1
        rw [e] at hP
        unfold wK
        rw [← hP]
        omega
  · exact h.wk j hj
theorem row_ok {m : List L} {p : L} (ha : asg m p) {t i : Nat} (hi : i < m.length) : ∀ (k v : Nat) (C : L), Iv m p t C → v + k ≤ m.length →
    Iv m p t ((List.range' v k).foldl (rlx m p i) C) ∧ (∀ x, gk x ((List.range' v k).foldl (rlx m p i) C) ≤ gk x C) ∧ ∀ u, v ≤ u → u < v + k → gk u ((List.range' v k).foldl (rlx m p i) C) ≤ gk (pN p i) C + cell m i u - cell m i (pK p i)
  | 0, v, C, h, _ => ⟨h, fun _ => Int.le_refl _, fun u _ _ => by omega⟩
  | k + 1, v, C, h, hk => by
    obtain ⟨a1, a2, a3⟩ := rlx_ok ha h hi (v := v) (by omega)
    obtain ⟨b1, b2, b3⟩ := row_ok ha hi k (v + 1) _ a1 (by omega)
    rw [List.range'_succ, List.foldl_cons]
    refine ⟨b1, fun x => Int.le_trans (b2 x) (a2 x), fun u h1 h2 => ?_⟩
    by_cases e : u = v
    · rw [e]; exact Int.le_trans (b2 v) a3
    · have := b3 u (by omega) (by omega)
      have := a2 (pN p i)
      omega
theorem rnd_ok {m : List L} {p : L} (ha : asg m p) {t : Nat} : ∀ (k i : Nat) (C : L), Iv m p t C → i + k ≤ m.length →
    Iv m p t ((List.range' i k).foldl (rlRow m p) C) ∧ (∀ x, gk x ((List.range' i k).foldl (rlRow m p) C) ≤ gk x C) ∧ ∀ i' u, i ≤ i' → i' < i + k → u < m.length → gk u ((List.range' i k).foldl (rlRow m p) C) ≤ gk (pN p i') C + cell m i' u - cell m i' (pK p i')
  | 0, i, C, h, _ => ⟨h, fun _ => Int.le_refl _, fun i' u _ _ _ => by omega⟩
  | k + 1, i, C, h, hk => by
    obtain ⟨a1, a2, a3⟩ := row_ok ha (i := i) (by omega) m.length 0 C h (by omega)
    obtain ⟨b1, b2, b3⟩ := rnd_ok ha k (i + 1) (rlRow m p C i) a1 (by omega)
    rw [List.range'_succ, List.foldl_cons]
    refine ⟨b1, fun x => Int.le_trans (b2 x) (a2 x), fun i' u h1 h2 h3 => ?_⟩
    by_cases e : i' = i
    · rw [e]; exact Int.le_trans (b2 u) (a3 u (by omega) (by omega))
    · have := b3 i' u (by omega) (by omega) h3
      have := a2 (pN p i')
      unfold rlRow at *
      omega
theorem all_ok {m : List L} {p : L} (ha : asg m p) {t : Nat} {C : L} (h : Iv m p t C) (x : Nat) : Iv m p (t + 1) (rlAll m p C x) := by
  obtain ⟨b1, b2, b3⟩ := rnd_ok ha m.length 0 C h (by omega)
  refine ⟨b1.len, b1.wk, fun l v hl hN => ?_⟩
  by_cases hlt : l.length ≤ t
  · exact b1.ub l v hlt hN
  · rcases List.eq_nil_or_concat l with rfl | ⟨l0, i, rfl⟩
    · simp at hlt
    · rw [List.concat_eq_append] at hl hN hlt ⊢
      have hi : i < m.length := hN i (by simp)
      have hv : v < m.length := hN v (by simp)
      have hu := h.ub l0 i (by simp at hl; omega) fun u hu => hN u (by simp at hu ⊢; rcases hu with q | q <;> simp [q])
      have hP := asg_lt ha hv
      have h3 := b3 i (pN p v) (Nat.zero_le _) (by omega) hP.2.2
      rw [hP.2.1] at h3
      rw [wt_snoc]
      have e : wK m p i v = cell m i (pK p v) - cell m i (pK p i) := rfl
      unfold rlAll
      omega
theorem col_iv {m : List L} {p : L} (ha : asg m p) : ∀ (k i t : Nat) (C : L), Iv m p t C → Iv m p (t + k) ((List.range' i k).foldl (rlAll m p) C)
  | 0, i, t, C, h => h
  | k + 1, i, t, C, h => by
    rw [List.range'_succ, List.foldl_cons]
    have := col_iv ha k (i + 1) (t + 1) _ (all_ok ha h i)
    rwa [show t + 1 + k = t + (k + 1) by omega] at this
theorem gk_rep (N k : Nat) : gk k (List.replicate N 0) = 0 := by
  unfold gk
  rw [List.getElem?_replicate]
  split <;> rfl
theorem iv_0 {m : List L} {p : L} : Iv m p 0 (List.replicate m.length 0) :=
  ⟨by simp, fun j hj => ⟨[], fun u hu => by rw [List.mem_singleton.1 hu]; exact hj, gk_rep _ _⟩, fun l v hl _ => by
    have : l = [] := List.length_eq_zero_iff.1 (by omega)
    subst this
    rw [gk_rep]; exact Int.le_refl _⟩
theorem iv_col {m : List L} {p : L} (ha : asg m p) : Iv m p m.length (colV m p) := by
  have := col_iv ha m.length 0 0 _ iv_0
  rwa [Nat.zero_add] at this
theorem wt_bd {m : List L} {p : L} (hma : maR m) : ∀ (l : List Nat) (j : Nat), -(10000000 * (l.length : Int)) ≤ wtF (wK m p) (l ++ [j])
  | [], j => by simp [wtF]
  | [a], j => by
    have h1 := cell_bd hma a (pK p j)
    have h2 := cell_bd hma a (pK p a)
    simp only [List.singleton_append, wtF, wK, List.length_singleton]
    omega
  | a :: b :: l, j => by
    have ih := wt_bd (p := p) hma (b :: l) j
    have h1 := cell_bd hma a (pK p b)
    have h2 := cell_bd hma a (pK p a)
    simp only [List.cons_append, wtF, wK, List.length_cons] at ih ⊢
    omega
theorem iv_bd {m : List L} {p : L} (hma : maR m) (ha : asg m p) (hs : simC m.length (wK m p)) {t : Nat} {C : L} (h : Iv m p t C) {v : Nat} (hv : v < m.length) : -50000000 ≤ gk v C ∧ gk v C ≤ 0 := by
  obtain ⟨j, hj, rfl⟩ := asg_sur ha hv
  have hn := hma.n
  constructor
  · obtain ⟨l, h1, h2⟩ := h.wk j hj
    obtain ⟨l', h3, h4, h5⟩ := short hs l.length l j (Nat.le_refl _) h1
    have := wt_bd (p := p) hma l' j
    omega
  · have := h.ub [] j (Nat.zero_le _) fun u hu => by rw [List.mem_singleton.1 hu]; exact hj
    exact this
/-- they prove the assignment -/
theorem col_fe {m : List L} {p : L} (ha : asg m p) (hs : simC m.length (wK m p)) {i v : Nat} (hi : i < m.length) (hv : v < m.length) :
    gk v (colV m p) ≤ gk (pN p i) (colV m p) + cell m i v - cell m i (pK p i) := by
  have h := iv_col ha
  obtain ⟨j, hj, rfl⟩ := asg_sur ha hv
  obtain ⟨l, h1, h2⟩ := h.wk i hi
  obtain ⟨l', h3, h4, h5⟩ := short hs (l ++ [i]).length (l ++ [i]) j (Nat.le_refl _) fun u hu => by
    rcases List.mem_append.1 hu with hu | hu
    · exact h1 u hu
    · rw [List.mem_singleton.1 hu]; exact hj
  rw [wt_snoc, ← h2] at h5
  have := h.ub l' j (by omega) h4
  have hP := (asg_lt ha hj).2.1
  rw [hP]
  have e : wK m p i j = cell m i (pK p j) - cell m i (pK p i) := rfl
  omega
end Wa
