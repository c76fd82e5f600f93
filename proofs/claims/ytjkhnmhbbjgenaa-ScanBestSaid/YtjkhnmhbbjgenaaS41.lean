import Derived.Test.YtjkhnmhbbjgenaaEngS9
import Derived.Test.YtjkhnmhbbjgenaaS40
open Go Go.Proofs Eng
set_option maxRecDepth 100000
set_option linter.unusedSimpArgs false
set_option linter.unusedVariables false

namespace Sc
theorem perm_pre {N : Nat} : ∀ (f : Nat) (p q : List Int), q ∈ permG N f p → ∃ r, q = p ++ r
  | 0, p, q, h => by rw [permG, List.mem_singleton] at h; exact ⟨[], by rw [h, List.append_nil]⟩
  | f + 1, p, q, h => by
    rw [permG] at h
    obtain ⟨k, hk, hq⟩ := List.mem_flatMap.1 h
    split at hq
    · simp at hq
    · obtain ⟨r, hr⟩ := perm_pre f _ _ hq
      exact ⟨(k : Int) :: r, by rw [hr, List.append_assoc]; rfl⟩
theorem perm_nodup {N : Nat} : ∀ (f : Nat) (p q : List Int), p.Nodup → q ∈ permG N f p → q.Nodup
  | 0, p, q, hp, h => by rw [permG, List.mem_singleton] at h; rw [h]; exact hp
  | f + 1, p, q, hp, h => by
    rw [permG] at h
    obtain ⟨k, hk, hq⟩ := List.mem_flatMap.1 h
    split at hq
    · simp at hq
    · rename_i hk2
      exact perm_nodup f _ _ (List.nodup_append.2 ⟨hp, by simp, fun a ha b hb => by rw [List.mem_singleton.1 hb]; exact fun e => hk2 (e ▸ ha)⟩) hq
theorem perm_all {N : Nat} : ∀ (f : Nat) (p r : List Int), r.length = f → (∀ i ∈ r, 0 ≤ i ∧ i < N) → (∀ i ∈ r, ¬ i ∈ p) → r.Nodup → p ++ r ∈ permG N f p
  | 0, p, r, h, _, _, _ => by
    rw [List.eq_nil_of_length_eq_zero h, List.append_nil, permG]; simp
  | f + 1, p, [], h, _, _, _ => by simp at h
  | f + 1, p, i :: r, h, h1, h2, h3 => by
    rw [permG]
    have hi := h1 i (by simp)
    refine List.mem_flatMap.2 ⟨i.toNat, List.mem_range.2 (by omega), ?_⟩
    have e : ((i.toNat : Nat) : Int) = i := Int.toNat_of_nonneg hi.1
    rw [e, if_neg (h2 i (by simp))]
    have hn := List.nodup_cons.1 h3
    have := perm_all (N := N) f (p ++ [i]) r (by simpa using h) (fun j hj => h1 j (by simp [hj])) (fun j hj hm => by
      rcases List.mem_append.1 hm with hm | hm
      · exact h2 j (by simp [hj]) hm
      · rw [List.mem_singleton.1 hm] at hj; exact hn.1 hj) hn.2
    rwa [List.append_assoc] at this
theorem bef_pre (p : List Int) (a b : List Int) : bef (p ++ a) (p ++ b) = bef a b := by
  induction p with
  | nil => rfl
  | cons x p ih => rw [List.cons_append, List.cons_append, bef, if_pos rfl, ih]
theorem bef_asym : ∀ (a b : List Int), bef a b = true → bef b a = false
  | [], [], h => by cases h
  | [], _ :: _, _ => rfl
  | _ :: _, [], h => by cases h
  | a :: r, b :: q, h => by
    rw [bef] at h ⊢
    by_cases e : a = b
    · rw [if_pos e] at h
      rw [if_pos e.symm]
      exact bef_asym r q h
    · rw [if_neg e] at h
      rw [if_neg (fun x => e x.symm)]
      have := of_decide_eq_true h
      exact decide_eq_false (by omega)
theorem bef_irr : ∀ (a : List Int), bef a a = false
  | [] => rfl
  | a :: r => by rw [bef, if_pos rfl]; exact bef_irr r
theorem perm_sorted {N : Nat} : ∀ (f : Nat) (p : List Int), (permG N f p).Pairwise fun a b => bef a b = true
  | 0, p => by rw [permG]; exact List.pairwise_singleton _ _
  | f + 1, p => by
    rw [permG]
    have key : ∀ (l : List Nat), l.Pairwise (· < ·) → (l.flatMap fun (k : Nat) => if ((k : Nat) : Int) ∈ p then [] else permG N f (p ++ [((k : Nat) : Int)])).Pairwise fun a b => bef a b = true := by
      intro l
      induction l with
      | nil => intro _; exact List.Pairwise.nil
      | cons k l ih =>
        intro hl
        obtain ⟨h1, h2⟩ := List.pairwise_cons.1 hl
        rw [List.flatMap_cons]
        refine List.pairwise_append.2 ⟨?_, ih h2, fun a ha b hb => ?_⟩
        · split
          · exact List.Pairwise.nil
          · exact perm_sorted f _
        · split at ha
          · simp at ha
          · obtain ⟨j, hj, hb⟩ := List.mem_flatMap.1 hb
            split at hb
            · simp at hb
            · have hkj := h1 j hj
              obtain ⟨r, rfl⟩ := perm_pre f _ _ ha
              obtain ⟨q, rfl⟩ := perm_pre f _ _ hb
              rw [List.append_assoc, List.append_assoc, bef_pre]
              show bef ((k : Int) :: r) ((j : Int) :: q) = true
              rw [bef, if_neg (by omega)]
              exact decide_eq_true (by omega)
    exact key _ List.pairwise_lt_range
/-- the best one of those seen -/
def Best (o : Od) (pre : List (List Int)) : Option (List Int × Int) → Prop
  | none => ∀ q ∈ pre, tcG o 0 o.hd.home q = none
  | some (p, t) => p ∈ pre ∧ tcG o 0 o.hd.home p = some t ∧ ∀ q ∈ pre, ∀ u, tcG o 0 o.hd.home q = some u → t ≤ u ∧ (u = t → q = p ∨ bef p q = true)
theorem best_step {o : Od} {pre : List (List Int)} {x : Option (List Int × Int)} {s : List Int} (h : Best o pre x) (hs : ∀ a ∈ pre, bef a s = true) : Best o (pre ++ [s]) (bst o x s).1 := by
  unfold bst
  cases hT : tcG o 0 o.hd.home s with
  | none =>
    cases x with
    | none =>
      intro q hq
      rcases List.mem_append.1 hq with hq | hq
      · exact h q hq
      · rw [List.mem_singleton.1 hq]; exact hT
    | some x =>
      obtain ⟨p, t⟩ := x
      obtain ⟨h1, h2, h3⟩ := h
      refine ⟨List.mem_append.2 (.inl h1), h2, fun q hq u hu => ?_⟩
      rcases List.mem_append.1 hq with hq | hq
      · exact h3 q hq u hu
      · rw [List.mem_singleton.1 hq, hT] at hu; cases hu
  | some v =>
    cases x with
    | none =>
      refine ⟨by simp, hT, fun q hq u hu => ?_⟩
      rcases List.mem_append.1 hq with hq | hq
      · rw [h q hq] at hu; cases hu
      · rw [List.mem_singleton.1 hq, hT] at hu
        cases hu
        exact ⟨Int.le_refl _, fun _ => .inl (List.mem_singleton.1 hq)⟩
    | some x =>
      obtain ⟨p, t⟩ := x
      obtain ⟨h1, h2, h3⟩ := h
      simp only
      by_cases hv : v < t
      · rw [if_pos hv]
        refine ⟨by simp, hT, fun q hq u hu => ?_⟩
        rcases List.mem_append.1 hq with hq | hq
        · have := (h3 q hq u hu).1
          exact ⟨by omega, fun e => by omega⟩
        · rw [List.mem_singleton.1 hq, hT] at hu
          cases hu
          exact ⟨Int.le_refl _, fun _ => .inl (List.mem_singleton.1 hq)⟩
      · rw [if_neg hv]
        refine ⟨List.mem_append.2 (.inl h1), h2, fun q hq u hu => ?_⟩
        rcases List.mem_append.1 hq with hq | hq
        · exact h3 q hq u hu
        · rw [List.mem_singleton.1 hq, hT] at hu
          cases hu
          refine ⟨by omega, fun _ => .inr ?_⟩
          rw [List.mem_singleton.1 hq]
          exact hs p h1
theorem best_fold {o : Od} : ∀ (ss pre : List (List Int)) (x : Option (List Int × Int)), Best o pre x → (pre ++ ss).Pairwise (fun a b => bef a b = true) → Best o (pre ++ ss) (ss.foldl (fun x p => (bst o x p).1) x)
  | [], pre, x, h, _ => by simpa using h
  | s :: ss, pre, x, h, hp => by
    have e : pre ++ s :: ss = (pre ++ [s]) ++ ss := by rw [List.append_assoc]; rfl
    rw [List.foldl_cons, e]
    refine best_fold ss (pre ++ [s]) _ (best_step h fun a ha => ?_) (e ▸ hp)
    exact (List.pairwise_append.1 hp).2.2 a ha s (by simp)
theorem ooB_best (o : Od) : Best o (permG o.ds.length o.ds.length []) (ooB o) := by
  have := best_fold (o := o) (permG o.ds.length o.ds.length []) [] none (fun q hq => by simp at hq) (perm_sorted _ _)
  rw [List.nil_append] at this
  exact this
def sumL (F : Int → Int) : List Int → Int
  | [] => 0
  | k :: r => F k + sumL F r
theorem sumL_app (F : Int → Int) : ∀ (a b : List Int), sumL F (a ++ b) = sumL F a + sumL F b
  | [], b => by simp [sumL]
  | k :: a, b => by rw [List.cons_append, sumL, sumL, sumL_app F a b]; omega
/-- over the numbers below N that are not in p -/
def sumN (F : Int → Int) (p : List Int) : Nat → Int
  | 0 => 0
  | n + 1 => sumN F p n + if (n : Int) ∈ p then 0 else F n
theorem sumN_add (F : Int → Int) (p : List Int) (k : Nat) (hk : ¬ (k : Int) ∈ p) : ∀ N : Nat, sumN F (p ++ [(k : Int)]) N + (if k < N then F k else 0) = sumN F p N
  | 0 => by simp [sumN]
  | n + 1 => by
    have ih := sumN_add F p k hk n
    rw [sumN, sumN]
    by_cases e : k = n
    · subst e
      rw [if_neg (Nat.lt_irrefl _)] at ih
      rw [if_pos (show k < k + 1 by omega), if_pos (by simp), if_neg hk]
      omega
    · have e2 : ((n : Int) ∈ p ++ [(k : Int)]) ↔ (n : Int) ∈ p := by
        constructor
        · intro h
          rcases List.mem_append.1 h with h | h
          · exact h
          · have := List.mem_singleton.1 h; omega
        · exact fun h => List.mem_append.2 (.inl h)
      by_cases hn : (n : Int) ∈ p
      · rw [if_pos (e2.2 hn), if_pos hn]
        by_cases hl : k < n
        · rw [if_pos hl] at ih; rw [if_pos (by omega)]; omega
        · rw [if_neg hl] at ih; rw [if_neg (by omega)]; omega
      · rw [if_neg (fun h => hn (e2.1 h)), if_neg hn]
        by_cases hl : k < n
        · rw [if_pos hl] at ih; rw [if_pos (by omega)]; omega
        · rw [if_neg hl] at ih; rw [if_neg (by omega)]; omega
theorem sumN_one (p : List Int) : ∀ N : Nat, 0 ≤ sumN (fun _ => 1) p N ∧ (sumN (fun _ => 1) p N = 0 → ∀ F, sumN F p N = 0)
  | 0 => ⟨Int.le_refl _, fun _ _ => rfl⟩
  | n + 1 => by
    obtain ⟨h1, h2⟩ := sumN_one p n
    rw [sumN]
    by_cases hn : (n : Int) ∈ p
    · rw [if_pos hn]
      refine ⟨by omega, fun h F => ?_⟩
      rw [sumN, if_pos hn, h2 (by omega)]; rfl
    · rw [if_neg hn]
      exact ⟨by omega, fun h => by omega⟩
theorem perm_sum {N : Nat} (F : Int → Int) : ∀ (f : Nat) (p q : List Int), sumN (fun _ => 1) p N = f → q ∈ permG N f p → sumL F q = sumL F p + sumN F p N
  | 0, p, q, hc, h => by
    rw [permG, List.mem_singleton] at h
    rw [h, (sumN_one p N).2 hc]; omega
  | f + 1, p, q, hc, h => by
    rw [permG] at h
    obtain ⟨k, hk, hq⟩ := List.mem_flatMap.1 h
    have hkN := List.mem_range.1 hk
    split at hq
    · simp at hq
    · rename_i hkp
      have a1 := sumN_add (fun _ => 1) p k hkp N
      have a2 := sumN_add F p k hkp N
      rw [if_pos hkN] at a1 a2
      have := perm_sum F f (p ++ [(k : Int)]) q (by omega) hq
      rw [sumL_app] at this
      simp only [sumL] at this
      omega
theorem sumN_nil (N : Nat) : sumN (fun _ => 1) [] N = N := by
  induction N with
  | zero => rfl
  | succ n ih => rw [sumN, if_neg (by simp), ih]; omega
def bm (h : Hd) (l : List Dr) (i : Int) : Int := match l[i.toNat]? with
  | some d => bmG h d i.toNat (mvT h h.home d) 0 l
  | none => 0
theorem bmG_le (h : Hd) (d : Dr) (i : Nat) : ∀ (l : List Dr) (a : Int) (k : Nat), bmG h d i a k l ≤ a ∧ ∀ (j : Nat) (o : Dr), l[j]? = some o → k + j ≠ i → bmG h d i a k l ≤ mvT h o d
  | [], a, k => ⟨Int.le_refl _, fun j o hj _ => by simp at hj⟩
  | x :: r, a, k => by
    obtain ⟨h1, h2⟩ := bmG_le h d i r (if k = i then a else min a (mvT h x d)) (k + 1)
    rw [bmG]
    refine ⟨?_, fun j o hj hne => ?_⟩
    · split at h1 <;> split <;> simp_all <;> omega
    · cases j with
      | zero =>
        simp only [List.getElem?_cons_zero, Option.some.injEq] at hj
        subst hj
        rw [if_neg (by omega)] at h1
        rw [if_neg (by omega)]
        omega
      | succ j =>
        rw [List.getElem?_cons_succ] at hj
        exact h2 j o hj (by omega)
theorem bdG_sum (h : Hd) (l : List Dr) : ∀ (r : List Dr) (s : Int) (i : Nat), l.drop i = r → bdG h l s i r + sumN (bm h l) [] i = s + sumN (bm h l) [] l.length
  | [], s, i, hr => by
    have hi : l.length ≤ i := by
      have := congrArg List.length hr
      simp only [List.length_drop, List.length_nil] at this; omega
    rw [bdG]
    have : ∀ j : Nat, sumN (bm h l) [] (l.length + j) = sumN (bm h l) [] l.length := by
      intro j
      induction j with
      | zero => rfl
      | succ j ih =>
        rw [← Nat.add_assoc, sumN, if_neg (by simp), ih]
        have : bm h l ((l.length + j : Nat) : Int) = 0 := by
          unfold bm
          rw [Int.toNat_natCast, List.getElem?_eq_none (by omega)]
        omega
    have := this (i - l.length)
    rw [show l.length + (i - l.length) = i by omega] at this
    rw [this]
  | d :: r, s, i, hr => by
    have hd : l[i]? = some d := by
      have h9 := List.getElem?_drop (xs := l) (i := i) (j := 0)
      rw [hr] at h9
      simpa using h9.symm
    have hr2 : l.drop (i + 1) = r := by rw [← List.drop_drop, hr]; rfl
    have ih := bdG_sum h l r (s + bmG h d i (mvT h h.home d) 0 l) (i + 1) hr2
    rw [bdG]
    rw [sumN, if_neg (by simp)] at ih
    have : bm h l (i : Int) = bmG h d i (mvT h h.home d) 0 l := by
      unfold bm
      rw [Int.toNat_natCast, hd]
    omega
/-- where it stands: at home, or at one of the directions -/
theorem tc_bound {h : Hd} {l : List Dr} : ∀ (r : List Int) (t t' : Int) (d : Dr) (seen : List Int), (d = h.home ∨ ∃ j : Int, j ∈ seen ∧ 0 ≤ j ∧ l[j.toNat]? = some d) → (∀ i ∈ r, 0 ≤ i ∧ ¬ i ∈ seen) → r.Nodup → tcG ⟨h, l⟩ t d r = some t' → t + sumL (bm h l) r ≤ t'
  | [], t, t', d, seen, _, _, _, ht => by
    rw [tcG] at ht
    cases ht
    simp [sumL]
  | k :: r, t, t', d, seen, hd, hr, hn, ht => by
    rw [tcG] at ht
    simp only at ht
    cases hx : l[k.toNat]? with
    | none => rw [hx] at ht; cases ht
    | some x =>
      rw [hx] at ht
      simp only at ht
      cases hl : litL h d x with
      | some _ => rw [hl] at ht; cases ht
      | none =>
        rw [hl] at ht
        simp only at ht
        obtain ⟨n1, n2⟩ := List.nodup_cons.1 hn
        have hk := hr k (by simp)
        have ih := tc_bound r (t + mvT h d x) t' x (k :: seen) (.inr ⟨k, by simp, hk.1, hx⟩) (fun i hi => ⟨(hr i (by simp [hi])).1, fun hm => by
          rcases List.mem_cons.1 hm with rfl | hm
          · exact n1 hi
          · exact (hr i (by simp [hi])).2 hm⟩) n2 ht
        have hb : bm h l k ≤ mvT h d x := by
          unfold bm
          rw [hx]
          obtain ⟨b1, b2⟩ := bmG_le h x k.toNat l (mvT h h.home x) 0
          rcases hd with rfl | ⟨j, hj1, hj2, hj3⟩
          · exact b1
          · refine b2 j.toNat d hj3 ?_
            have : j ≠ k := fun e => hk.2 (e ▸ hj1)
            have := hk.1
            omega
        rw [sumL]; omega
theorem bound_le {h : Hd} {l : List Dr} {p : List Int} {t : Int} (hp : p ∈ permG l.length l.length []) (ht : tcG ⟨h, l⟩ 0 h.home p = some t) : bdG h l 0 0 l ≤ t := by
  have h1 := perm_sum (bm h l) l.length [] p (sumN_nil _) hp
  have h2 := bdG_sum h l l 0 0 rfl
  have hm := perm_mem l.length [] (by simp) (by simp) p hp
  have h3 := tc_bound p 0 t h.home [] (.inl rfl) (fun i hi => ⟨(hm.2 i hi).1, by simp⟩) (perm_nodup _ [] p List.nodup_nil hp) ht
  simp only [sumL, sumN] at h1 h2
  omega
end Sc
