import Derived.Test.YtjkhnmhbbjgenaaEngS9
import Derived.Test.YtjkhnmhbbjgenaaS41
open Go Go.Proofs Eng
set_option maxRecDepth 100000
set_option linter.unusedSimpArgs false
set_option linter.unusedVariables false
def a111 : AC := .seq (.ops false [] [⟨some 2, .box 42 7 1 true, [.t 0], none⟩, ⟨some 4, .alloc 155 98 [.agg [.int .i64 0, .int .i64 0, .int .i64 0, .int .i64 0, .int .i64 0, .int .i64 0, .int .i64 0, .int .i64 0, .int .i64 0, .int .i64 0, .int .i64 0, .int .i64 0, .int .i64 0, .int .i64 0, .int .i64 0, .int .i64 0, .int .i64 0, .int .i64 0, .int .i64 0, .int .i64 0, .int .i64 0, .int .i64 0, .int .i64 0, .int .i64 0, .int .i64 0, .int .i64 0, .int .i64 0, .int .i64 0, .int .i64 0, .int .i64 0, .int .i64 0, .int .i64 0, .int .i64 0, .int .i64 0, .int .i64 0, .int .i64 0, .int .i64 0, .int .i64 0, .int .i64 0, .int .i64 0, .int .i64 0, .int .i64 0, .int .i64 0, .int .i64 0, .int .i64 0, .int .i64 0, .int .i64 0, .int .i64 0, .int .i64 0, .bool false, .bool false, .bool false, .bool false, .bool false, .bool false, .bool false, .bool false, .bool false, .bool false, .bool false, .bool false, .bool false, .bool false, .bool false, .bool false, .bool false, .bool false, .bool false, .bool false, .bool false, .bool false, .bool false, .bool false, .bool false, .bool false, .bool false, .bool false, .bool false, .bool false, .bool false, .bool false, .bool false, .bool false, .bool false, .bool false, .bool false, .bool false, .bool false, .bool false, .bool false, .bool false, .bool false, .bool false, .bool false, .bool false, .bool false, .bool false, .bool false]], [], none⟩]) (.seq (.ops false [] [⟨some 5, .alloc 155 98 [.agg [.int .i64 0, .int .i64 0, .int .i64 0, .int .i64 0, .int .i64 0, .int .i64 0, .int .i64 0, .int .i64 0, .int .i64 0, .int .i64 0, .int .i64 0, .int .i64 0, .int .i64 0, .int .i64 0, .int .i64 0, .int .i64 0, .int .i64 0, .int .i64 0, .int .i64 0, .int .i64 0, .int .i64 0, .int .i64 0, .int .i64 0, .int .i64 0, .int .i64 0, .int .i64 0, .int .i64 0, .int .i64 0, .int .i64 0, .int .i64 0, .int .i64 0, .int .i64 0, .int .i64 0, .int .i64 0, .int .i64 0, .int .i64 0, .int .i64 0, .int .i64 0, .int .i64 0, .int .i64 0, .int .i64 0, .int .i64 0, .int .i64 0, .int .i64 0, .int .i64 0, .int .i64 0, .int .i64 0, .int .i64 0, .int .i64 0, .bool false, .bool false, .bool false, .bool false, .bool false, .bool false, .bool false, .bool false, .bool false, .bool false, .bool false, .bool false, .bool false, .bool false, .bool false, .bool false, .bool false, .bool false, .bool false, .bool false, .bool false, .bool false, .bool false, .bool false, .bool false, .bool false, .bool false, .bool false, .bool false, .bool false, .bool false, .bool false, .bool false, .bool false, .bool false, .bool false, .bool false, .bool false, .bool false, .bool false, .bool false, .bool false, .bool false, .bool false, .bool false, .bool false, .bool false, .bool false, .bool false]], [], none⟩]) (.seq (.seq (.ops false [] [⟨some 6, .p (.mov), [.c (.int .i64 0)], none⟩]) (.block 0 (.loop (.seq (.seq (.ops false [] [⟨some 9, .p (.mov), [.t 6], none⟩, ⟨some 10, .p (.mov), [.t 1], none⟩, ⟨some 11, .p (.lenS), [.t 10], none⟩, ⟨some 12, .p (.binI .leq), [.t 9, .t 11], none⟩]) (.cond (.t 12) (.skip) (.exit 0))) (.seq (.block 1 (.seq (.ops false [] [⟨some 15, .p (.faddr 0), [.t 2], none⟩, ⟨some 16, .load 2 true, [.t 15], none⟩, ⟨some 7, .alloc 37 2 [.agg [.int .i64 0, .int .i64 0]], [], none⟩, ⟨none, .store 2 true, [.t 7, .t 16], none⟩]) (.seq (.seq (.ops false [] [⟨some 17, .p (.mov), [.t 6], none⟩, ⟨some 18, .p (.mov), [.t 1], none⟩, ⟨some 19, .p (.lenS), [.t 18], none⟩, ⟨some 20, .p (.binI .lss), [.t 17, .t 19], none⟩]) (.cond (.t 20) (.ops false [] [⟨some 21, .p (.mov), [.t 1], none⟩, ⟨some 22, .p (.mov), [.t 6], none⟩, ⟨some 23, .p (.iaddrS 2), [.t 21, .t 22], none⟩, ⟨some 24, .load 2 true, [.t 23], none⟩, ⟨none, .store 2 true, [.t 7, .t 24], none⟩]) (.skip))) (.seq (.ops false [] [⟨some 8, .p (.mov), [.c (.int .i64 0)], none⟩]) (.block 2 (.loop (.seq (.seq (.ops false [] [⟨some 25, .p (.mov), [.t 8], none⟩, ⟨some 26, .p (.mov), [.t 1], none⟩, ⟨some 27, .p (.lenS), [.t 26], none⟩, ⟨some 28, .p (.binI .lss), [.t 25, .t 27], none⟩]) (.cond (.t 28) (.skip) (.exit 2))) (.seq (.block 3 (.ops true [] [⟨some 31, .p (.mov), [.t 6], none⟩, ⟨some 32, .p (.mov), [.t 8], none⟩, ⟨some 33, .p (.mov), [.t 6], none⟩, ⟨some 34, .p (.mov), [.t 8], none⟩, ⟨some 35, .load 7 true, [.t 2], none⟩, ⟨some 36, .load 2 true, [.t 7], none⟩, ⟨some 37, .p (.mov), [.t 1], none⟩, ⟨some 38, .p (.mov), [.t 8], none⟩, ⟨some 39, .p (.iaddrS 2), [.t 37, .t 38], none⟩, ⟨some 40, .load 2 true, [.t 39], none⟩, ⟨some 41, .call 70, [.t 35, .t 36, .t 40], none⟩, ⟨some 42, .load 7 true, [.t 2], none⟩, ⟨some 43, .load 2 true, [.t 7], none⟩, ⟨some 44, .p (.mov), [.t 1], none⟩, ⟨some 45, .p (.mov), [.t 8], none⟩, ⟨some 46, .p (.iaddrS 2), [.t 44, .t 45], none⟩, ⟨some 47, .load 2 true, [.t 46], none⟩, ⟨some 48, .call 71, [.t 42, .t 43, .t 47], none⟩, ⟨some 49, .p (.faddr 0), [.t 5], none⟩, ⟨some 50, .p (.iaddrA 7 7), [.t 49, .t 31], none⟩, ⟨some 51, .p (.iaddrA 7 1), [.t 50, .t 32], none⟩, ⟨none, .store 1 false, [.t 51, .t 41], none⟩, ⟨some 52, .p (.faddr 49), [.t 5], none⟩, ⟨some 53, .p (.iaddrA 7 7), [.t 52, .t 33], none⟩, ⟨some 54, .p (.iaddrA 7 1), [.t 53, .t 34], none⟩, ⟨none, .store 1 false, [.t 54, .t 48], none⟩])) (.ops false [] [⟨some 29, .p (.mov), [.t 8], none⟩, ⟨some 30, .p (.binI .add), [.t 29, .c (.int .i64 1)], none⟩, ⟨some 8, .p (.mov), [.t 30], none⟩]))))))))) (.ops false [] [⟨some 13, .p (.mov), [.t 6], none⟩, ⟨some 14, .p (.binI .add), [.t 13, .c (.int .i64 1)], none⟩, ⟨some 6, .p (.mov), [.t 14], none⟩])))))) (.seq (.ops false [] [⟨some 55, .load 98 true, [.t 5], none⟩, ⟨none, .store 98 true, [.t 4, .t 55], none⟩]) (.ret))))
theorem c111 : FnC Try.prog 111 56 a111 [.cell 4 98 true] := ⟨Try.call111, _, _, Try.func111, rfl, by kernel_rfl, by kernel_rfl, rfl⟩
namespace Sc
def pC (f : Nat → Nat → Int) (g : Nat → Nat → Bool) : List AV := (List.range 49).map (fun p => I (f (p / 7) (p % 7))) ++ (List.range 49).map (fun p => AV.bool (g (p / 7) (p % 7)))
theorem pC_len (f : Nat → Nat → Int) (g : Nat → Nat → Bool) : (pC f g).length = 98 := by simp [pC]
theorem free_pC (φ : Nat → Fate) (f : Nat → Nat → Int) (g : Nat → Nat → Bool) : subs φ (pC f g) = pC f g := by
  have a : ∀ (l : List Nat), subs φ (l.map (fun p => I (f (p / 7) (p % 7)))) = l.map (fun p => I (f (p / 7) (p % 7))) := by
    intro l; induction l with
    | nil => simp only [List.map_nil, subs]
    | cons x r ih => simp only [List.map_cons, subs, sub1, ih]
  have b : ∀ (l : List Nat), subs φ (l.map (fun p => AV.bool (g (p / 7) (p % 7)))) = l.map (fun p => AV.bool (g (p / 7) (p % 7))) := by
    intro l; induction l with
    | nil => simp only [List.map_nil, subs]
    | cons x r ih => simp only [List.map_cons, subs, sub1, ih]
  have c : ∀ (x y : List AV), subs φ (x ++ y) = subs φ x ++ subs φ y := by
    intro x y; induction x with
    | nil => simp only [List.nil_append, subs]
    | cons u r ih => simp only [List.cons_append, subs, ih]
  unfold pC
  rw [c, a, b]
theorem pC_get1 (f : Nat → Nat → Int) (g : Nat → Nat → Bool) {i k : Nat} (hi : i < 7) (hk : k < 7) : (pC f g)[i * 7 + k]? = some (I (f i k)) := by
  unfold pC
  rw [List.getElem?_append_left (by simp; omega), List.getElem?_map, List.getElem?_range (by omega)]
  have h1 : (i * 7 + k) / 7 = i := by omega
  have h2 : (i * 7 + k) % 7 = k := by omega
  rw [Option.map_some, h1, h2]
theorem pC_get2 (f : Nat → Nat → Int) (g : Nat → Nat → Bool) {i k : Nat} (hi : i < 7) (hk : k < 7) : (pC f g)[49 + i * 7 + k]? = some (AV.bool (g i k)) := by
  unfold pC
  rw [List.getElem?_append_right (by simp; omega), List.length_map, List.length_range, show 49 + i * 7 + k - 49 = i * 7 + k by omega, List.getElem?_map, List.getElem?_range (by omega)]
  have h1 : (i * 7 + k) / 7 = i := by omega
  have h2 : (i * 7 + k) % 7 = k := by omega
  rw [Option.map_some, h1, h2]
theorem map_set {α : Type} (F F' : Nat → α) (p n : Nat) (v : α) (hp : F' p = v) (hq : ∀ q, q < n → q ≠ p → F' q = F q) : ((List.range n).map F).set p v = (List.range n).map F' := by
  apply List.ext_getElem?
  intro q
  rw [List.getElem?_set, List.getElem?_map, List.getElem?_map]
  by_cases hn : q < n
  · rw [List.getElem?_range hn]
    by_cases e : p = q
    · subst e; rw [if_pos rfl, if_pos (by simpa using hn)]; simp [hp]
    · rw [if_neg e]; simp [hq q hn (fun x => e x.symm)]
  · have : (List.range n)[q]? = none := List.getElem?_eq_none (by simp; omega)
    rw [this]
    by_cases e : p = q
    · subst e; rw [if_pos rfl, if_neg (by simpa using hn)]; rfl
    · rw [if_neg e]; rfl
theorem pC_set1 (f f' : Nat → Nat → Int) (g : Nat → Nat → Bool) {i k : Nat} (hi : i < 7) (hk : k < 7) (hf : ∀ a b, f' a b = if a = i ∧ b = k then f' i k else f a b) : (pC f g).set (i * 7 + k) (I (f' i k)) = pC f' g := by
  unfold pC
  rw [List.set_append_left _ _ (by simp; omega)]
  congr 1
  refine map_set _ _ _ _ _ ?_ fun q hq hne => ?_
  · have h1 : (i * 7 + k) / 7 = i := by omega
    have h2 : (i * 7 + k) % 7 = k := by omega
    simp only [h1, h2]
  · rw [hf, if_neg (by omega)]
theorem pC_set2 (f : Nat → Nat → Int) (g g' : Nat → Nat → Bool) {i k : Nat} (hi : i < 7) (hk : k < 7) (hf : ∀ a b, g' a b = if a = i ∧ b = k then g' i k else g a b) : (pC f g).set (49 + i * 7 + k) (AV.bool (g' i k)) = pC f g' := by
  unfold pC
  rw [List.set_append_right _ _ (by simp; omega), List.length_map, List.length_range, show 49 + i * 7 + k - 49 = i * 7 + k by omega]
  congr 1
  refine map_set _ _ _ _ _ ?_ fun q hq hne => ?_
  · have h1 : (i * 7 + k) / 7 = i := by omega
    have h2 : (i * 7 + k) % 7 = k := by omega
    simp only [h1, h2]
  · rw [hf, if_neg (by omega)]
theorem pC_zero : ([I 0, I 0, I 0, I 0, I 0, I 0, I 0, I 0, I 0, I 0, I 0, I 0, I 0, I 0, I 0, I 0, I 0, I 0, I 0, I 0, I 0, I 0, I 0, I 0, I 0, I 0, I 0, I 0, I 0, I 0, I 0, I 0, I 0, I 0, I 0, I 0, I 0, I 0, I 0, I 0, I 0, I 0, I 0, I 0, I 0, I 0, I 0, I 0, I 0, .bool false, .bool false, .bool false, .bool false, .bool false, .bool false, .bool false, .bool false, .bool false, .bool false, .bool false, .bool false, .bool false, .bool false, .bool false, .bool false, .bool false, .bool false, .bool false, .bool false, .bool false, .bool false, .bool false, .bool false, .bool false, .bool false, .bool false, .bool false, .bool false, .bool false, .bool false, .bool false, .bool false, .bool false, .bool false, .bool false, .bool false, .bool false, .bool false, .bool false, .bool false, .bool false, .bool false, .bool false, .bool false, .bool false, .bool false, .bool false, .bool false] : List AV) = pC (fun _ _ => 0) (fun _ _ => false) := rfl
def pS (h : Hd) (l : List Dr) (a : Nat) : Dr := (l[a]?).getD h.home
def pD (l : List Dr) (i k a b : Nat) : Prop := (a < i ∨ a = i ∧ b < k) ∧ b < l.length
instance (l : List Dr) (i k a b : Nat) : Decidable (pD l i k a b) := by unfold pD; infer_instance
def pF (h : Hd) (l : List Dr) (i k a b : Nat) : Int := if pD l i k a b then mvT h (pS h l a) (pS h l b) else 0
def pG (h : Hd) (l : List Dr) (i k a b : Nat) : Bool := if pD l i k a b then (litL h (pS h l a) (pS h l b)).isNone else false
def pA (h : Hd) (l : List Dr) (i k : Nat) : List AV := pC (pF h l i k) (pG h l i k)
theorem pA_zero (h : Hd) (l : List Dr) : pC (fun _ _ => 0) (fun _ _ => false) = pA h l 0 0 := by
  have e : ∀ a b, ¬ pD l 0 0 a b := fun a b h => by unfold pD at h; omega
  unfold pA
  have h1 : pF h l 0 0 = fun _ _ => 0 := by funext a b; unfold pF; rw [if_neg (e a b)]
  have h2 : pG h l 0 0 = fun _ _ => false := by funext a b; unfold pG; rw [if_neg (e a b)]
  rw [h1, h2]
theorem pA_next (h : Hd) (l : List Dr) (i : Nat) : pA h l i l.length = pA h l (i + 1) 0 := by
  have e : ∀ a b, pD l i l.length a b = pD l (i + 1) 0 a b := fun a b => propext (by unfold pD; omega)
  unfold pA
  have h1 : pF h l i l.length = pF h l (i + 1) 0 := by funext a b; unfold pF; simp only [e]
  have h2 : pG h l i l.length = pG h l (i + 1) 0 := by funext a b; unfold pG; simp only [e]
  rw [h1, h2]
theorem pA_set (h : Hd) (l : List Dr) {i k : Nat} (hi : i < 7) (hk : k < 7) (hkl : k < l.length) : ((pA h l i k).set (i * 7 + k) (I (mvT h (pS h l i) (pS h l k)))).set (49 + i * 7 + k) (AV.bool (litL h (pS h l i) (pS h l k)).isNone) = pA h l i (k + 1) := by
  have e : ∀ a b, ¬ (a = i ∧ b = k) → pD l i (k + 1) a b = pD l i k a b := fun a b hn => propext (by unfold pD; omega)
  have e1 : pD l i (k + 1) i k := by unfold pD; omega
  have f1 : pF h l i (k + 1) i k = mvT h (pS h l i) (pS h l k) := by unfold pF; rw [if_pos e1]
  have g1 : pG h l i (k + 1) i k = (litL h (pS h l i) (pS h l k)).isNone := by unfold pG; rw [if_pos e1]
  unfold pA
  rw [← f1, ← g1, pC_set1 _ (pF h l i (k + 1)) _ hi hk, pC_set2 _ _ (pG h l i (k + 1)) hi hk]
  · intro a b
    by_cases hn : a = i ∧ b = k
    · rw [if_pos hn, hn.1, hn.2]
    · rw [if_neg hn]; unfold pG; simp only [e a b hn]
  · intro a b
    by_cases hn : a = i ∧ b = k
    · rw [if_pos hn, hn.1, hn.2]
    · rw [if_neg hn]; unfold pF; simp only [e a b hn]
def pV (h : Hd) (l : List Dr) : AV := .agg (pA h l (l.length + 1) 0)
def S111a (h : Hd) (l : List Dr) (i : Nat) : AState := ⟨[.any, .vs (l.map eDr), .ptr 0 7 0 0, .any, .ptr 1 98 0 0, .ptr 2 98 0 0, I i, .any, .any, .any, .any, .any, .any, .any, .any, .any, .any, .any, .any, .any, .any, .any, .any, .any, .any, .any, .any, .any, .any, .any, .any, .any, .any, .any, .any, .any, .any, .any, .any, .any, .any, .any, .any, .any, .any, .any, .any, .any, .any, .any, .any, .any, .any, .any, .any, .any], [⟨2, 2, .rows 155 98 [.agg (pA h l i 0)]⟩, ⟨1, 1, .rows 155 98 [.agg (pA h l 0 0)]⟩, ⟨0, 0, .rows 42 7 [eHd h]⟩], 3⟩
def S111b (h : Hd) (l : List Dr) (i : Nat) (d : Dr) (k : Nat) : AState := ⟨[.any, .vs (l.map eDr), .ptr 0 7 0 0, .any, .ptr 1 98 0 0, .ptr 2 98 0 0, I i, .ptr 3 2 0 0, I k, .any, .any, .any, .any, .any, .any, .any, .any, .any, .any, .any, .any, .any, .any, .any, .any, .any, .any, .any, .any, .any, .any, .any, .any, .any, .any, .any, .any, .any, .any, .any, .any, .any, .any, .any, .any, .any, .any, .any, .any, .any, .any, .any, .any, .any, .any, .any], [⟨3, 3, .rows 37 2 [eDr d]⟩, ⟨2, 2, .rows 155 98 [.agg (pA h l i k)]⟩, ⟨1, 1, .rows 155 98 [.agg (pA h l 0 0)]⟩, ⟨0, 0, .rows 42 7 [eHd h]⟩], 4⟩
theorem free_pA (φ : Nat → Fate) (h : Hd) (l : List Dr) (i k : Nat) : subs φ (pA h l i k) = pA h l i k := free_pC φ _ _
theorem pA_len (h : Hd) (l : List Dr) (i k : Nat) : (pA h l i k).length = 98 := pC_len _ _
theorem pA_sc (h : Hd) (l : List Dr) (i k : Nat) : (pA h l i k).all AV.sc = true := by
  simp only [pA, pC, List.all_append, List.all_map, Bool.and_eq_true, List.all_eq_true]
  exact ⟨fun _ _ => rfl, fun _ _ => rfl⟩
theorem k_rpaths (h : Hd) (l : List Dr) (hc : odR ⟨h, l⟩) : FOk P 111 [eHd h, .vs (l.map eDr)] (pV h l) := by
  obtain ⟨⟨hh, h6⟩, hds⟩ := hc
  simp only at hh h6 hds
  have hz := hdE_zero hh
  have hmb : ∀ a b, drR a → drR b → mvB h a b := fun a b ha hb => ⟨⟨hz.1.1.2.1, hz.1.1.2.2⟩, ha, hb⟩
  have hlb : ∀ a b, drR a → drR b → liB h a b := fun a b ha hb => ⟨⟨by have := hz.1.2; omega, fun s hs => (hz.2.1 s hs).1⟩, ha, hb⟩
  have hps : ∀ a, drR (pS h l a) := fun a => by
    unfold pS
    rcases Nat.lt_or_ge a l.length with ha | ha
    · rw [List.getElem?_eq_getElem ha]; exact hds _ (by simp)
    · rw [List.getElem?_eq_none ha]; exact hz.1.1.1
  refine c111.fok (by simp only [free_Hs, subs, sub1, free_Se, free_Dr]) (Cor.run (addC_good g_rIsDark (addC_good g_rMove (noC_good _))) (noHx_good _) hm ?_)
  have zl := pC_zero.trans (pA_zero h l)
  simp only [a111, zl]
  clear zl
  simp +contextual -implicitDefEqProofs (maxSteps := 2000000) only [bg_eq, pA_len, free_pA, List.length_map, ruB, rh_no, Int.reduceLT, Int.reduceLE, Int.reduceAdd, Int.reduceSub, Int.reduceMul, Int.reduceNeg, Int.reduceToNat, Int.reduceEq, Int.reduceNe, Int.reduceTDiv, Int.reduceTMod, implies_true, putL, appN, appX, appC, Eng.Fi, reduceCtorEq, exists_eq_left', exists_eq_left, if_true, if_false, List.replicate, Nat.reduceAdd, Nat.reduceSub, Nat.reduceMul, Nat.reduceLeDiff, Nat.reduceLT, Nat.reduceEqDiff]
  refine Cor.lp (addC_good g_rIsDark (addC_good g_rMove (noC_good _))) (noHx_good _) hm (S111a h l) (fun i => i ≤ l.length + 1) (fun i => l.length + 1 - i) (a := 0) (Nat.zero_le _) (Wkn.to ⟨0, [(0, 0), (1, 1), (2, 2)], [], 3, [1, 2, 4, 5, 6]⟩ rfl rfl (by simp [Wk.st, keepT, memN, Wk.fate, Wk.fate0, assoc, getE, Wk.hp, ABlk.sub, sub1, subs, S111a, free_Se, free_Dr, free_pA])) ?_
  rintro f i hi go
  rcases Nat.lt_or_ge l.length i with hlt | hlt
  · have q1 : decide ((i : Int) ≤ (l.length : Int)) = false := decide_eq_false (by omega)
    obtain rfl : i = l.length + 1 := by omega
    simp +contextual -implicitDefEqProofs (maxSteps := 2000000) only [S111a, q1, pA_len, free_pA, List.length_map, pV, pA_sc, ruB, rh_no, Int.reduceLT, Int.reduceLE, Int.reduceAdd, Int.reduceSub, Int.reduceMul, Int.reduceNeg, Int.reduceToNat, Int.reduceEq, Int.reduceNe, Int.reduceTDiv, Int.reduceTMod, implies_true, putL, appN, appX, appC, Eng.Fi, reduceCtorEq, exists_eq_left', exists_eq_left, if_true, if_false, List.replicate, Nat.reduceAdd, Nat.reduceSub, Nat.reduceMul, Nat.reduceLeDiff, Nat.reduceLT, Nat.reduceEqDiff]
  · have q1 : decide ((i : Int) ≤ (l.length : Int)) = true := decide_eq_true (by omega)
    have q3 : IntKind.wrap .i64 ((i : Int) + 1) = ((i + 1 : Nat) : Int) := suc_w (by omega)
    obtain ⟨d, hd⟩ : ∃ d, pS h l i = d := ⟨_, rfl⟩
    have hdr : drR d := hd ▸ hps i
    by_cases hc : i < l.length
    · have q2 : decide ((i : Int) < (l.length : Int)) = true := lt_t hc
      have q4 : (l.map eDr)[i]? = some (eDr d) := by rw [get_e eDr l hc, ← hd]; unfold pS; rw [List.getElem?_eq_getElem hc]; rfl
      simp +contextual -implicitDefEqProofs (maxSteps := 2000000) only [S111a, q1, q2, q4, pA_len, free_pA, List.length_map, ruB, rh_no, Int.reduceLT, Int.reduceLE, Int.reduceAdd, Int.reduceSub, Int.reduceMul, Int.reduceNeg, Int.reduceToNat, Int.reduceEq, Int.reduceNe, Int.reduceTDiv, Int.reduceTMod, implies_true, putL, appN, appX, appC, Eng.Fi, reduceCtorEq, exists_eq_left', exists_eq_left, if_true, if_false, List.replicate, Nat.reduceAdd, Nat.reduceSub, Nat.reduceMul, Nat.reduceLeDiff, Nat.reduceLT, Nat.reduceEqDiff]
      refine Cor.lp (addC_good g_rIsDark (addC_good g_rMove (noC_good _))) (noHx_good _) hm (S111b h l i d) (fun k => k ≤ l.length) (fun k => l.length - k) (a := 0) (Nat.zero_le _) (Wkn.to ⟨0, [(0, 0), (1, 1), (2, 2), (3, 3)], [], 4, [1, 2, 4, 5, 6, 7, 8]⟩ rfl rfl (by simp [Wk.st, keepT, memN, Wk.fate, Wk.fate0, assoc, getE, Wk.hp, ABlk.sub, sub1, subs, S111b, free_Se, free_Dr, free_pA])) ?_
      rintro f2 k hk go2
      rcases Nat.lt_or_ge k l.length with hlt2 | hlt2
      · have r1 : decide ((k : Int) < (l.length : Int)) = true := lt_t hlt2
        have r4 : (l.map eDr)[k]? = some (eDr (pS h l k)) := by rw [get_e eDr l hlt2]; unfold pS; rw [List.getElem?_eq_getElem hlt2]; rfl
        have r3 : IntKind.wrap .i64 ((k : Int) + 1) = ((k + 1 : Nat) : Int) := suc_w (by omega)
        have ym := x_rMove h (pS h l i) (pS h l k) (by simp only [hmb _ _ (hps i) (hps k)])
        have yd := x_rIsDark h (pS h l i) (pS h l k) (by simp only [hlb _ _ (hps i) (hps k)])
        rw [hd] at ym yd
        have b1 : (i < 7) = True := eq_true (by omega)
        have b2 : (k < 7) = True := eq_true (by omega)
        have b3 : (i * 7 + k < 98) = True := eq_true (by omega)
        have b4 : (49 + i * 7 + k < 98) = True := eq_true (by omega)
        have hs := pA_set h l (i := i) (k := k) (by omega) (by omega) hlt2
        rw [hd] at hs
        simp +contextual -implicitDefEqProofs (maxSteps := 2000000) only [S111b, r1, r3, r4, ym, yd, b1, b2, b3, b4, pA_len, free_pA, List.length_map, List.length_set, Nat.mul_one, hs, ruB, rh_no, Int.reduceLT, Int.reduceLE, Int.reduceAdd, Int.reduceSub, Int.reduceMul, Int.reduceNeg, Int.reduceToNat, Int.reduceEq, Int.reduceNe, Int.reduceTDiv, Int.reduceTMod, implies_true, putL, appN, appX, appC, Eng.Fi, reduceCtorEq, exists_eq_left', exists_eq_left, if_true, if_false, List.replicate, Nat.reduceAdd, Nat.reduceSub, Nat.reduceMul, Nat.reduceLeDiff, Nat.reduceLT, Nat.reduceEqDiff]
        exact go2 _ (k + 1) (by omega) (by omega) (Wkn.to ⟨0, [(0, 0), (1, 1), (2, 2), (3, 3)], [], 4, [1, 2, 4, 5, 6, 7, 8]⟩ rfl rfl (by simp [Wk.st, keepT, memN, Wk.fate, Wk.fate0, assoc, getE, Wk.hp, ABlk.sub, sub1, subs, S111b, free_Se, free_Dr, free_pA]))
      · have r1 : decide ((k : Int) < (l.length : Int)) = false := lt_f hlt2
        obtain rfl : k = l.length := by omega
        have hn := pA_next h l i
        simp +contextual -implicitDefEqProofs (maxSteps := 2000000) only [S111b, r1, q3, pA_len, free_pA, List.length_map, hn, ruB, rh_no, Int.reduceLT, Int.reduceLE, Int.reduceAdd, Int.reduceSub, Int.reduceMul, Int.reduceNeg, Int.reduceToNat, Int.reduceEq, Int.reduceNe, Int.reduceTDiv, Int.reduceTMod, implies_true, putL, appN, appX, appC, Eng.Fi, reduceCtorEq, exists_eq_left', exists_eq_left, if_true, if_false, List.replicate, Nat.reduceAdd, Nat.reduceSub, Nat.reduceMul, Nat.reduceLeDiff, Nat.reduceLT, Nat.reduceEqDiff]
        exact go _ (i + 1) (by omega) (by omega) (Wkn.to ⟨0, [(0, 0), (1, 1), (2, 2)], [], 3, [1, 2, 4, 5, 6]⟩ rfl rfl (by simp [Wk.st, keepT, memN, Wk.fate, Wk.fate0, assoc, getE, Wk.hp, ABlk.sub, sub1, subs, S111a, free_Se, free_Dr, free_pA]))
    · have q2 : decide ((i : Int) < (l.length : Int)) = false := lt_f (by omega)
      have hhd : h.home = d := by rw [← hd]; unfold pS; rw [List.getElem?_eq_none (by omega)]; rfl
      simp +contextual -implicitDefEqProofs (maxSteps := 2000000) only [S111a, q1, q2, hhd, pA_len, free_pA, List.length_map, ruB, rh_no, Int.reduceLT, Int.reduceLE, Int.reduceAdd, Int.reduceSub, Int.reduceMul, Int.reduceNeg, Int.reduceToNat, Int.reduceEq, Int.reduceNe, Int.reduceTDiv, Int.reduceTMod, implies_true, putL, appN, appX, appC, Eng.Fi, reduceCtorEq, exists_eq_left', exists_eq_left, if_true, if_false, List.replicate, Nat.reduceAdd, Nat.reduceSub, Nat.reduceMul, Nat.reduceLeDiff, Nat.reduceLT, Nat.reduceEqDiff]
      refine Cor.lp (addC_good g_rIsDark (addC_good g_rMove (noC_good _))) (noHx_good _) hm (S111b h l i d) (fun k => k ≤ l.length) (fun k => l.length - k) (a := 0) (Nat.zero_le _) (Wkn.to ⟨0, [(0, 0), (1, 1), (2, 2), (3, 3)], [], 4, [1, 2, 4, 5, 6, 7, 8]⟩ rfl rfl (by simp [Wk.st, keepT, memN, Wk.fate, Wk.fate0, assoc, getE, Wk.hp, ABlk.sub, sub1, subs, S111b, free_Se, free_Dr, free_pA])) ?_
      rintro f2 k hk go2
      rcases Nat.lt_or_ge k l.length with hlt2 | hlt2
      · have r1 : decide ((k : Int) < (l.length : Int)) = true := lt_t hlt2
        have r4 : (l.map eDr)[k]? = some (eDr (pS h l k)) := by rw [get_e eDr l hlt2]; unfold pS; rw [List.getElem?_eq_getElem hlt2]; rfl
        have r3 : IntKind.wrap .i64 ((k : Int) + 1) = ((k + 1 : Nat) : Int) := suc_w (by omega)
        have ym := x_rMove h (pS h l i) (pS h l k) (by simp only [hmb _ _ (hps i) (hps k)])
        have yd := x_rIsDark h (pS h l i) (pS h l k) (by simp only [hlb _ _ (hps i) (hps k)])
        rw [hd] at ym yd
        have b1 : (i < 7) = True := eq_true (by omega)
        have b2 : (k < 7) = True := eq_true (by omega)
        have b3 : (i * 7 + k < 98) = True := eq_true (by omega)
        have b4 : (49 + i * 7 + k < 98) = True := eq_true (by omega)
        have hs := pA_set h l (i := i) (k := k) (by omega) (by omega) hlt2
        rw [hd] at hs
        simp +contextual -implicitDefEqProofs (maxSteps := 2000000) only [S111b, r1, r3, r4, ym, yd, b1, b2, b3, b4, pA_len, free_pA, List.length_map, List.length_set, Nat.mul_one, hs, ruB, rh_no, Int.reduceLT, Int.reduceLE, Int.reduceAdd, Int.reduceSub, Int.reduceMul, Int.reduceNeg, Int.reduceToNat, Int.reduceEq, Int.reduceNe, Int.reduceTDiv, Int.reduceTMod, implies_true, putL, appN, appX, appC, Eng.Fi, reduceCtorEq, exists_eq_left', exists_eq_left, if_true, if_false, List.replicate, Nat.reduceAdd, Nat.reduceSub, Nat.reduceMul, Nat.reduceLeDiff, Nat.reduceLT, Nat.reduceEqDiff]
        exact go2 _ (k + 1) (by omega) (by omega) (Wkn.to ⟨0, [(0, 0), (1, 1), (2, 2), (3, 3)], [], 4, [1, 2, 4, 5, 6, 7, 8]⟩ rfl rfl (by simp [Wk.st, keepT, memN, Wk.fate, Wk.fate0, assoc, getE, Wk.hp, ABlk.sub, sub1, subs, S111b, free_Se, free_Dr, free_pA]))
      · have r1 : decide ((k : Int) < (l.length : Int)) = false := lt_f hlt2
        obtain rfl : k = l.length := by omega
        have hn := pA_next h l i
        simp +contextual -implicitDefEqProofs (maxSteps := 2000000) only [S111b, r1, q3, pA_len, free_pA, List.length_map, hn, ruB, rh_no, Int.reduceLT, Int.reduceLE, Int.reduceAdd, Int.reduceSub, Int.reduceMul, Int.reduceNeg, Int.reduceToNat, Int.reduceEq, Int.reduceNe, Int.reduceTDiv, Int.reduceTMod, implies_true, putL, appN, appX, appC, Eng.Fi, reduceCtorEq, exists_eq_left', exists_eq_left, if_true, if_false, List.replicate, Nat.reduceAdd, Nat.reduceSub, Nat.reduceMul, Nat.reduceLeDiff, Nat.reduceLT, Nat.reduceEqDiff]
        exact go _ (i + 1) (by omega) (by omega) (Wkn.to ⟨0, [(0, 0), (1, 1), (2, 2)], [], 3, [1, 2, 4, 5, 6]⟩ rfl rfl (by simp [Wk.st, keepT, memN, Wk.fate, Wk.fate0, assoc, getE, Wk.hp, ABlk.sub, sub1, subs, S111a, free_Se, free_Dr, free_pA]))
instance (o : Od) : Decidable (odR o) := by unfold odR; infer_instance
def kQ (h : Hd) (l : List Dr) : Prop := odR ⟨h, l⟩
instance (h : Hd) (l : List Dr) : Decidable (kQ h l) := by unfold kQ; infer_instance
def cf_rpaths : List AV → Option AV
  | [h_v, .vs l_v] => onH h_v fun h => onL dDr l_v fun l => if kQ h l then some (pV h l) else none
  | _ => none
theorem g_rpaths : Fn P 111 cf_rpaths := fun args v hh => by
  unfold cf_rpaths at hh; split at hh
  · obtain ⟨h, rfl, hh1⟩ := onH_inv hh
    obtain ⟨l, rfl, hh2⟩ := onL_inv dDr_inv hh1
    split at hh2
    · rename_i hc; have hk := Option.some.inj hh2; subst hk; exact k_rpaths _ _ hc
    · cases hh2
  · cases hh
theorem x_rpaths (h : Hd) (l : List Dr) (hc : (kQ h l) = True) : cf_rpaths [eHd h, .vs (l.map eDr)] = some (pV h l) := by
  simp only [cf_rpaths, onH_e, onL_map dDr_e]
  exact if_pos (by rw [hc]; trivial)
end Sc
