import Derived.Test.YtabkbhpeeefmgaaEngS9
import Derived.Test.YtabkbhpeeefmgaaW19
open Go Go.Proofs Eng
set_option maxRecDepth 100000
set_option linter.unusedSimpArgs false
set_option linter.unusedVariables false

namespace Wa
/-- all orders that begin with p, f longer -/
def permG (N : Nat) : Nat → List Int → List (List Int)
  | 0, p => [p]
  | f + 1, p => (List.range N).flatMap fun (k : Nat) => if ((k : Nat) : Int) ∈ p then [] else permG N f (p ++ [((k : Nat) : Int)])
def permO (N f : Nat) (p : List Int) (k : Nat) : List (List Int) := if ((k : Nat) : Int) ∈ p then [] else permG N f (p ++ [((k : Nat) : Int)])
def permD (N f : Nat) (p : List Int) (k : Nat) : List (List Int) := ((List.range N).drop k).flatMap (permO N f p)
theorem permD_0 (N f : Nat) (p : List Int) : permG N (f + 1) p = permD N f p 0 := rfl
theorem permD_c {N f k : Nat} {p : List Int} (h : k < N) : permD N f p k = permO N f p k ++ permD N f p (k + 1) := by
  unfold permD
  rw [List.drop_eq_getElem_cons (by simpa using h), List.flatMap_cons, List.getElem_range]
theorem permD_n {N f k : Nat} {p : List Int} (h : N ≤ k) : permD N f p k = [] := by
  unfold permD
  rw [List.drop_eq_nil_of_le (by simpa using h)]; rfl
theorem perm_mem {N : Nat} : ∀ (f : Nat) (p : List Int), (∀ k ∈ p, 0 ≤ k ∧ k < N) → p.length + f = N → ∀ q ∈ permG N f p, q.length = N ∧ ∀ k ∈ q, 0 ≤ k ∧ k < N
  | 0, p, h, hl, q, hq => by
    rw [permG, List.mem_singleton] at hq
    subst hq
    exact ⟨by omega, h⟩
  | f + 1, p, h, hl, q, hq => by
    rw [permG] at hq
    obtain ⟨k, hk, hq⟩ := List.mem_flatMap.1 hq
    split at hq
    · simp at hq
    · refine perm_mem f (p ++ [(k : Int)]) (fun z hz => ?_) (by simp only [List.length_append, List.length_cons, List.length_nil]; omega) q hq
      rcases List.mem_append.1 hz with hz | hz
      · exact h z hz
      · rw [List.mem_singleton.1 hz]
        have := List.mem_range.1 hk
        omega
theorem perm_all {N : Nat} : ∀ (f : Nat) (p r : List Int), r.length = f → (∀ i ∈ r, 0 ≤ i ∧ i < N) → (∀ i ∈ r, ¬ i ∈ p) → r.Nodup → p ++ r ∈ permG N f p
  | 0, p, r, h, _, _, _ => by
    rw [List.eq_nil_of_length_eq_zero h, List.append_nil, permG]; simp
  | f + 1, p, [], h, _, _, _ => by simp at h
  | f + 1, p, i :: r, h, h1, h2, h3 => by
    rw [permG]
    have hi := h1 i (by simp)
    refine List.mem_flatMap.2 ⟨i.toNat, List.mem_range.2 (by omega), ?_⟩
    have e : ((i.toNat : Nat) : Int) = i := Int.toNat_of_nonneg hi.1
    rw [e, if_neg (h2 i (by simp))]
    have hn := List.nodup_cons.1 h3
    have := perm_all (N := N) f (p ++ [i]) r (by simpa using h) (fun j hj => h1 j (by simp [hj])) (fun j hj hm => by
      rcases List.mem_append.1 hm with hm | hm
      · exact h2 j (by simp [hj]) hm
      · rw [List.mem_singleton.1 hm] at hj; exact hn.1 hj) hn.2
    rwa [List.append_assoc] at this
def cell (m : List L) (i : Nat) (k : Int) : Int := ((m[i]?).bind fun r => r[k.toNat]?).getD 0
def cstG (m : List L) : Nat → L → Int
  | _, [] => 0
  | i, k :: p => cell m i k + cstG m (i + 1) p
def cst (m : List L) (p : L) : Int := cstG m 0 p
theorem cstG_snoc (m : List L) (k : Int) : ∀ (p : L) (i : Nat), cstG m i (p ++ [k]) = cstG m i p + cell m (i + p.length) k
  | [], i => by simp [cstG]
  | x :: p, i => by
    rw [List.cons_append, cstG, cstG, cstG_snoc m k p (i + 1), List.length_cons, show i + 1 + p.length = i + (p.length + 1) by omega]
    omega
theorem cst_snoc (m : List L) (p : L) (k : Int) : cst m (p ++ [k]) = cst m p + cell m p.length k := by
  unfold cst
  rw [cstG_snoc, Nat.zero_add]
theorem cell_bd {m : List L} (h : maR m) (i : Nat) (k : Int) : 0 ≤ cell m i k ∧ cell m i k ≤ 10000000 := by
  unfold cell
  cases hi : m[i]? with
  | none => simp
  | some r =>
    simp only [Option.bind_some]
    cases hk : r[k.toNat]? with
    | none => simp
    | some x => exact (h.r r (List.mem_of_getElem? hi)).2 x (List.mem_of_getElem? hk)
theorem cstG_bd {m : List L} (h : maR m) : ∀ (p : L) (i : Nat), 0 ≤ cstG m i p ∧ cstG m i p ≤ 10000000 * p.length
  | [], i => by simp [cstG]
  | k :: p, i => by
    have h1 := cell_bd h i k
    have h2 := cstG_bd h p (i + 1)
    rw [cstG, List.length_cons]
    omega
theorem cst_bd {m : List L} (h : maR m) (p : L) : 0 ≤ cst m p ∧ cst m p ≤ 10000000 * p.length := cstG_bd h p 0
theorem cell_get {m : List L} {i k : Nat} (hi : i < m.length) (hk : k < m[i].length) : cell m i (k : Int) = m[i][k] := by
  unfold cell
  rw [List.getElem?_eq_getElem hi]
  simp only [Option.bind_some, Int.toNat_natCast, List.getElem?_eq_getElem hk, Option.getD_some]
abbrev GS := Option (List L × Int × Nat × Nat)
abbrev GF (m : List L) : AV := .fn 138 [] [.vp [.vs (m.map eL)] 0 0, .ptr 0 1 0 0, .ptr 1 1 0 0, .ptr 2 1 0 0]
def Jg (m : List L) : GS → List HEnt
  | none => [⟨2, 2, .rows 197 1 [GF m]⟩, ⟨1, 1, .rows 3 1 [I 0]⟩, ⟨0, 0, .rows 66 1 [.nilslice]⟩]
  | some (l, c, id, g) => [⟨id, g, .rows 38 1 (l.map eL)⟩, ⟨2, 2, .rows 197 1 [GF m]⟩, ⟨1, 1, .rows 3 1 [I c]⟩, ⟨0, 0, .rows 66 1 [.slice id 1 0 l.length]⟩]
theorem Jg_inj (m : List L) : ∀ (x y : GS), Jg m x = Jg m y → x = y
  | none, none, _ => rfl
  | none, some (l, c, id, g), h => by simp [Jg] at h
  | some (l, c, id, g), none, h => by simp [Jg] at h
  | some (l, c, id, g), some (l', c', id', g'), h => by
    simp only [Jg, List.cons.injEq, HEnt.mk.injEq, ABlk.rows.injEq, AV.int.injEq, AV.slice.injEq, true_and, and_true] at h
    obtain ⟨⟨h1, h2, h3⟩, h4, h5⟩ := h
    rw [h1, h2, h4, map_inj eL_inj _ _ h3]
def gok (N : Nat) : GS → Prop
  | none => 3 ≤ N
  | some (l, c, id, g) => 3 ≤ N ∧ (3 ≤ id ∧ id < N) ∧ (3 ≤ g ∧ g < N) ∧ 0 < l.length ∧ l.length ≤ 100000
def stepG (m : List L) : GS × Nat → L → GS × Nat
  | (none, N), p => (some ([p], cst m p, N, N), N + 1)
  | (some (l, c, id, g), N), p => if cst m p < c then (some ([p], cst m p, N, N), N + 1) else if cst m p = c then (some (l ++ [p], c, N, g), N + 1) else (some (l, c, id, g), N)
def gF (m : List L) (q : GS × Nat) (l : List L) : GS × Nat := l.foldl (stepG m) q
theorem gF_app (m : List L) (q : GS × Nat) (a b : List L) : gF m q (a ++ b) = gF m (gF m q a) b := List.foldl_append
/-- how many there may be -/
def gle (m : List L) (k : Nat) : GS → Prop
  | none => True
  | some (l, _) => l.length ≤ k
theorem gF_ok {m : List L} : ∀ (l : List L) (q : GS × Nat) (k : Nat), gok q.2 q.1 → gle m k q.1 → k + l.length ≤ 100000 → gok (gF m q l).2 (gF m q l).1 ∧ gle m (k + l.length) (gF m q l).1 ∧ q.2 ≤ (gF m q l).2
  | [], q, k, h1, h2, h3 => ⟨h1, h2, Nat.le_refl _⟩
  | p :: l, (x, N), k, h1, h2, h3 => by
    simp only [List.length_cons] at h3
    have key : gok (stepG m (x, N) p).2 (stepG m (x, N) p).1 ∧ gle m (k + 1) (stepG m (x, N) p).1 ∧ N ≤ (stepG m (x, N) p).2 := by
      cases x with
      | none =>
        have h1 : 3 ≤ N := h1
        refine ⟨?_, ?_, ?_⟩
        · show 3 ≤ N + 1 ∧ (3 ≤ N ∧ N < N + 1) ∧ (3 ≤ N ∧ N < N + 1) ∧ 0 < 1 ∧ 1 ≤ 100000
          omega
        · show 1 ≤ k + 1
          omega
        · show N ≤ N + 1
          omega
      | some y =>
        obtain ⟨l', c, id, g⟩ := y
        have h1 : 3 ≤ N ∧ (3 ≤ id ∧ id < N) ∧ (3 ≤ g ∧ g < N) ∧ 0 < l'.length ∧ l'.length ≤ 100000 := h1
        have h2 : l'.length ≤ k := h2
        rw [stepG]
        split
        · refine ⟨?_, ?_, by simp⟩
          · show 3 ≤ N + 1 ∧ (3 ≤ N ∧ N < N + 1) ∧ (3 ≤ N ∧ N < N + 1) ∧ 0 < 1 ∧ 1 ≤ 100000
            omega
          · show 1 ≤ k + 1
            omega
        · split
          · refine ⟨?_, ?_, by simp⟩
            · show 3 ≤ N + 1 ∧ (3 ≤ N ∧ N < N + 1) ∧ (3 ≤ g ∧ g < N + 1) ∧ 0 < (l' ++ [p]).length ∧ (l' ++ [p]).length ≤ 100000
              simp only [List.length_append, List.length_cons, List.length_nil]
              omega
            · show (l' ++ [p]).length ≤ k + 1
              simp only [List.length_append, List.length_cons, List.length_nil]
              omega
          · refine ⟨h1, ?_, Nat.le_refl _⟩
            show l'.length ≤ k + 1
            omega
    obtain ⟨a1, a2, a3⟩ := key
    obtain ⟨b1, b2, b3⟩ := gF_ok l (stepG m (x, N) p) (k + 1) a1 a2 (by omega)
    refine ⟨b1, ?_, Nat.le_trans a3 b3⟩
    have e : k + 1 + l.length = k + (p :: l).length := by simp only [List.length_cons]; omega
    rw [← e]; exact b2
theorem Low_g {m : List L} {x : GS} {N : Nat} (h : gok N x) : Low N (Jg m x) := by
  have hm : ∀ φ, subs φ (m.map eL) = m.map eL := fun φ => free_L φ m
  intro e he
  cases x with
  | none =>
    have h : 3 ≤ N := h
    simp only [Jg, List.mem_cons, List.not_mem_nil, or_false] at he
    rcases he with rfl | rfl | rfl
    · exact ⟨⟨by simp only; omega, by simp only; omega⟩, fun φ hφ => by simp only [ABlk.sub, subs, sub1, hm, hφ 0 (by omega), hφ 1 (by omega), hφ 2 (by omega)]⟩
    · exact ⟨⟨by simp only; omega, by simp only; omega⟩, fun φ hφ => rfl⟩
    · exact ⟨⟨by simp only; omega, by simp only; omega⟩, fun φ hφ => rfl⟩
  | some y =>
    obtain ⟨l, c, id, g⟩ := y
    have h : 3 ≤ N ∧ (3 ≤ id ∧ id < N) ∧ (3 ≤ g ∧ g < N) ∧ 0 < l.length ∧ l.length ≤ 100000 := h
    simp only [Jg, List.mem_cons, List.not_mem_nil, or_false] at he
    rcases he with rfl | rfl | rfl | rfl
    · exact ⟨⟨by simp only; omega, by simp only; omega⟩, fun φ hφ => by simp only [ABlk.sub, free_L]⟩
    · exact ⟨⟨by simp only; omega, by simp only; omega⟩, fun φ hφ => by simp only [ABlk.sub, subs, sub1, hm, hφ 0 (by omega), hφ 1 (by omega), hφ 2 (by omega)]⟩
    · exact ⟨⟨by simp only; omega, by simp only; omega⟩, fun φ hφ => rfl⟩
    · exact ⟨⟨by simp only; omega, by simp only; omega⟩, fun φ hφ => by simp only [ABlk.sub, subs, sub1, hφ id (by omega)]⟩
end Wa
