import Derived.Test.YtjfhhaaogcgkpaaEngS9
import Derived.Test.YtjfhhaaogcgkpaaC32
open Go Go.Proofs Eng
set_option maxRecDepth 100000
set_option linter.unusedSimpArgs false
set_option linter.unusedVariables false

namespace Sh

/-! the pairs within a length, by their gates -/
def PairAt (l : List Gt) (d : Int) (i k : Nat) (a b : Gt) : Prop := i < k ∧ l[i]? = some a ∧ l[k]? = some b ∧ b.at' - a.at' ≤ d
theorem filK_mem {d : Int} {gi : Gt} {i : Nat} : ∀ {r : List Gt} {k : Nat} {p : Nat × Nat}, p ∈ filK d gi i k r ↔ p.1 = i ∧ k ≤ p.2 ∧ ∃ g, r[p.2 - k]? = some g ∧ g.at' - gi.at' ≤ d
  | [], k, p => by simp [filK]
  | g :: r, k, p => by
    have ih := filK_mem (d := d) (gi := gi) (i := i) (r := r) (k := k + 1) (p := p)
    have key : (p.1 = i ∧ k ≤ p.2 ∧ ∃ x, (g :: r)[p.2 - k]? = some x ∧ x.at' - gi.at' ≤ d) ↔ (p = (i, k) ∧ g.at' - gi.at' ≤ d) ∨ p ∈ filK d gi i (k + 1) r := by
      rw [ih]
      constructor
      · rintro ⟨h1, h2, x, h3, h4⟩
        rcases Nat.eq_or_lt_of_le h2 with h5 | h5
        · subst h5
          simp only [Nat.sub_self, List.getElem?_cons_zero, Option.some.injEq] at h3
          subst h3
          exact .inl ⟨Prod.ext h1 rfl, h4⟩
        · refine .inr ⟨h1, h5, x, ?_, h4⟩
          rw [show p.2 - k = (p.2 - (k + 1)) + 1 by omega, List.getElem?_cons_succ] at h3
          exact h3
      · rintro (⟨rfl, h⟩ | ⟨h1, h2, x, h3, h4⟩)
        · exact ⟨rfl, Nat.le_refl _, g, by simp, h⟩
        · refine ⟨h1, by omega, x, ?_, h4⟩
          rw [show p.2 - k = (p.2 - (k + 1)) + 1 by omega, List.getElem?_cons_succ]
          exact h3
    rw [key, filK]
    split
    · rename_i hc
      simp [hc]
    · rename_i hc
      simp [hc]
theorem pairsF_mem {d : Int} : ∀ {r : List Gt} {i : Nat} {p : Nat × Nat}, p ∈ pairsF d i r ↔ i ≤ p.1 ∧ p.1 < p.2 ∧ ∃ a b, r[p.1 - i]? = some a ∧ r[p.2 - i]? = some b ∧ b.at' - a.at' ≤ d
  | [], i, p => by simp [pairsF]
  | g :: r, i, p => by
    have ih := pairsF_mem (d := d) (r := r) (i := i + 1) (p := p)
    rw [pairsF, List.mem_append, filK_mem, ih]
    constructor
    · rintro (⟨h1, h2, x, h3, h4⟩ | ⟨h1, h2, a, b, h3, h4, h5⟩)
      · refine ⟨by omega, by omega, g, x, by simp [h1], ?_, h4⟩
        rw [show p.2 - i = (p.2 - (i + 1)) + 1 by omega, List.getElem?_cons_succ]
        exact h3
      · refine ⟨by omega, h2, a, b, ?_, ?_, h5⟩
        · rw [show p.1 - i = (p.1 - (i + 1)) + 1 by omega, List.getElem?_cons_succ]; exact h3
        · rw [show p.2 - i = (p.2 - (i + 1)) + 1 by omega, List.getElem?_cons_succ]; exact h4
    · rintro ⟨h1, h2, a, b, h3, h4, h5⟩
      rw [show p.2 - i = (p.2 - (i + 1)) + 1 by omega, List.getElem?_cons_succ] at h4
      rcases Nat.eq_or_lt_of_le h1 with h6 | h6
      · subst h6
        simp only [Nat.sub_self, List.getElem?_cons_zero, Option.some.injEq] at h3
        subst h3
        exact .inl ⟨rfl, by omega, b, h4, h5⟩
      · rw [show p.1 - i = (p.1 - (i + 1)) + 1 by omega, List.getElem?_cons_succ] at h3
        exact .inr ⟨by omega, h2, a, b, h3, h4, h5⟩
theorem pairs_at {l : List Gt} {d : Int} {last : Int} (h : As last l) {p : Nat × Nat} : p ∈ pairsL d 0 l ↔ ∃ a b, PairAt l d p.1 p.2 a b := by
  rw [← pairsF_eq h, pairsF_mem]
  simp only [Nat.sub_zero, Nat.zero_le, true_and, PairAt]
  exact ⟨fun ⟨h1, a, b, h2⟩ => ⟨a, b, h1, h2⟩, fun ⟨a, b, h1, h2⟩ => ⟨h1, a, b, h2⟩⟩

/-! the greatest of some changes -/
theorem stC_at {chg : Gt → Gt → Int × Int} {l : List Gt} {c : Ch} {p : Nat × Nat} {a b : Gt} (h1 : l[p.1]? = some a) (h2 : l[p.2]? = some b) : stC chg l c p = if c.to = 0 ∨ c.lo < (chg a b).1 then ⟨p.1, p.2, (chg a b).1, (chg a b).2⟩ else c := by
  simp only [stC, h1, h2]
theorem best_fold {chg : Gt → Gt → Int × Int} {l : List Gt} {d : Int} : ∀ (L : List (Nat × Nat)) (c : Ch), (∀ p ∈ L, ∃ a b, PairAt l d p.1 p.2 a b) →
    ((L.foldl (stC chg l) c = c ∧ (c.to = 0 → L = [])) ∨ ∃ p ∈ L, ∃ a b, PairAt l d p.1 p.2 a b ∧ L.foldl (stC chg l) c = ⟨p.1, p.2, (chg a b).1, (chg a b).2⟩) ∧
    (∀ p ∈ L, ∀ a b, PairAt l d p.1 p.2 a b → (chg a b).1 ≤ (L.foldl (stC chg l) c).lo) ∧ (¬ c.to = 0 → c.lo ≤ (L.foldl (stC chg l) c).lo)
  | [], c, h => ⟨.inl ⟨rfl, fun _ => rfl⟩, by simp, fun _ => Int.le_refl _⟩
  | p :: L, c, h => by
    obtain ⟨a, b, hp⟩ := h p (by simp)
    have e := stC_at (chg := chg) (c := c) hp.2.1 hp.2.2.1
    obtain ⟨h1, h2, h3⟩ := best_fold L (stC chg l c p) fun q hq => h q (by simp [hq])
    rw [List.foldl_cons]
    have hto : (0 : Int) < (p.2 : Int) := by have := hp.1; omega
    generalize L.foldl (stC chg l) (stC chg l c p) = r at *
    rw [e] at h1 h3
    by_cases hc : c.to = 0 ∨ c.lo < (chg a b).1
    · rw [if_pos hc] at h1 h3
      have h3' : (chg a b).1 ≤ r.lo := h3 (by simp only; omega)
      clear h3
      refine ⟨.inr ?_, fun q hq a' b' hq' => ?_, fun hz => ?_⟩
      · rcases h1 with ⟨h1, _⟩ | ⟨q, hq, h1⟩
        · exact ⟨p, by simp, a, b, hp, h1⟩
        · exact ⟨q, by simp [hq], h1⟩
      · rcases List.mem_cons.1 hq with rfl | hq
        · have ea : a' = a := by have := hq'.2.1; rw [hp.2.1] at this; cases this; rfl
          have eb : b' = b := by have := hq'.2.2.1; rw [hp.2.2.1] at this; cases this; rfl
          rw [ea, eb]; exact h3'
        · exact h2 q hq a' b' hq'
      · rcases hc with hc | hc
        · exact absurd hc hz
        · exact Int.le_trans (Int.le_of_lt hc) h3'
    · rw [if_neg hc] at h1 h3
      have hcz : ¬ c.to = 0 := fun x => hc (.inl x)
      have hlo : (chg a b).1 ≤ c.lo := Int.not_lt.1 fun x => hc (.inr x)
      have h3' := h3 hcz
      clear h3
      refine ⟨?_, fun q hq a' b' hq' => ?_, fun _ => h3'⟩
      · rcases h1 with ⟨h1, _⟩ | ⟨q, hq, h1⟩
        · exact .inl ⟨h1, fun x => absurd x hcz⟩
        · exact .inr ⟨q, by simp [hq], h1⟩
      · rcases List.mem_cons.1 hq with rfl | hq
        · have ea : a' = a := by have := hq'.2.1; rw [hp.2.1] at this; cases this; rfl
          have eb : b' = b := by have := hq'.2.2.1; rw [hp.2.2.1] at this; cases this; rfl
          rw [ea, eb]; omega
        · exact h2 q hq a' b' hq'
/-- c is the strongest change -/
def Best (chg : Gt → Gt → Int × Int) (l : List Gt) (d : Int) (c : Ch) : Prop :=
  ∃ (i k : Nat) (a b : Gt), PairAt l d i k a b ∧ c = ⟨i, k, (chg a b).1, (chg a b).2⟩ ∧ ∀ i' k' a' b', PairAt l d i' k' a' b' → (chg a' b').1 ≤ c.lo
theorem strL_best {chg : Gt → Gt → Int × Int} {l : List Gt} {d : Int} (h0 : lenE l d = 0) : (pairsL d 0 l = [] ∧ strL chg l d = (⟨0, 0, 0, 0⟩, 12)) ∨ (pairsL d 0 l ≠ [] ∧ ∃ c, strL chg l d = (c, 0) ∧ Best chg l d c) := by
  have hA := chkP_As (lenE_zero h0).1
  simp only [strL, h0, if_true]
  by_cases hp : pairsL d 0 l = []
  · left; rw [hp]; exact ⟨rfl, rfl⟩
  · right
    obtain ⟨h1, h2, _⟩ := best_fold (chg := chg) (l := l) (d := d) (pairsL d 0 l) ⟨0, 0, 0, 0⟩ fun p h => (pairs_at hA).1 h
    rcases h1 with ⟨_, h1⟩ | ⟨p, hpm, a, b, hab, h1⟩
    · exact absurd (h1 rfl) hp
    · refine ⟨hp, _, ?_, p.1, p.2, a, b, hab, h1, fun i' k' a' b' h => h2 (i', k') ((pairs_at hA).2 ⟨a', b', h⟩) a' b' h⟩
      rw [h1]
      have : (0 : Int) < (p.2 : Int) := by have := hab.1; omega
      show (_, unl (0 < (p.2 : Int)) 12) = _
      rw [unl_t _ this]
theorem max_fold : ∀ (L : List Int) (a : Int), a ≤ L.foldl max a ∧ (∀ x ∈ L, x ≤ L.foldl max a) ∧ (L.foldl max a = a ∨ L.foldl max a ∈ L)
  | [], a => ⟨Int.le_refl _, by simp, .inl rfl⟩
  | x :: L, a => by
    obtain ⟨h1, h2, h3⟩ := max_fold L (max a x)
    rw [List.foldl_cons]
    refine ⟨by omega, fun y hy => ?_, ?_⟩
    · rcases List.mem_cons.1 hy with rfl | hy
      · omega
      · exact h2 y hy
    · rcases h3 with h3 | h3
      · rw [h3]
        rcases Int.le_total a x with h | h
        · right; rw [Int.max_eq_right h]; simp
        · left; rw [Int.max_eq_left h]
      · right; simp [h3]
theorem possL_best {l : List Gt} {d : Int} (h0 : lenE l d = 0) : (pairsL d 0 l = [] ∧ possL l d = (0, 12)) ∨ (pairsL d 0 l ≠ [] ∧ ∃ n, possL l d = (n, 0) ∧ ∀ i k a b, PairAt l d i k a b → a.hi - b.lo ≤ n) := by
  have hA := chkP_As (lenE_zero h0).1
  simp only [possL, h0, if_true]
  by_cases hp : pairsL d 0 l = []
  · left; rw [if_pos hp]; exact ⟨hp, rfl⟩
  · right
    rw [if_neg hp]
    refine ⟨hp, _, rfl, fun i k a b h => ?_⟩
    have hm := (pairs_at hA (p := (i, k))).2 ⟨a, b, h⟩
    have e : hiP l (i, k) = a.hi - b.lo := by simp only [hiP, h.2.1, h.2.2.1]
    have hm2 := List.mem_map_of_mem (f := hiP l) hm
    rw [e] at hm2
    cases hL : (pairsL d 0 l).map (hiP l) with
    | nil => rw [hL] at hm2; simp at hm2
    | cons x r =>
      rw [hL] at hm2
      have hf := max_fold r x
      rcases List.mem_cons.1 hm2 with h | h
      · rw [h]; exact hf.1
      · exact hf.2.1 _ h

/-! other profiles of the same positions -/
def gOk (g : Gt) : Prop := (0 ≤ g.at' ∧ g.at' ≤ 50000) ∧ ((-10000 ≤ g.lo ∧ g.lo ≤ 10000) ∧ (-10000 ≤ g.hi ∧ g.hi ≤ 10000)) ∧ g.lo ≤ g.hi
theorem eachG_ok : ∀ {l : List Gt} {i last : Int}, (eachG i last l).2 = 0 ↔ (∀ g ∈ l, gOk g) ∧ As last l
  | [], i, last => by simp [eachG, As]
  | g :: r, i, last => by
    have ih := eachG_ok (l := r) (i := i + 1) (last := g.at')
    simp only [eachG]
    by_cases hg : gErr last g = 0
    · rw [if_pos hg, ih]
      have h1 := gErr_zero hg
      simp only [List.mem_cons, forall_eq_or_imp, As]
      exact ⟨fun ⟨a, b⟩ => ⟨⟨⟨h1.1, h1.2.1, h1.2.2.1⟩, a⟩, h1.2.2.2, b⟩, fun ⟨⟨_, a⟩, _, b⟩ => ⟨a, b⟩⟩
    · rw [if_neg hg]
      refine ⟨fun h => absurd h hg, fun ⟨h1, h2⟩ => absurd ?_ hg⟩
      have hk := h1 g (by simp)
      unfold gOk at hk
      rw [gErr_val, if_pos ⟨hk.1, hk.2.1⟩, if_pos ⟨hk.2.2, h2.1⟩]
theorem chkP_iff {l : List Gt} : (chkP l).2 = 0 ↔ l.length ≤ 20 ∧ (∀ g ∈ l, gOk g) ∧ As (-1) l := by
  unfold chkP
  split
  · rename_i h; rw [eachG_ok]; simp [h]
  · rename_i h; simp [h]
theorem As_same : ∀ {l m : List Gt} {last : Int}, l.map Gt.at' = m.map Gt.at' → As last l → As last m
  | [], [], _, _, _ => trivial
  | [], _ :: _, _, h, _ => by simp at h
  | _ :: _, [], _, h, _ => by simp at h
  | g :: l, x :: m, last, h, ha => by
    simp only [List.map_cons, List.cons.injEq] at h
    exact ⟨h.1 ▸ ha.1, h.1 ▸ As_same h.2 ha.2⟩
theorem chkP_same {l m : List Gt} (h : l.map Gt.at' = m.map Gt.at') (hl : (chkP l).2 = 0) (hm : ∀ g ∈ m, gOk g) : (chkP m).2 = 0 := by
  obtain ⟨h1, _, h3⟩ := chkP_iff.1 hl
  have := congrArg List.length h
  simp only [List.length_map] at this
  exact chkP_iff.2 ⟨by omega, hm, As_same h h3⟩
theorem lenE_same {l m : List Gt} {d : Int} (h : l.map Gt.at' = m.map Gt.at') (hl : lenE l d = 0) (hm : ∀ g ∈ m, gOk g) : lenE m d = 0 := by
  obtain ⟨h1, h2⟩ := lenE_zero hl
  simp only [lenE, firstE, chkP_same h h1 hm, if_true, unl, h2, and_self]
theorem at_same {l m : List Gt} (h : l.map Gt.at' = m.map Gt.at') {i : Nat} {a : Gt} (ha : l[i]? = some a) : ∃ b, m[i]? = some b ∧ b.at' = a.at' := by
  have := congrArg (fun L => L[i]?) h
  simp only [List.getElem?_map, ha, Option.map_some] at this
  cases hb : m[i]? with
  | none => rw [hb] at this; cases this
  | some b =>
    rw [hb] at this
    simp only [Option.map_some, Option.some.injEq] at this
    exact ⟨b, rfl, this.symm⟩
theorem PairAt.same {l m : List Gt} (h : l.map Gt.at' = m.map Gt.at') {d : Int} {i k : Nat} {a b : Gt} (hp : PairAt l d i k a b) : ∃ a' b', PairAt m d i k a' b' := by
  obtain ⟨h1, h2, h3, h4⟩ := hp
  obtain ⟨a', e1, e2⟩ := at_same h h2
  obtain ⟨b', e3, e4⟩ := at_same h h3
  exact ⟨a', b', h1, e1, e3, by omega⟩
theorem takeK_same {d : Int} {g g' : Gt} {i : Nat} (hg : g.at' = g'.at') : ∀ {l m : List Gt} {k : Nat}, l.map Gt.at' = m.map Gt.at' → takeK d g i k l = takeK d g' i k m
  | [], [], _, _ => rfl
  | [], _ :: _, _, h => by simp at h
  | _ :: _, [], _, h => by simp at h
  | x :: l, y :: m, k, h => by
    simp only [List.map_cons, List.cons.injEq] at h
    rw [takeK, takeK, h.1, hg, takeK_same hg h.2]
theorem pairsL_same {d : Int} : ∀ {l m : List Gt} {k : Nat}, l.map Gt.at' = m.map Gt.at' → pairsL d k l = pairsL d k m
  | [], [], _, _ => rfl
  | [], _ :: _, _, h => by simp at h
  | _ :: _, [], _, h => by simp at h
  | x :: l, y :: m, k, h => by
    simp only [List.map_cons, List.cons.injEq] at h
    rw [pairsL, pairsL, takeK_same h.1 h.2, pairsL_same h.2]
/-- with one range narrowed -/
def narG (l : List Gt) (i : Nat) (t : Int) : List Gt := match l[i]? with
  | some a => l.set i ⟨a.at', t, t⟩
  | none => l
theorem narG_at (l : List Gt) (i : Nat) (t : Int) : l.map Gt.at' = (narG l i t).map Gt.at' := by
  unfold narG
  split
  · rename_i a ha
    refine List.ext_getElem? fun j => ?_
    simp only [List.getElem?_map, List.getElem?_set]
    split
    · rename_i e; subst e
      obtain ⟨h1, h2⟩ := List.getElem?_eq_some_iff.1 ha
      rw [ha]; simp [h1]
    · rfl
  · rfl
theorem nar_best {l : List Gt} {d : Int} {c : Ch} {t : Int} {i k : Nat} {a b : Gt} (h0 : lenE l d = 0) (hp : PairAt l d i k a b) (hc : c.lo = a.lo - b.hi) (ht : a.lo ≤ t ∧ t ≤ a.hi) : ∃ c', strL lossG (narG l i t) d = (c', 0) ∧ c.lo ≤ c'.lo := by
  have hG := (chkP_iff.1 (lenE_zero h0).1).2.1
  have ha := hG a (List.mem_of_getElem? hp.2.1)
  unfold gOk at ha
  have e : narG l i t = l.set i ⟨a.at', t, t⟩ := by simp only [narG, hp.2.1]
  have hm : ∀ g ∈ narG l i t, gOk g := fun g hg => by
    rw [e] at hg
    rcases List.mem_or_eq_of_mem_set hg with h | h
    · exact hG g h
    · rw [h]; exact ⟨ha.1, ⟨by simp only; omega, by simp only; omega⟩, Int.le_refl _⟩
  have hl := lenE_same (narG_at l i t) h0 hm
  have hi := (List.getElem?_eq_some_iff.1 hp.2.1).1
  have hp2 : PairAt (narG l i t) d i k ⟨a.at', t, t⟩ b := by
    rw [e]
    refine ⟨hp.1, by simp [hi], ?_, hp.2.2.2⟩
    rw [List.getElem?_set_ne (by have := hp.1; omega)]; exact hp.2.2.1
  rcases strL_best (chg := lossG) hl with ⟨h1, _⟩ | ⟨_, c', h1, _, _, _, _, _, _, h2⟩
  · have := (pairs_at (chkP_As (lenE_zero hl).1) (p := (i, k))).2 ⟨_, _, hp2⟩
    rw [h1] at this; simp at this
  · refine ⟨c', h1, ?_⟩
    have := h2 _ _ _ _ hp2
    simp only [lossG] at this
    omega
/-- with all ranges wider -/
def wiG (g : Gt) : Gt := ⟨g.at', max (-10000) (g.lo - 3), min 10000 (g.hi + 3)⟩
theorem wi_best {l : List Gt} {d : Int} {c : Ch} (h0 : lenE l d = 0) (hc : Best lossG l d c) : ∃ c', strL lossG (l.map wiG) d = (c', 0) ∧ c'.lo ≤ c.lo := by
  have hG := (chkP_iff.1 (lenE_zero h0).1).2.1
  have hat : l.map Gt.at' = (l.map wiG).map Gt.at' := by rw [List.map_map]; rfl
  have hm : ∀ g ∈ l.map wiG, gOk g := fun g hg => by
    obtain ⟨x, hx, rfl⟩ := List.mem_map.1 hg
    have := hG x hx
    unfold gOk at this ⊢
    simp only [wiG]; omega
  have hl := lenE_same hat h0 hm
  obtain ⟨i, k, a, b, hp, _, hb⟩ := hc
  obtain ⟨a2, b2, hp2⟩ := hp.same hat
  rcases strL_best (chg := lossG) hl with ⟨h1, _⟩ | ⟨_, c', h1, i', k', a', b', hp', e, h2⟩
  · have := (pairs_at (chkP_As (lenE_zero hl).1) (p := (i, k))).2 ⟨_, _, hp2⟩
    rw [h1] at this; simp at this
  · refine ⟨c', h1, ?_⟩
    obtain ⟨q1, q2, q3, q4⟩ := hp'
    rw [List.getElem?_map] at q2 q3
    cases h3 : l[i']? with
    | none => rw [h3] at q2; cases q2
    | some x =>
      cases h4 : l[k']? with
      | none => rw [h4] at q3; cases q3
      | some y =>
        rw [h3] at q2; rw [h4] at q3
        cases q2; cases q3
        have hx := hG x (List.mem_of_getElem? h3)
        have hy := hG y (List.mem_of_getElem? h4)
        have := hb i' k' x y ⟨q1, h3, h4, by simpa [wiG] using q4⟩
        unfold gOk at hx hy
        rw [e]
        simp only [lossG, wiG] at this ⊢
        omega
/-- with all signs changed -/
def opG (g : Gt) : Gt := ⟨g.at', -g.hi, -g.lo⟩
theorem gain_op (a b : Gt) : gainG (opG a) (opG b) = lossG a b := by
  simp only [gainG, lossG, opG]
  exact Prod.ext (by simp only; omega) (by simp only; omega)
theorem op_str {l : List Gt} {d : Int} (h0 : lenE l d = 0) : strL gainG (l.map opG) d = strL lossG l d := by
  have hG := (chkP_iff.1 (lenE_zero h0).1).2.1
  have hat : l.map Gt.at' = (l.map opG).map Gt.at' := by rw [List.map_map]; rfl
  have hm : ∀ g ∈ l.map opG, gOk g := fun g hg => by
    obtain ⟨x, hx, rfl⟩ := List.mem_map.1 hg
    have := hG x hx
    unfold gOk at this ⊢
    simp only [opG]; omega
  have hl := lenE_same hat h0 hm
  have ef : ∀ c p, stC gainG (l.map opG) c p = stC lossG l c p := fun c p => by
    simp only [stC, List.getElem?_map]
    cases l[p.1]? <;> cases l[p.2]? <;> simp only [Option.map_some, Option.map_none, gain_op]
  have ef2 : stC gainG (l.map opG) = stC lossG l := funext fun c => funext fun p => ef c p
  simp only [strL, h0, hl, if_true, ← pairsL_same hat, ef2]

/-! ramps -/
def rampD (k : Int) : OuN → OuN
  | none => some ([], ⟨k - 1, k⟩)
  | some (m, a) => if a.hi = k - 1 then some (m, ⟨a.lo, k⟩) else some (m ++ [a], ⟨k - 1, k⟩)
def rampR (d : Int) : Int → Gt → List Gt → OuN → OuN
  | _, _, [], o => o
  | k, g, x :: r, o => rampR d (k + 1) x r (if (lossG g x).1 < d then o else rampD k o)
def rampO (d : Int) : List Gt → OuN
  | [] => none
  | g :: r => rampR d 1 g r none
def rmE (l : List Gt) (d : Int) : Int := firstE [(chkP l).2, unl (1 ≤ d ∧ d ≤ 20000) 2]
def rmL (l : List Gt) (d : Int) : List Rg × Int := if rmE l d = 0 then ((rampO d l).l, 0) else ([], rmE l d)
/-- what is said of ramps up to index k -/
def RQ (T : List Int) (d : Int) (k : Int) (L : List Rg) : Prop := ∀ i (h : i < L.length), 0 ≤ L[i].lo ∧ L[i].lo < L[i].hi ∧ L[i].hi < k ∧ (∀ x y, T[L[i].lo.toNat]? = some x → T[L[i].hi.toNat]? = some y → d * (L[i].hi - L[i].lo) ≤ x - y) ∧ ∀ h0 : 0 < i, (L[i - 1]'(by omega)).hi < L[i].lo
theorem RQ_app {T : List Int} {d k k' : Int} {m : List Rg} {a : Rg} (h : RQ T d k m) (hk : k ≤ k') (ha : 0 ≤ a.lo ∧ a.lo < a.hi ∧ a.hi < k') (ht : ∀ x y, T[a.lo.toNat]? = some x → T[a.hi.toNat]? = some y → d * (a.hi - a.lo) ≤ x - y) (hl : ∀ (h0 : 0 < m.length), (m[m.length - 1]'(by omega)).hi < a.lo) : RQ T d k' (m ++ [a]) := by
  intro i hi
  simp only [List.length_append, List.length_cons, List.length_nil] at hi
  rcases Nat.lt_or_ge i m.length with h1 | h1
  · obtain ⟨q1, q2, q3, q4, q5⟩ := h i h1
    have e : (m ++ [a])[i]'(by simp; omega) = m[i] := List.getElem_append_left h1
    simp only [e]
    refine ⟨q1, q2, by omega, q4, fun h0 => ?_⟩
    rw [List.getElem_append_left (by omega)]
    exact q5 h0
  · have : i = m.length := by omega
    subst this
    have e : (m ++ [a])[m.length]'(by simp) = a := by simp
    simp only [e]
    refine ⟨ha.1, ha.2.1, ha.2.2, ht, fun h0 => ?_⟩
    rw [List.getElem_append_left (by omega)]
    exact hl h0
theorem RQ_init {T : List Int} {d k : Int} {m : List Rg} {a : Rg} (h : RQ T d k (m ++ [a])) : RQ T d k m := by
  intro i hi
  obtain ⟨q1, q2, q3, q4, q5⟩ := h i (by simp; omega)
  have e : (m ++ [a])[i]'(by simp; omega) = m[i] := List.getElem_append_left hi
  simp only [e] at q1 q2 q3 q4 q5
  refine ⟨q1, q2, q3, q4, fun h0 => ?_⟩
  have := q5 h0
  rwa [List.getElem_append_left (by omega)] at this
theorem RQ_mono {T : List Int} {d k k' : Int} {m : List Rg} (h : RQ T d k m) (hk : k ≤ k') : RQ T d k' m := fun i hi => by
  obtain ⟨q1, q2, q3, q4, q5⟩ := h i hi
  exact ⟨q1, q2, by omega, q4, q5⟩
/-- the truth lies in the ranges -/
def Tru (T : List Int) (l : List Gt) : Prop := T.length = l.length ∧ ∀ (i : Nat) (x : Int) (g : Gt), T[i]? = some x → l[i]? = some g → g.lo ≤ x ∧ x ≤ g.hi
theorem rampD_len (k : Int) (o : OuN) : (rampD k o).l.length ≤ o.l.length + 1 := by
  cases o with
  | none => simp [rampD, OuN.l]
  | some p => obtain ⟨m, a⟩ := p; simp only [rampD]; split <;> simp [OuN.l]
theorem rampR_len {d : Int} : ∀ (r : List Gt) (k : Int) (g : Gt) (o : OuN), (rampR d k g r o).l.length ≤ o.l.length + r.length
  | [], _, _, _ => by simp [rampR]
  | x :: r, k, g, o => by
    rw [rampR]
    refine Nat.le_trans (rampR_len r _ _ _) ?_
    have := rampD_len k o
    split <;> simp only [List.length_cons] <;> omega
theorem ramp_RQ {T : List Int} {d : Int} {l : List Gt} (hT : Tru T l) (hd : 0 ≤ d) : ∀ (r : List Gt) (k : Nat) (g : Gt) (o : OuN), l[k]? = some g → l.drop (k + 1) = r → RQ T d (k + 1) o.l → RQ T d l.length (rampR d (k + 1) g r o).l
  | [], k, g, o, hg, hr, h => by
    have h1 := (List.getElem?_eq_some_iff.1 hg).1
    have := congrArg List.length hr
    simp only [List.length_drop, List.length_nil] at this
    rw [rampR]
    have e : (l.length : Int) = k + 1 := by omega
    rw [e]; exact h
  | x :: r, k, g, o, hg, hr, h => by
    have hx : l[k + 1]? = some x := by
      have := List.getElem?_drop (xs := l) (i := k + 1) (j := 0)
      rw [hr] at this
      simpa using this.symm
    have hr2 : l.drop (k + 1 + 1) = r := by rw [← List.drop_drop, hr]; rfl
    rw [rampR]
    have := ramp_RQ hT hd r (k + 1) x (if (lossG g x).1 < d then o else rampD (k + 1) o) hx hr2 ?_
    · exact this
    · split
      · exact RQ_mono h (by omega)
      · rename_i hlo
        simp only [lossG] at hlo
        have h1 := (List.getElem?_eq_some_iff.1 hg).1
        have h2 := (List.getElem?_eq_some_iff.1 hx).1
        have tk : ∀ x1 y1, T[k]? = some x1 → T[k + 1]? = some y1 → d ≤ x1 - y1 := fun x1 y1 e1 e2 => by
          have := hT.2 k x1 g e1 hg
          have := hT.2 (k + 1) y1 x e2 hx
          omega
        have t1 : ((k : Int) + 1 - 1).toNat = k := by omega
        have t2 : ((k : Int) + 1).toNat = k + 1 := by omega
        cases o with
        | none =>
          simp only [rampD, OuN.l, List.nil_append]
          refine RQ_app (m := []) (k := 0) (fun i hi => by simp at hi) (by omega) ⟨by simp only; omega, by simp only; omega, by simp only; omega⟩ (fun x1 y1 e1 e2 => ?_) (fun h0 => by simp at h0)
          simp only [t1, t2] at e1 e2
          have := tk x1 y1 e1 e2
          simp only
          rw [show (k : Int) + 1 - ((k : Int) + 1 - 1) = 1 by omega]; omega
        | some p =>
          obtain ⟨m, a⟩ := p
          simp only [OuN.l] at h
          have ha := h m.length (by simp)
          have ea : (m ++ [a])[m.length]'(by simp) = a := by simp
          simp only [ea] at ha
          obtain ⟨a1, a2, a3, a4, a5⟩ := ha
          have a5' : ∀ (h0 : 0 < m.length), (m[m.length - 1]'(by omega)).hi < a.lo := fun h0 => by
            have := a5 h0
            rwa [List.getElem_append_left (by omega)] at this
          simp only [rampD]
          split
          · rename_i hh
            simp only [OuN.l]
            refine RQ_app (RQ_init h) (by omega) ⟨a1, by simp only; omega, by simp only; omega⟩ (fun x1 y1 e1 e2 => ?_) a5'
            simp only [t2] at e1 e2
            have hk : a.hi.toNat = k := by omega
            have hkT : k < T.length := by rw [hT.1]; exact h1
            have hz : T[k]? = some T[k] := List.getElem?_eq_getElem hkT
            have b1 := a4 x1 T[k] e1 (by rw [hk]; exact hz)
            have b2 := tk T[k] y1 hz e2
            simp only
            rw [show (k : Int) + 1 - a.lo = (a.hi - a.lo) + 1 by omega, Int.mul_add, Int.mul_one]
            omega
          · rename_i hh
            simp only [OuN.l]
            refine RQ_app h (by omega) ⟨by simp only; omega, by simp only; omega, by simp only; omega⟩ (fun x1 y1 e1 e2 => ?_) (fun h0 => ?_)
            · simp only [t1, t2] at e1 e2
              have := tk x1 y1 e1 e2
              simp only
              rw [show (k : Int) + 1 - ((k : Int) + 1 - 1) = 1 by omega]; omega
            · simp only [List.length_append, List.length_cons, List.length_nil, Nat.add_sub_cancel, ea]
              omega
theorem rampO_RQ {T : List Int} {d : Int} {l : List Gt} (hT : Tru T l) (hd : 0 ≤ d) : RQ T d l.length (rampO d l).l ∧ (rampO d l).l.length ≤ l.length := by
  cases l with
  | nil => exact ⟨fun i hi => by simp [rampO, OuN.l] at hi, by simp [rampO, OuN.l]⟩
  | cons g r =>
    refine ⟨ramp_RQ hT hd r 0 g none (by simp) (by simp) (fun i hi => by simp [OuN.l] at hi), ?_⟩
    have := rampR_len (d := d) r 1 g none
    simp only [rampO, OuN.l, List.length_nil, List.length_cons] at *
    omega
end Sh
