import Derived.Test.YtjkhnmhbbjgenaaEngS9
import Derived.Test.YtjkhnmhbbjgenaaS46
open Go Go.Proofs Eng
set_option maxRecDepth 100000
set_option linter.unusedSimpArgs false
set_option linter.unusedVariables false

namespace Sc
def BestC (c : List Int → Option Int) (pre : List (List Int)) : Option (List Int × Int) → Prop
  | none => ∀ q ∈ pre, c q = none
  | some (p, t) => p ∈ pre ∧ c p = some t ∧ ∀ q ∈ pre, ∀ u, c q = some u → t ≤ u ∧ (u = t → q = p ∨ bef p q = true)
theorem bestC_unique {c : List Int → Option Int} {pre : List (List Int)} : ∀ {x y : Option (List Int × Int)}, BestC c pre x → BestC c pre y → x = y
  | none, none, _, _ => rfl
  | none, some (p, t), h, ⟨h1, h2, _⟩ => by rw [h p h1] at h2; cases h2
  | some (p, t), none, ⟨h1, h2, _⟩, h => by rw [h p h1] at h2; cases h2
  | some (p, t), some (q, u), ⟨h1, h2, h3⟩, ⟨g1, g2, g3⟩ => by
    obtain ⟨a1, a2⟩ := h3 q g1 u g2
    obtain ⟨b1, b2⟩ := g3 p h1 t h2
    have e : u = t := by omega
    subst e
    rcases a2 rfl with e | e
    · rw [e]
    · rcases b2 rfl with e2 | e2
      · rw [e2]
      · rw [bef_asym p q e] at e2; cases e2
def extG (N : Nat) : Nat → Nat → List (List Int)
  | 0, _ => [[]]
  | f + 1, d => (List.range N).flatMap fun k => if d.testBit k = true then [] else (extG N f (d ||| 2 ^ k)).map ((k : Int) :: ·)
def cA (T : Nat → Nat → Int) (D : Nat → Nat → Bool) : Nat → List Int → Option Int
  | _, [] => some 0
  | a, k :: r => if D a k.toNat = true then (cA T D k.toNat r).map (T a k.toNat + ·) else none
theorem fin_best (N : Nat) (T : Nat → Nat → Int) (D : Nat → Nat → Bool) : ∀ (f a d : Nat), BestC (cA T D a) (extG N f d) (finG N T D f a d)
  | 0, a, d => by
    rw [extG, finG]
    refine ⟨by simp, rfl, fun q hq u hu => ?_⟩
    rw [List.mem_singleton.1 hq] at hu
    cases hu
    exact ⟨Int.le_refl _, fun _ => .inl (List.mem_singleton.1 hq)⟩
  | f + 1, a, d => by
    rw [extG, finG]
    have key : ∀ (ks : List Nat) (pre : List (List Int)) (b : Option (List Int × Int)), ks.Pairwise (· < ·) → (∀ q ∈ pre, ∃ (j : Nat) (r : List Int), q = (j : Int) :: r ∧ ∀ k ∈ ks, j < k) → BestC (cA T D a) pre b →
        BestC (cA T D a) (pre ++ ks.flatMap fun k => if d.testBit k = true then [] else (extG N f (d ||| 2 ^ k)).map ((k : Int) :: ·)) (ks.foldl (fStep T D (finG N T D f) a d) b) := by
      intro ks
      induction ks with
      | nil => intro pre b _ _ hb; simpa using hb
      | cons k ks ih =>
        intro pre b hks hpre hb
        obtain ⟨k1, k2⟩ := List.pairwise_cons.1 hks
        rw [List.flatMap_cons, ← List.append_assoc, List.foldl_cons]
        have hrec := fin_best N T D f k (d ||| 2 ^ k)
        refine ih _ _ k2 ?_ ?_
        · intro q hq
          rcases List.mem_append.1 hq with hq | hq
          · obtain ⟨j, r, e, h⟩ := hpre q hq
            exact ⟨j, r, e, fun k' hk' => h k' (by simp [hk'])⟩
          · split at hq
            · simp at hq
            · obtain ⟨r, hr, rfl⟩ := List.mem_map.1 hq
              exact ⟨k, r, rfl, k1⟩
        · unfold fStep
          by_cases hbit : d.testBit k = true
          · rw [if_pos hbit, List.append_nil, if_pos (show d.testBit k = true ∨ D a k = false from .inl hbit)]; exact hb
          · rw [if_neg hbit]
            have hcost : ∀ r : List Int, cA T D a ((k : Int) :: r) = if D a k = true then (cA T D k r).map (T a k + ·) else none := fun r => by rw [cA, Int.toNat_natCast]
            -- all new ones cost nothing that counts
            have none_case : (∀ r ∈ extG N f (d ||| 2 ^ k), cA T D a ((k : Int) :: r) = none) → BestC (cA T D a) (pre ++ (extG N f (d ||| 2 ^ k)).map ((k : Int) :: ·)) b := by
              intro hn
              cases b with
              | none =>
                intro q hq
                rcases List.mem_append.1 hq with hq | hq
                · exact hb q hq
                · obtain ⟨r, hr, rfl⟩ := List.mem_map.1 hq
                  exact hn r hr
              | some b =>
                obtain ⟨bo, bt⟩ := b
                obtain ⟨h1, h2, h3⟩ := hb
                refine ⟨List.mem_append.2 (.inl h1), h2, fun q hq u hu => ?_⟩
                rcases List.mem_append.1 hq with hq | hq
                · exact h3 q hq u hu
                · obtain ⟨r, hr, rfl⟩ := List.mem_map.1 hq
                  rw [hn r hr] at hu; cases hu
            by_cases hD : D a k = true
            · rw [if_neg (by rintro (h | h); exact hbit h; rw [hD] at h; cases h)]
              cases hr : finG N T D f k (d ||| 2 ^ k) with
              | none =>
                rw [hr] at hrec
                exact none_case fun r hr' => by rw [hcost, if_pos hD, hrec r hr']; rfl
              | some x =>
                obtain ⟨o, t⟩ := x
                rw [hr] at hrec
                obtain ⟨r1, r2, r3⟩ := hrec
                have hnew : ∀ q ∈ (extG N f (d ||| 2 ^ k)).map ((k : Int) :: ·), ∀ u, cA T D a q = some u → T a k + t ≤ u ∧ (u = T a k + t → q = (k : Int) :: o ∨ bef ((k : Int) :: o) q = true) := by
                  intro q hq u hu
                  obtain ⟨r, hr', rfl⟩ := List.mem_map.1 hq
                  rw [hcost, if_pos hD] at hu
                  cases hv : cA T D k r with
                  | none => rw [hv] at hu; cases hu
                  | some v =>
                    rw [hv] at hu
                    simp only [Option.map_some, Option.some.injEq] at hu
                    subst hu
                    obtain ⟨z1, z2⟩ := r3 r hr' v hv
                    refine ⟨by omega, fun e => ?_⟩
                    rcases z2 (by omega) with e | e
                    · exact .inl (by rw [e])
                    · refine .inr ?_
                      show bef ((k : Int) :: o) ((k : Int) :: r) = true
                      rw [bef, if_pos rfl]; exact e
                have hmem : ((k : Int) :: o) ∈ (extG N f (d ||| 2 ^ k)).map ((k : Int) :: ·) := List.mem_map.2 ⟨o, r1, rfl⟩
                have hval : cA T D a ((k : Int) :: o) = some (T a k + t) := by rw [hcost, if_pos hD, r2]; rfl
                cases b with
                | none =>
                  refine ⟨List.mem_append.2 (.inr hmem), hval, fun q hq u hu => ?_⟩
                  rcases List.mem_append.1 hq with hq | hq
                  · rw [hb q hq] at hu; cases hu
                  · exact hnew q hq u hu
                | some b =>
                  obtain ⟨bo, bt⟩ := b
                  obtain ⟨h1, h2, h3⟩ := hb
                  simp only
                  by_cases hlt : T a k + t < bt
                  · rw [if_pos hlt]
                    refine ⟨List.mem_append.2 (.inr hmem), hval, fun q hq u hu => ?_⟩
                    rcases List.mem_append.1 hq with hq | hq
                    · have := (h3 q hq u hu).1
                      exact ⟨by omega, fun e => by omega⟩
                    · exact hnew q hq u hu
                  · rw [if_neg hlt]
                    refine ⟨List.mem_append.2 (.inl h1), h2, fun q hq u hu => ?_⟩
                    rcases List.mem_append.1 hq with hq | hq
                    · exact h3 q hq u hu
                    · have z := hnew q hq u hu
                      refine ⟨by omega, fun e => .inr ?_⟩
                      obtain ⟨r, hr', rfl⟩ := List.mem_map.1 hq
                      obtain ⟨j, r0, e0, hj⟩ := hpre bo h1
                      have := hj k (by simp)
                      rw [e0]
                      show bef ((j : Int) :: r0) ((k : Int) :: r) = true
                      rw [bef, if_neg (by omega)]
                      exact decide_eq_true (by omega)
            · rw [if_pos (show d.testBit k = true ∨ D a k = false from .inr (by simpa using hD))]
              exact none_case fun r _ => by rw [hcost, if_neg hD]
    have := key (List.range N) [] none List.pairwise_lt_range (fun q hq => by simp at hq) (fun q hq => by simp at hq)
    rw [List.nil_append] at this
    exact this
theorem perm_ext {N : Nat} (hN : N ≤ 6) : ∀ (f d : Nat) (p : List Int), (∀ k < N, d.testBit k = true ↔ (k : Int) ∈ p) → permG N f p = (extG N f d).map (p ++ ·)
  | 0, d, p, _ => by rw [permG, extG]; simp
  | f + 1, d, p, h => by
    rw [permG, extG, List.map_flatMap]
    have e : ∀ (ks : List Nat), (∀ k ∈ ks, k < N) → (ks.flatMap fun (k : Nat) => if ((k : Nat) : Int) ∈ p then [] else permG N f (p ++ [((k : Nat) : Int)])) = ks.flatMap fun k => (if d.testBit k = true then [] else (extG N f (d ||| 2 ^ k)).map ((k : Int) :: ·)).map (p ++ ·) := by
      intro ks
      induction ks with
      | nil => intro _; rfl
      | cons k ks ih =>
        intro hks
        rw [List.flatMap_cons, List.flatMap_cons, ih fun j hj => hks j (by simp [hj])]
        congr 1
        have hk := hks k (by simp)
        by_cases hb : d.testBit k = true
        · rw [if_pos hb, if_pos ((h k hk).1 hb)]; rfl
        · rw [if_neg hb, if_neg (fun x => hb ((h k hk).2 x)), perm_ext hN f (d ||| 2 ^ k) (p ++ [(k : Int)]), List.map_map]
          · congr 1
            funext r
            simp
          · intro j hj
            rw [Nat.testBit_or, Nat.testBit_two_pow, Bool.or_eq_true, decide_eq_true_eq, h j hj, List.mem_append, List.mem_singleton]
            constructor
            · rintro (x | x)
              · exact .inl x
              · exact .inr (by omega)
            · rintro (x | x)
              · exact .inl x
              · exact .inr (by omega)
    exact e _ fun k hk => List.mem_range.1 hk
theorem tc_cA {h : Hd} {l : List Dr} : ∀ (q : List Int) (t : Int) (a : Nat), (∀ i ∈ q, 0 ≤ i ∧ i < (l.length : Int)) → tcG ⟨h, l⟩ t (pS h l a) q = (cA (fT h l) (fD h l) a q).map (t + ·)
  | [], t, a, _ => by simp [tcG, cA]
  | k :: r, t, a, hq => by
    have hk := hq k (by simp)
    have hx : l[k.toNat]? = some (pS h l k.toNat) := by rw [pS_lt h l (by omega)]; exact List.getElem?_eq_getElem (by omega)
    rw [tcG, cA]
    simp only
    rw [hx]
    simp only
    have ih := fun t' => tc_cA (h := h) (l := l) r t' k.toNat fun i hi => hq i (by simp [hi])
    cases hl : litL h (pS h l a) (pS h l k.toNat) with
    | some u =>
      have : fD h l a k.toNat = false := by unfold fD; rw [hl]; rfl
      simp only
      rw [this, if_neg (by decide)]; rfl
    | none =>
      have : fD h l a k.toNat = true := by unfold fD; rw [hl]; rfl
      simp only
      rw [this, if_pos rfl, ih]
      cases cA (fT h l) (fD h l) k.toNat r with
      | none => rfl
      | some v =>
        simp only [Option.map_some, Option.some.injEq]
        unfold fT
        omega
theorem fin_oo {h : Hd} {l : List Dr} (h6 : l.length ≤ 6) : finG l.length (fT h l) (fD h l) l.length l.length 0 = ooB ⟨h, l⟩ := by
  have b1 := fin_best l.length (fT h l) (fD h l) l.length l.length 0
  have b2 := ooB_best ⟨h, l⟩
  have e := perm_ext h6 l.length 0 [] (fun k _ => by simp)
  have e2 : permG l.length l.length [] = extG l.length l.length 0 := by rw [e]; simp
  have hm : ∀ q ∈ permG l.length l.length [], ∀ i ∈ q, 0 ≤ i ∧ i < (l.length : Int) := fun q hq i hi => (perm_mem (N := l.length) l.length [] (by simp) (by simp) q hq).2 i hi
  have hc : ∀ q ∈ permG l.length l.length [], tcG ⟨h, l⟩ 0 h.home q = cA (fT h l) (fD h l) l.length q := fun q hq => by
    have := tc_cA (h := h) (l := l) q 0 l.length (hm q hq)
    rw [pS_n] at this
    rw [this]
    cases cA (fT h l) (fD h l) l.length q <;> simp
  refine bestC_unique (c := cA (fT h l) (fD h l) l.length) (pre := permG l.length l.length []) (e2 ▸ b1) ?_
  have b3 : Best ⟨h, l⟩ (permG l.length l.length []) (ooB ⟨h, l⟩) := b2
  cases hob : ooB ⟨h, l⟩ with
  | none =>
    rw [hob] at b3
    intro q hq
    rw [← hc q hq]; exact b3 q hq
  | some x =>
    obtain ⟨p, t⟩ := x
    rw [hob] at b3
    obtain ⟨h1, h2, h3⟩ := b3
    refine ⟨h1, by rw [← hc p h1]; exact h2, fun q hq u hu => ?_⟩
    rw [← hc q hq] at hu
    exact h3 q hq u hu
end Sc
