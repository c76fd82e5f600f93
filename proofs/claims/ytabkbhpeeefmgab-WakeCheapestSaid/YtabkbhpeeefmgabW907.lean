import Derived.Test.YtabkbhpeeefmgabEngS9
import Derived.Test.YtabkbhpeeefmgabW906
open Go Go.Proofs Eng
set_option maxRecDepth 100000
set_option linter.unusedSimpArgs false
set_option linter.unusedVariables false
def a87 : AC := .seq (.seq (.ops false [] [⟨some 10, .p (.mov), [.t 0], none⟩, ⟨some 11, .p (.lenS), [.t 10], none⟩, ⟨some 12, .load 1 false, [.t 2], none⟩, ⟨some 13, .p (.lenS), [.t 12], none⟩, ⟨some 14, .p (.binI .eql), [.t 11, .t 13], none⟩]) (.cond (.t 14) (.seq (.seq (.ops false [] [⟨some 15, .load 1 false, [.t 3], none⟩, ⟨some 16, .p (.lenS), [.t 15], none⟩, ⟨some 17, .p (.binI .eql), [.t 16, .c (.int .i64 0)], none⟩, ⟨some 18, .p (.mov), [.t 17], none⟩, ⟨some 19, .p (.mov), [.t 1], some (18, false)⟩, ⟨some 20, .load 1 false, [.t 4], some (18, false)⟩, ⟨some 21, .p (.binI .lss), [.t 19, .t 20], some (18, false)⟩, ⟨some 22, .p (.pick), [.t 18, .c (.bool true), .t 21], none⟩]) (.cond (.t 22) (.ops false [] [⟨some 23, .p (.mov), [.t 1], none⟩, ⟨none, .store 1 false, [.t 3, .c (.nilslice)], none⟩, ⟨none, .store 1 false, [.t 4, .t 23], none⟩]) (.skip))) (.seq (.seq (.ops false [] [⟨some 24, .p (.mov), [.t 1], none⟩, ⟨some 25, .load 1 false, [.t 4], none⟩, ⟨some 26, .p (.binI .eql), [.t 24, .t 25], none⟩]) (.cond (.t 26) (.ops true [] [⟨some 27, .load 1 false, [.t 3], none⟩, ⟨some 28, .p (.mov), [.t 0], none⟩, ⟨some 29, .call 88, [.t 28], none⟩, ⟨some 30, .fbs 1, [.t 29], none⟩, ⟨some 31, .app 23 1 24, [.t 27, .t 30], none⟩, ⟨none, .store 1 false, [.t 3, .t 31], none⟩]) (.skip))) (.ret))) (.skip))) (.seq (.ops false [] [⟨some 32, .load 1 false, [.t 2], none⟩, ⟨some 33, .p (.mov), [.t 0], none⟩, ⟨some 34, .p (.lenS), [.t 33], none⟩, ⟨some 35, .p (.iaddrS 1), [.t 32, .t 34], none⟩, ⟨some 36, .load 1 false, [.t 35], none⟩, ⟨some 37, .p (.lenS), [.t 36], none⟩, ⟨some 38, .p (.mov), [.c (.int .i64 0)], none⟩]) (.block 0 (.loop (.seq (.ops false [] [⟨some 39, .p (.binI .lss), [.t 38, .t 37], none⟩]) (.seq (.cond (.t 39) (.skip) (.exit 0)) (.seq (.block 1 (.seq (.ops false [] [⟨some 40, .p (.mov), [.t 38], none⟩, ⟨some 41, .p (.iaddrS 1), [.t 36, .t 38], none⟩, ⟨some 42, .load 1 false, [.t 41], none⟩, ⟨some 8, .p (.mov), [.t 40], none⟩, ⟨some 9, .p (.mov), [.t 42], none⟩]) (.seq (.ops false [] [⟨some 43, .p (.mov), [.t 0], none⟩, ⟨some 44, .p (.mov), [.t 8], none⟩, ⟨some 45, .call 46, [.t 43, .t 44], none⟩, ⟨some 46, .p (.notB), [.t 45], none⟩]) (.cond (.t 46) (.ops true [(0, 5)] [⟨some 47, .load 1 false, [.t 5], none⟩, ⟨some 48, .p (.mov), [.t 0], none⟩, ⟨some 49, .call 89, [.t 48], none⟩, ⟨some 50, .p (.mov), [.t 8], none⟩, ⟨some 51, .fbs 1, [.t 50], none⟩, ⟨some 52, .app 3 1 8, [.t 49, .t 51], none⟩, ⟨some 53, .p (.mov), [.t 1], none⟩, ⟨some 54, .p (.mov), [.t 9], none⟩, ⟨some 55, .p (.binI .add), [.t 53, .t 54], none⟩, ⟨some 56, .callv, [.t 47, .t 52, .t 55], none⟩]) (.skip))))) (.ops false [] [⟨some 57, .p (.binI .add), [.t 38, .c (.int .i64 1)], none⟩, ⟨some 38, .p (.mov), [.t 57], none⟩])))))))
theorem c87 : FnC Try.prog 87 58 a87 [] := ⟨Try.call87, _, _, Try.func87, rfl, by kernel_rfl, by kernel_rfl, rfl⟩
namespace Wa
/-- all orders that begin with p, f longer -/
def permG (N : Nat) : Nat → List Int → List (List Int)
  | 0, p => [p]
  | f + 1, p => (List.range N).flatMap fun (k : Nat) => if ((k : Nat) : Int) ∈ p then [] else permG N f (p ++ [((k : Nat) : Int)])
def permO (N f : Nat) (p : List Int) (k : Nat) : List (List Int) := if ((k : Nat) : Int) ∈ p then [] else permG N f (p ++ [((k : Nat) : Int)])
def permD (N f : Nat) (p : List Int) (k : Nat) : List (List Int) := ((List.range N).drop k).flatMap (permO N f p)
theorem permD_0 (N f : Nat) (p : List Int) : permG N (f + 1) p = permD N f p 0 := rfl
theorem permD_c {N f k : Nat} {p : List Int} (h : k < N) : permD N f p k = permO N f p k ++ permD N f p (k + 1) := by
  unfold permD
  rw [List.drop_eq_getElem_cons (by simpa using h), List.flatMap_cons, List.getElem_range]
theorem permD_n {N f k : Nat} {p : List Int} (h : N ≤ k) : permD N f p k = [] := by
  unfold permD
  rw [List.drop_eq_nil_of_le (by simpa using h)]; rfl
theorem perm_mem {N : Nat} : ∀ (f : Nat) (p : List Int), (∀ k ∈ p, 0 ≤ k ∧ k < N) → p.length + f = N → ∀ q ∈ permG N f p, q.length = N ∧ ∀ k ∈ q, 0 ≤ k ∧ k < N
  | 0, p, h, hl, q, hq => by
    rw [permG, List.mem_singleton] at hq
    subst hq
    exact ⟨by omega, h⟩
  | f + 1, p, h, hl, q, hq => by
    rw [permG] at hq
    obtain ⟨k, hk, hq⟩ := List.mem_flatMap.1 hq
    split at hq
    · simp at hq
    · refine perm_mem f (p ++ [(k : Int)]) (fun z hz => ?_) (by simp only [List.length_append, List.length_cons, List.length_nil]; omega) q hq
      rcases List.mem_append.1 hz with hz | hz
      · exact h z hz
      · rw [List.mem_singleton.1 hz]
        have := List.mem_range.1 hk
        omega
theorem perm_nodup {N : Nat} : ∀ (f : Nat) (p q : List Int), p.Nodup → q ∈ permG N f p → q.Nodup
  | 0, p, q, hp, h => by rw [permG, List.mem_singleton] at h; rw [h]; exact hp
  | f + 1, p, q, hp, h => by
    rw [permG] at h
    obtain ⟨k, hk, hq⟩ := List.mem_flatMap.1 h
    split at hq
    · simp at hq
    · rename_i hk2
      exact perm_nodup f _ _ (List.nodup_append.2 ⟨hp, by simp, fun a ha b hb => by rw [List.mem_singleton.1 hb]; exact fun e => hk2 (e ▸ ha)⟩) hq
theorem perm_all {N : Nat} : ∀ (f : Nat) (p r : List Int), r.length = f → (∀ i ∈ r, 0 ≤ i ∧ i < N) → (∀ i ∈ r, ¬ i ∈ p) → r.Nodup → p ++ r ∈ permG N f p
  | 0, p, r, h, _, _, _ => by
    rw [List.eq_nil_of_length_eq_zero h, List.append_nil, permG]; simp
  | f + 1, p, [], h, _, _, _ => by simp at h
  | f + 1, p, i :: r, h, h1, h2, h3 => by
    rw [permG]
    have hi := h1 i (by simp)
    refine List.mem_flatMap.2 ⟨i.toNat, List.mem_range.2 (by omega), ?_⟩
    have e : ((i.toNat : Nat) : Int) = i := Int.toNat_of_nonneg hi.1
    rw [e, if_neg (h2 i (by simp))]
    have hn := List.nodup_cons.1 h3
    have := perm_all (N := N) f (p ++ [i]) r (by simpa using h) (fun j hj => h1 j (by simp [hj])) (fun j hj hm => by
      rcases List.mem_append.1 hm with hm | hm
      · exact h2 j (by simp [hj]) hm
      · rw [List.mem_singleton.1 hm] at hj; exact hn.1 hj) hn.2
    rwa [List.append_assoc] at this
def cell (m : List L) (i : Nat) (k : Int) : Int := ((m[i]?).bind fun r => r[k.toNat]?).getD 0
def cstG (m : List L) : Nat → L → Int
  | _, [] => 0
  | i, k :: p => cell m i k + cstG m (i + 1) p
def cst (m : List L) (p : L) : Int := cstG m 0 p
theorem cstG_snoc (m : List L) (k : Int) : ∀ (p : L) (i : Nat), cstG m i (p ++ [k]) = cstG m i p + cell m (i + p.length) k
  | [], i => by simp [cstG]
  | x :: p, i => by
    rw [List.cons_append, cstG, cstG, cstG_snoc m k p (i + 1), List.length_cons, show i + 1 + p.length = i + (p.length + 1) by omega]
    omega
theorem cst_snoc (m : List L) (p : L) (k : Int) : cst m (p ++ [k]) = cst m p + cell m p.length k := by
  unfold cst
  rw [cstG_snoc, Nat.zero_add]
theorem cell_bd {m : List L} (h : maR m) (i : Nat) (k : Int) : 0 ≤ cell m i k ∧ cell m i k ≤ 10000000 := by
  unfold cell
  cases hi : m[i]? with
  | none => simp
  | some r =>
    simp only [Option.bind_some]
    cases hk : r[k.toNat]? with
    | none => simp
    | some x => exact (h.r r (List.mem_of_getElem? hi)).2 x (List.mem_of_getElem? hk)
theorem cstG_bd {m : List L} (h : maR m) : ∀ (p : L) (i : Nat), 0 ≤ cstG m i p ∧ cstG m i p ≤ 10000000 * p.length
  | [], i => by simp [cstG]
  | k :: p, i => by
    have h1 := cell_bd h i k
    have h2 := cstG_bd h p (i + 1)
    rw [cstG, List.length_cons]
    omega
theorem cst_bd {m : List L} (h : maR m) (p : L) : 0 ≤ cst m p ∧ cst m p ≤ 10000000 * p.length := cstG_bd h p 0
theorem cell_get {m : List L} {i k : Nat} (hi : i < m.length) (hk : k < m[i].length) : cell m i (k : Int) = m[i][k] := by
  unfold cell
  rw [List.getElem?_eq_getElem hi]
  simp only [Option.bind_some, Int.toNat_natCast, List.getElem?_eq_getElem hk, Option.getD_some]
abbrev GS := Option (List L × Int × Nat × Nat)
abbrev GF (m : List L) : AV := .fn 87 [] [.vp [.vs (m.map eL)] 0 0, .ptr 0 1 0 0, .ptr 1 1 0 0, .ptr 2 1 0 0]
def Jg (m : List L) : GS → List HEnt
  | none => [⟨2, 2, .rows 147 1 [GF m]⟩, ⟨1, 1, .rows 3 1 [I 0]⟩, ⟨0, 0, .rows 22 1 [.nilslice]⟩]
  | some (l, c, id, g) => [⟨id, g, .rows 23 1 (l.map eL)⟩, ⟨2, 2, .rows 147 1 [GF m]⟩, ⟨1, 1, .rows 3 1 [I c]⟩, ⟨0, 0, .rows 22 1 [.slice id 1 0 l.length]⟩]
theorem Jg_inj (m : List L) : ∀ (x y : GS), Jg m x = Jg m y → x = y
  | none, none, _ => rfl
  | none, some (l, c, id, g), h => by simp [Jg] at h
  | some (l, c, id, g), none, h => by simp [Jg] at h
  | some (l, c, id, g), some (l', c', id', g'), h => by
    simp only [Jg, List.cons.injEq, HEnt.mk.injEq, ABlk.rows.injEq, AV.int.injEq, AV.slice.injEq, true_and, and_true] at h
    obtain ⟨⟨h1, h2, h3⟩, h4, h5⟩ := h
    rw [h1, h2, h4, map_inj eL_inj _ _ h3]
def gok (N : Nat) : GS → Prop
  | none => 3 ≤ N
  | some (l, c, id, g) => 3 ≤ N ∧ (3 ≤ id ∧ id < N) ∧ (3 ≤ g ∧ g < N) ∧ 0 < l.length ∧ l.length ≤ 100000
def stepG (m : List L) : GS × Nat → L → GS × Nat
  | (none, N), p => (some ([p], cst m p, N, N), N + 1)
  | (some (l, c, id, g), N), p => if cst m p < c then (some ([p], cst m p, N, N), N + 1) else if cst m p = c then (some (l ++ [p], c, N, g), N + 1) else (some (l, c, id, g), N)
def gF (m : List L) (q : GS × Nat) (l : List L) : GS × Nat := l.foldl (stepG m) q
theorem gF_app (m : List L) (q : GS × Nat) (a b : List L) : gF m q (a ++ b) = gF m (gF m q a) b := List.foldl_append
/-- how many there may be -/
def gle (m : List L) (k : Nat) : GS → Prop
  | none => True
  | some (l, _) => l.length ≤ k
theorem gF_ok {m : List L} : ∀ (l : List L) (q : GS × Nat) (k : Nat), gok q.2 q.1 → gle m k q.1 → k + l.length ≤ 100000 → gok (gF m q l).2 (gF m q l).1 ∧ gle m (k + l.length) (gF m q l).1 ∧ q.2 ≤ (gF m q l).2
  | [], q, k, h1, h2, h3 => ⟨h1, h2, Nat.le_refl _⟩
  | p :: l, (x, N), k, h1, h2, h3 => by
    simp only [List.length_cons] at h3
    have key : gok (stepG m (x, N) p).2 (stepG m (x, N) p).1 ∧ gle m (k + 1) (stepG m (x, N) p).1 ∧ N ≤ (stepG m (x, N) p).2 := by
      cases x with
      | none =>
        have h1 : 3 ≤ N := h1
        refine ⟨?_, ?_, ?_⟩
        · show 3 ≤ N + 1 ∧ (3 ≤ N ∧ N < N + 1) ∧ (3 ≤ N ∧ N < N + 1) ∧ 0 < 1 ∧ 1 ≤ 100000
          omega
        · show 1 ≤ k + 1
          omega
        · show N ≤ N + 1
          omega
      | some y =>
        obtain ⟨l', c, id, g⟩ := y
        have h1 : 3 ≤ N ∧ (3 ≤ id ∧ id < N) ∧ (3 ≤ g ∧ g < N) ∧ 0 < l'.length ∧ l'.length ≤ 100000 := h1
        have h2 : l'.length ≤ k := h2
        rw [stepG]
        split
        · refine ⟨?_, ?_, by simp⟩
          · show 3 ≤ N + 1 ∧ (3 ≤ N ∧ N < N + 1) ∧ (3 ≤ N ∧ N < N + 1) ∧ 0 < 1 ∧ 1 ≤ 100000
            omega
          · show 1 ≤ k + 1
            omega
        · split
          · refine ⟨?_, ?_, by simp⟩
            · show 3 ≤ N + 1 ∧ (3 ≤ N ∧ N < N + 1) ∧ (3 ≤ g ∧ g < N + 1) ∧ 0 < (l' ++ [p]).length ∧ (l' ++ [p]).length ≤ 100000
              simp only [List.length_append, List.length_cons, List.length_nil]
              omega
            · show (l' ++ [p]).length ≤ k + 1
              simp only [List.length_append, List.length_cons, List.length_nil]
              omega
          · refine ⟨h1, ?_, Nat.le_refl _⟩
            show l'.length ≤ k + 1
            omega
    obtain ⟨a1, a2, a3⟩ := key
    obtain ⟨b1, b2, b3⟩ := gF_ok l (stepG m (x, N) p) (k + 1) a1 a2 (by omega)
    refine ⟨b1, ?_, Nat.le_trans a3 b3⟩
    have e : k + 1 + l.length = k + (p :: l).length := by simp only [List.length_cons]; omega
    rw [← e]; exact b2
theorem Low_g {m : List L} {x : GS} {N : Nat} (h : gok N x) : Low N (Jg m x) := by
  have hm : ∀ φ, subs φ (m.map eL) = m.map eL := fun φ => free_L φ m
  intro e he
  cases x with
  | none =>
    have h : 3 ≤ N := h
    simp only [Jg, List.mem_cons, List.not_mem_nil, or_false] at he
    rcases he with rfl | rfl | rfl
    · exact ⟨⟨by simp only; omega, by simp only; omega⟩, fun φ hφ => by simp only [ABlk.sub, subs, sub1, hm, hφ 0 (by omega), hφ 1 (by omega), hφ 2 (by omega)]⟩
    · exact ⟨⟨by simp only; omega, by simp only; omega⟩, fun φ hφ => rfl⟩
    · exact ⟨⟨by simp only; omega, by simp only; omega⟩, fun φ hφ => rfl⟩
  | some y =>
    obtain ⟨l, c, id, g⟩ := y
    have h : 3 ≤ N ∧ (3 ≤ id ∧ id < N) ∧ (3 ≤ g ∧ g < N) ∧ 0 < l.length ∧ l.length ≤ 100000 := h
    simp only [Jg, List.mem_cons, List.not_mem_nil, or_false] at he
    rcases he with rfl | rfl | rfl | rfl
    · exact ⟨⟨by simp only; omega, by simp only; omega⟩, fun φ hφ => by simp only [ABlk.sub, free_L]⟩
    · exact ⟨⟨by simp only; omega, by simp only; omega⟩, fun φ hφ => by simp only [ABlk.sub, subs, sub1, hm, hφ 0 (by omega), hφ 1 (by omega), hφ 2 (by omega)]⟩
    · exact ⟨⟨by simp only; omega, by simp only; omega⟩, fun φ hφ => rfl⟩
    · exact ⟨⟨by simp only; omega, by simp only; omega⟩, fun φ hφ => by simp only [ABlk.sub, subs, sub1, hφ id (by omega)]⟩
end Wa
open Go Go.Proofs Eng
set_option maxRecDepth 100000
set_option linter.unusedSimpArgs false
set_option linter.unusedVariables false
namespace Wa
abbrev caps (m : List L) : List AV := [.vp [.vs (m.map eL)] 0 0, .ptr 0 1 0 0, .ptr 1 1 0 0, .ptr 2 1 0 0]
def glt : GS → Prop
  | none => True
  | some (l, _) => l.length < 100000
theorem l_grow0 (m : List L) (p : L) (x : GS) (N : Nat) (hp : p.length = m.length) (hm6 : 0 < m.length ∧ m.length ≤ 6) (hx : gok N x) (hl : glt x) :
    LOk P 87 ([.vs (p.map eI), I (cst m p)] ++ caps m) (Jg m x) N (.tup []) (Jg m (stepG m (x, N) p).1) (stepG m (x, N) p).2 := by
  have yc := x_CloneI p (by simp only [eq_iff_iff, iff_true]; exact ⟨fun e => by rw [e] at hp; simp at hp; omega, by omega⟩)
  have e1 : ((p.length : Int) = (m.length : Int)) = True := by simp [hp]
  have hfm := fun φ => free_L φ m
  have hfp := fun φ => free_I φ p
  refine c87.lok (Cor.post (Cor.run (addC_good g_CloneI (noC_good _)) (noHx_good _) hm ?_))
  generalize hcc : cst m p = cc at *
  have o1 : (1 ≤ maxLen) = True := mx (by omega)
  cases x with
  | none =>
    have hx : 3 ≤ N := hx
    obtain ⟨M, rfl⟩ : ∃ M, N = M + 3 := ⟨N - 3, by omega⟩
    simp only [stepG, hcc]
    simp +contextual -implicitDefEqProofs (maxSteps := 2000000) only [bg_eq, a87, List.length_map, e1, yc, FinL, Jg, rs_nil, rs_t, rs_f, ag_nils, ag_sl, ag_vs, ag_str, ag_ptr, ag_nilp, ag_vp, ag_fun, o1, Nat.add_assoc, ruH, ruB, Int.reduceLT, Int.reduceLE, Int.reduceAdd, Int.reduceSub, Int.reduceMul, Int.reduceNeg, Int.reduceToNat, Int.reduceEq, Int.reduceNe, Int.reduceTDiv, Int.reduceTMod, implies_true, putL, appN, appX, appC, Eng.Fi, reduceCtorEq, exists_eq_left', exists_eq_left, if_true, if_false, List.replicate, Nat.reduceAdd, Nat.reduceSub, Nat.reduceMul, Nat.reduceLeDiff, Nat.reduceLT, Nat.reduceEqDiff]
    refine ⟨⟨[.any, .any, .any, .any, .any, .any, .any, .any, .any, .any, .any, .any, .any, .any, .any, .any, .any, .any, .any, .any, .any, .any, .any, .any, .any, .any, .any, .any, .any, .any, .any, .any, .any, .any, .any, .any, .any, .any, .any, .any, .any, .any, .any, .any, .any, .any, .any, .any, .any, .any, .any, .any, .any, .any, .any, .any, .any, .any], Jg m (some ([p], cc, M + 3, M + 3)), M + 4⟩, Wkn.to ⟨M + 3, [(M + 5, M + 3)], [], M + 4, []⟩ rfl ?_ ?_, _, rfl, rfl, rfl, rfl⟩
    · simp [Wk.ok, idg, Wk.isK, Wk.isF, nodupN, memN, assoc]
    · simp [Wk.st, keepT, memN, Wk.fate, Wk.fate0, assoc, getE, Wk.hp, ABlk.sub, sub1, subs, Jg, hfm, hfp]
  | some y =>
    obtain ⟨l, c, id, g⟩ := y
    have hx : 3 ≤ N ∧ (3 ≤ id ∧ id < N) ∧ (3 ≤ g ∧ g < N) ∧ 0 < l.length ∧ l.length ≤ 100000 := hx
    have hl : l.length < 100000 := hl
    obtain ⟨M, rfl⟩ : ∃ M, N = M + 3 := ⟨N - 3, by omega⟩
    have l0 : ((l.length : Int) = 0) = False := eq_false (by omega)
    have i0 : (id = 0) = False := eq_false (by omega)
    have i1 : (id = 1) = False := eq_false (by omega)
    have i2 : (id = 2) = False := eq_false (by omega)
    have j2 : (2 = id) = False := eq_false (by omega)
    have j1 : (1 = id) = False := eq_false (by omega)
    have j0 : (0 = id) = False := eq_false (by omega)
    have g0 : (g = 0) = False := eq_false (by omega)
    have g1 : (g = 1) = False := eq_false (by omega)
    have g2 : (g = 2) = False := eq_false (by omega)
    have k2 : (2 = g) = False := eq_false (by omega)
    have k1 : (1 = g) = False := eq_false (by omega)
    have k0 : (0 = g) = False := eq_false (by omega)
    have hfl := fun φ => free_L φ l
    have lid : id < M + 3 := hx.2.1.2
    have lgr : g < M + 3 := hx.2.2.1.2
    have m1 : (l.length + 1 ≤ maxLen) = True := mx (by omega)
    have m2 : ((l.length + 1) * 24 ≤ 140737488355328) = True := eq_true (by omega)
    have t0 : (l.map eL).length = l.length := by simp
    by_cases c1 : cc < c
    · have c1' := eq_true c1
      simp only [stepG, hcc, if_pos c1]
      simp +contextual -implicitDefEqProofs (maxSteps := 2000000) only [bg_eq, a87, List.length_map, e1, yc, FinL, Jg, rs_nil, rs_t, rs_f, ag_nils, ag_sl, ag_vs, ag_str, ag_ptr, ag_nilp, ag_vp, ag_fun, o1, l0, c1', i0, i1, i2, j0, j1, j2, g0, g1, g2, k0, k1, k2, Nat.add_assoc, not_false_eq_true, ruH, ruB, Int.reduceLT, Int.reduceLE, Int.reduceAdd, Int.reduceSub, Int.reduceMul, Int.reduceNeg, Int.reduceToNat, Int.reduceEq, Int.reduceNe, Int.reduceTDiv, Int.reduceTMod, implies_true, putL, appN, appX, appC, Eng.Fi, reduceCtorEq, exists_eq_left', exists_eq_left, if_true, if_false, List.replicate, Nat.reduceAdd, Nat.reduceSub, Nat.reduceMul, Nat.reduceLeDiff, Nat.reduceLT, Nat.reduceEqDiff]
      refine ⟨⟨[.any, .any, .any, .any, .any, .any, .any, .any, .any, .any, .any, .any, .any, .any, .any, .any, .any, .any, .any, .any, .any, .any, .any, .any, .any, .any, .any, .any, .any, .any, .any, .any, .any, .any, .any, .any, .any, .any, .any, .any, .any, .any, .any, .any, .any, .any, .any, .any, .any, .any, .any, .any, .any, .any, .any, .any, .any, .any], Jg m (some ([p], cc, M + 3, M + 3)), M + 4⟩, Wkn.trans (Wkn.sub (hp2 := [⟨M + 5, M + 5, .rows 23 1 [.vs (p.map eI)]⟩, ⟨2, 2, .rows 147 1 [GF m]⟩, ⟨1, 1, .rows 3 1 [I cc]⟩, ⟨0, 0, .rows 22 1 [.slice (M + 5) 1 0 1]⟩]) ?_) (Wkn.to ⟨M + 3, [(M + 5, M + 3)], [], M + 4, []⟩ rfl ?_ ?_), _, rfl, rfl, rfl, rfl⟩
      · intro e he
        simp only [List.mem_cons, List.not_mem_nil, or_false] at he ⊢
        rcases he with rfl | rfl | rfl | rfl <;> simp
      · simp [Wk.ok, idg, Wk.isK, Wk.isF, nodupN, memN, assoc]
      · simp [Wk.st, keepT, memN, Wk.fate, Wk.fate0, assoc, getE, Wk.hp, ABlk.sub, sub1, subs, Jg, hfm, hfp]
    · have c1' := eq_false c1
      by_cases c2 : cc = c
      · subst c2
        simp only [stepG, hcc, if_neg c1, if_true]
        simp +contextual -implicitDefEqProofs (maxSteps := 2000000) only [bg_eq, a87, List.length_map, e1, yc, FinL, Jg, rs_nil, rs_t, rs_f, ag_nils, ag_sl, ag_vs, ag_str, ag_ptr, ag_nilp, ag_vp, ag_fun, o1, l0, c1', i0, i1, i2, j0, j1, j2, g0, g1, g2, k0, k1, k2, m1, m2, t0, Nat.add_assoc, Nat.le_refl, not_false_eq_true, ruH, ruB, Int.reduceLT, Int.reduceLE, Int.reduceAdd, Int.reduceSub, Int.reduceMul, Int.reduceNeg, Int.reduceToNat, Int.reduceEq, Int.reduceNe, Int.reduceTDiv, Int.reduceTMod, implies_true, putL, appN, appX, appC, Eng.Fi, reduceCtorEq, exists_eq_left', exists_eq_left, if_true, if_false, List.replicate, Nat.reduceAdd, Nat.reduceSub, Nat.reduceMul, Nat.reduceLeDiff, Nat.reduceLT, Nat.reduceEqDiff]
        refine ⟨⟨[.any, .any, .any, .any, .any, .any, .any, .any, .any, .any, .any, .any, .any, .any, .any, .any, .any, .any, .any, .any, .any, .any, .any, .any, .any, .any, .any, .any, .any, .any, .any, .any, .any, .any, .any, .any, .any, .any, .any, .any, .any, .any, .any, .any, .any, .any, .any, .any, .any, .any, .any, .any, .any, .any, .any, .any, .any, .any], Jg m (some (l ++ [p], cc, M + 3, g)), M + 4⟩, Wkn.trans (Wkn.sub (hp2 := [⟨M + 3, g, .rows 23 1 (l.map eL ++ [.vs (p.map eI)])⟩, ⟨2, 2, .rows 147 1 [GF m]⟩, ⟨1, 1, .rows 3 1 [I cc]⟩, ⟨0, 0, .rows 22 1 [.slice (M + 3) 1 0 (l.length + 1)]⟩]) ?_) (Wkn.to ⟨M + 3, [(M + 3, M + 3)], [], M + 4, []⟩ rfl ?_ ?_), _, rfl, rfl, ?_, rfl⟩
        · intro e he
          simp only [List.mem_cons, List.not_mem_nil, or_false] at he ⊢
          rcases he with rfl | rfl | rfl | rfl <;> simp
        · simp [Wk.ok, idg, Wk.isK, Wk.isF, nodupN, memN, assoc, lgr, g0, g1, g2, k0, k1, k2]
        · simp [Wk.st, keepT, memN, Wk.fate, Wk.fate0, assoc, getE, Wk.hp, ABlk.sub, sub1, subs, Jg, hfm, hfp, hfl, subs_append, lgr]
        · simp [Jg]
      · have c2' := eq_false c2
        simp only [stepG, hcc, if_neg c1, if_neg c2]
        simp +contextual -implicitDefEqProofs (maxSteps := 2000000) only [bg_eq, a87, List.length_map, e1, yc, FinL, Jg, rs_nil, rs_t, rs_f, ag_nils, ag_sl, ag_vs, ag_str, ag_ptr, ag_nilp, ag_vp, ag_fun, o1, l0, c1', c2', i0, i1, i2, j0, j1, j2, g0, g1, g2, k0, k1, k2, Nat.add_assoc, not_false_eq_true, ruH, ruB, Int.reduceLT, Int.reduceLE, Int.reduceAdd, Int.reduceSub, Int.reduceMul, Int.reduceNeg, Int.reduceToNat, Int.reduceEq, Int.reduceNe, Int.reduceTDiv, Int.reduceTMod, implies_true, putL, appN, appX, appC, Eng.Fi, reduceCtorEq, exists_eq_left', exists_eq_left, if_true, if_false, List.replicate, Nat.reduceAdd, Nat.reduceSub, Nat.reduceMul, Nat.reduceLeDiff, Nat.reduceLT, Nat.reduceEqDiff]
        exact ⟨_, Wkn.rfl, _, rfl, rfl, rfl, rfl⟩
end Wa
open Go Go.Proofs Eng
set_option maxRecDepth 100000
set_option linter.unusedSimpArgs false
set_option linter.unusedVariables false
namespace Wa
theorem ge_g2 (m : List L) (x : GS) (N : Nat) (h : gok N x) : getE (Jg m x) 2 = some ⟨2, 2, .rows 147 1 [GF m]⟩ := by
  cases x with
  | none => rfl
  | some y =>
    obtain ⟨l, c, id, g⟩ := y
    have h : 3 ≤ N ∧ (3 ≤ id ∧ id < N) ∧ (3 ≤ g ∧ g < N) ∧ 0 < l.length ∧ l.length ≤ 100000 := h
    have : ¬ id = 2 := by omega
    simp [Jg, getE, this]
theorem suG : chkF Try.prog 87 10 9 = true := by kernel_rfl
def S_gl (m : List L) (p row : L) (q : Nat × GS × Nat) : AState := ⟨[.vs (p.map eI), I (cst m p), .vp [.vs (m.map eL)] 0 0, .ptr 0 1 0 0, .ptr 1 1 0 0, .ptr 2 1 0 0, .any, .any, .any, .any, .any, .any, .any, .any, .any, .any, .any, .any, .any, .any, .any, .any, .any, .any, .any, .any, .any, .any, .any, .any, .any, .any, .any, .any, .any, .any, .vs (row.map eI), I row.length, I q.1, .any, .any, .any, .any, .any, .any, .any, .any, .any, .any, .any, .any, .any, .any, .any, .any, .any, .any, .any], Jg m q.2.1, q.2.2⟩
def S_gn (m : List L) (p row : L) (k : Nat) (c : Int) (x : GS) (N : Nat) : AState := ⟨[.vs (p.map eI), I (cst m p), .vp [.vs (m.map eL)] 0 0, .ptr 0 1 0 0, .ptr 1 1 0 0, .ptr 2 1 0 0, .any, .any, .any, .any, .any, .any, .any, .any, .any, .any, .any, .any, .any, .any, .any, .any, .any, .any, .any, .any, .any, .any, .any, .any, .any, .any, .any, .any, .any, .any, .vs (row.map eI), I row.length, I k, .any, .any, .any, .any, .any, .any, .any, .any, GF m, .any, .any, .any, .any, .vs ((p ++ [(k : Int)]).map eI), .any, .any, I c, .any, .any], Jg m x, N⟩
def grR (m : List L) (f : Nat) (p : L) (x : GS) (N : Nat) : Prop := (p.length + f = m.length ∧ ∀ k ∈ p, 0 ≤ k ∧ k < m.length) ∧ gok N x ∧ ∃ j, gle m j x ∧ j + (permG m.length f p).length ≤ 100000
set_option maxHeartbeats 2000000 in
theorem l_grow1 (m : List L) (hma : maR m) (f : Nat) (hr : List AV → List HEnt → Nat → Option (AV × List HEnt × Nat)) (hhr : Hn P 87 hr)
    (hre : ∀ p x N, grR m f p x N → hr ([.vs (p.map eI), I (cst m p)] ++ caps m) (Jg m x) N = some (.tup [], Jg m (gF m (x, N) (permG m.length f p)).1, (gF m (x, N) (permG m.length f p)).2))
    (p : L) (x0 : GS) (N0 : Nat) (h0 : grR m (f + 1) p x0 N0) :
    LOk P 87 ([.vs (p.map eI), I (cst m p)] ++ caps m) (Jg m x0) N0 (.tup []) (Jg m (gF m (x0, N0) (permG m.length (f + 1) p)).1) (gF m (x0, N0) (permG m.length (f + 1) p)).2 := by
  obtain ⟨⟨hpf, hpk⟩, hg0, j0, hj0, hj1⟩ := h0
  have hn6 := hma.n
  have hpl : p.length < m.length := by omega
  have hNi : ((p.length : Int) = (m.length : Int)) = False := eq_false (by omega)
  have hrow := hma.r m[p.length] (List.getElem_mem hpl)
  have e0 : (m.map eL)[p.length]? = some (eL m[p.length]) := get_e eL m hpl
  have hcell : ∀ k : Nat, ∀ h : k < m[p.length].length, cell m p.length (k : Int) = m[p.length][k] := fun k h => cell_get hpl h
  obtain ⟨row, hrw⟩ : ∃ row, m[p.length] = row := ⟨_, rfl⟩
  have hcell : ∀ k : Nat, ∀ h : k < row.length, cell m p.length (k : Int) = row[k] := by subst hrw; exact hcell
  rw [hrw] at hrow e0
  have hc0 := cst_bd hma p
  have hgd := addH_good hhr (noHx_good P)
  refine c87.lokS suG (y := YH P (addH 87 hr noHx)) (CorS.seq (CorS.of (Cor.run (noC_good _) hgd hm ?_))) (fun G => YH_add (by decide) (YH_no _ G))
  simp +contextual -implicitDefEqProofs (maxSteps := 2000000) only [bg_eq, List.length_map, hNi, eThen_normal, ruH, ruB, Int.reduceLT, Int.reduceLE, Int.reduceAdd, Int.reduceSub, Int.reduceMul, Int.reduceNeg, Int.reduceToNat, Int.reduceEq, Int.reduceNe, Int.reduceTDiv, Int.reduceTMod, implies_true, putL, appN, appX, appC, Eng.Fi, reduceCtorEq, exists_eq_left', exists_eq_left, if_true, if_false, List.replicate, Nat.reduceAdd, Nat.reduceSub, Nat.reduceMul, Nat.reduceLeDiff, Nat.reduceLT, Nat.reduceEqDiff]
  refine CorS.seq (CorS.of (Cor.run (noC_good _) hgd hm ?_))
  simp +contextual -implicitDefEqProofs (maxSteps := 2000000) only [List.length_map, e0, eThen_normal, ruH, ruB, Int.reduceLT, Int.reduceLE, Int.reduceAdd, Int.reduceSub, Int.reduceMul, Int.reduceNeg, Int.reduceToNat, Int.reduceEq, Int.reduceNe, Int.reduceTDiv, Int.reduceTMod, implies_true, putL, appN, appX, appC, Eng.Fi, reduceCtorEq, exists_eq_left', exists_eq_left, if_true, if_false, List.replicate, Nat.reduceAdd, Nat.reduceSub, Nat.reduceMul, Nat.reduceLeDiff, Nat.reduceLT, Nat.reduceEqDiff]
  rw [permD_0] at hj1 ⊢
  generalize htot : gF m (x0, N0) (permD m.length f p 0) = tot at *
  refine CorS.block (CorS.loopC (S_gl m p row) (fun q => (q.1 ≤ m.length ∧ N0 ≤ q.2.2) ∧ gok q.2.2 q.2.1 ∧ (∃ j, gle m j q.2.1 ∧ j + (permD m.length f p q.1).length ≤ 100000) ∧ tot = gF m (q.2.1, q.2.2) (permD m.length f p q.1)) (fun q => m.length - q.1) (a := (0, x0, N0)) ?_ ⟨⟨Nat.zero_le _, Nat.le_refl _⟩, hg0, ⟨j0, hj0, hj1⟩, htot.symm⟩ (Wkn.keep [0, 1, 2, 3, 4, 5, 36, 37, 38] rfl))
  rintro ⟨k, x, N⟩ ⟨⟨hk, hNN⟩, hgk, ⟨j, hj, hjl⟩, hf⟩
  simp only at hk hNN hgk hj hjl hf
  rcases Nat.lt_or_ge k m.length with h | h
  · have hkr : k < row.length := by rw [hrow.1]; exact h
    have e1 : decide ((k : Int) < (row.length : Int)) = true := lt_t hkr
    have e2 : (row.map eI)[k]? = some (eI row[k]) := get_e eI row hkr
    have e3 : IntKind.wrap .i64 ((k : Int) + 1) = ((k + 1 : Nat) : Int) := suc_w (by omega)
    have yc := x_ContainsI p (k : Int) (by simp only [eq_iff_iff, iff_true]; omega)
    have ycl := x_ClipI p (by simp only [eq_iff_iff, iff_true]; omega)
    rw [permD_c h] at hf hjl
    have hcl := hcell k hkr
    have hcb := hrow.2 row[k] (List.getElem_mem hkr)
    have hcst := cst_snoc m p (k : Int)
    rw [hcl] at hcst
    refine CorS.seq (CorS.of (Cor.run (noC_good _) hgd hm ?_))
    simp +contextual -implicitDefEqProofs (maxSteps := 2000000) only [S_gl, e1, eThen_normal, ruH, ruB, Int.reduceLT, Int.reduceLE, Int.reduceAdd, Int.reduceSub, Int.reduceMul, Int.reduceNeg, Int.reduceToNat, Int.reduceEq, Int.reduceNe, Int.reduceTDiv, Int.reduceTMod, implies_true, putL, appN, appX, appC, Eng.Fi, reduceCtorEq, exists_eq_left', exists_eq_left, if_true, if_false, List.replicate, Nat.reduceAdd, Nat.reduceSub, Nat.reduceMul, Nat.reduceLeDiff, Nat.reduceLT, Nat.reduceEqDiff]
    refine CorS.seq (CorS.of (Cor.run (noC_good _) hgd hm ?_))
    simp +contextual -implicitDefEqProofs (maxSteps := 2000000) only [eThen_normal, ruH, ruB, Int.reduceLT, Int.reduceLE, Int.reduceAdd, Int.reduceSub, Int.reduceMul, Int.reduceNeg, Int.reduceToNat, Int.reduceEq, Int.reduceNe, Int.reduceTDiv, Int.reduceTMod, implies_true, putL, appN, appX, appC, Eng.Fi, reduceCtorEq, exists_eq_left', exists_eq_left, if_true, if_false, List.replicate, Nat.reduceAdd, Nat.reduceSub, Nat.reduceMul, Nat.reduceLeDiff, Nat.reduceLT, Nat.reduceEqDiff]
    refine CorS.seq (CorS.block (CorS.seq (CorS.of (Cor.run (noC_good _) hgd hm ?_))))
    simp +contextual -implicitDefEqProofs (maxSteps := 2000000) only [e2, eThen_normal, ruH, ruB, Int.reduceLT, Int.reduceLE, Int.reduceAdd, Int.reduceSub, Int.reduceMul, Int.reduceNeg, Int.reduceToNat, Int.reduceEq, Int.reduceNe, Int.reduceTDiv, Int.reduceTMod, implies_true, putL, appN, appX, appC, Eng.Fi, reduceCtorEq, exists_eq_left', exists_eq_left, if_true, if_false, List.replicate, Nat.reduceAdd, Nat.reduceSub, Nat.reduceMul, Nat.reduceLeDiff, Nat.reduceLT, Nat.reduceEqDiff]
    by_cases hin : (k : Int) ∈ p
    · rw [permO, if_pos hin, List.nil_append] at hf hjl
      rw [decide_eq_true hin] at yc
      refine CorS.of (Cor.run (addC_good g_ContainsI (noC_good _)) hgd hm ?_)
      simp +contextual -implicitDefEqProofs (maxSteps := 2000000) only [yc, eBlk_normal, eThen_normal, ruH, ruB, Int.reduceLT, Int.reduceLE, Int.reduceAdd, Int.reduceSub, Int.reduceMul, Int.reduceNeg, Int.reduceToNat, Int.reduceEq, Int.reduceNe, Int.reduceTDiv, Int.reduceTMod, implies_true, putL, appN, appX, appC, Eng.Fi, reduceCtorEq, exists_eq_left', exists_eq_left, if_true, if_false, List.replicate, Nat.reduceAdd, Nat.reduceSub, Nat.reduceMul, Nat.reduceLeDiff, Nat.reduceLT, Nat.reduceEqDiff]
      refine CorS.of (Cor.run (noC_good _) hgd hm ?_)
      simp +contextual -implicitDefEqProofs (maxSteps := 2000000) only [e3, eThen_normal, ruH, ruB, Int.reduceLT, Int.reduceLE, Int.reduceAdd, Int.reduceSub, Int.reduceMul, Int.reduceNeg, Int.reduceToNat, Int.reduceEq, Int.reduceNe, Int.reduceTDiv, Int.reduceTMod, implies_true, putL, appN, appX, appC, Eng.Fi, reduceCtorEq, exists_eq_left', exists_eq_left, if_true, if_false, List.replicate, Nat.reduceAdd, Nat.reduceSub, Nat.reduceMul, Nat.reduceLeDiff, Nat.reduceLT, Nat.reduceEqDiff]
      exact ⟨(k + 1, x, N), ⟨⟨h, hNN⟩, hgk, ⟨j, hj, hjl⟩, hf⟩, by simp only; omega, Wkn.keep [0, 1, 2, 3, 4, 5, 36, 37, 38] rfl⟩
    · rw [permO, if_neg hin] at hf hjl
      rw [decide_eq_false hin] at yc
      rw [List.length_append] at hjl
      have hge := ge_g2 m x N hgk
      have hw : IntKind.wrap .i64 (cst m p + row[k]) = cst m (p ++ [(k : Int)]) := by rw [hcst]; exact wrap64 (by omega) (by omega)
      have m1 : (p.length + 1 ≤ maxLen) = True := mx (by omega)
      have m2 : ((p.length + 1) * 8 ≤ 140737488355328) = True := by simp only [eq_iff_iff, iff_true]; omega
      have al : (p.map eI).all (fun v => decide (v.cells.length = 1)) = true := by simp [List.all_map, AV.cells]
      have lm : (p.map eI).length = p.length := by simp
      refine CorS.seq (CorS.of (Cor.run (addC_good g_ContainsI (noC_good _)) hgd hm ?_))
      simp +contextual -implicitDefEqProofs (maxSteps := 2000000) only [yc, eThen_normal, ruH, ruB, Int.reduceLT, Int.reduceLE, Int.reduceAdd, Int.reduceSub, Int.reduceMul, Int.reduceNeg, Int.reduceToNat, Int.reduceEq, Int.reduceNe, Int.reduceTDiv, Int.reduceTMod, implies_true, putL, appN, appX, appC, Eng.Fi, reduceCtorEq, exists_eq_left', exists_eq_left, if_true, if_false, List.replicate, Nat.reduceAdd, Nat.reduceSub, Nat.reduceMul, Nat.reduceLeDiff, Nat.reduceLT, Nat.reduceEqDiff]
      refine CorS.cond ?_
      simp +contextual -implicitDefEqProofs (maxSteps := 2000000) only [condV_t, ruH, ruB, Int.reduceLT, Int.reduceLE, Int.reduceAdd, Int.reduceSub, Int.reduceMul, Int.reduceNeg, Int.reduceToNat, Int.reduceEq, Int.reduceNe, Int.reduceTDiv, Int.reduceTMod, implies_true, putL, appN, appX, appC, Eng.Fi, reduceCtorEq, exists_eq_left', exists_eq_left, if_true, if_false, List.replicate, Nat.reduceAdd, Nat.reduceSub, Nat.reduceMul, Nat.reduceLeDiff, Nat.reduceLT, Nat.reduceEqDiff]
      refine CorS.opsD ((addC_good g_ClipI (addC_good g_ContainsI (noC_good _))) : Good P _) hgd hm rfl (by decide) ?_
      have hN3 : 3 ≤ N := by cases x with | none => exact hgk | some y => exact hgk.1
      have hN2 : memN [2] N = false := by simp [memN]; omega
      simp +contextual -implicitDefEqProofs (maxSteps := 2000000) only [List.filter_cons, List.filter_nil, ycl, hge, al, lm, m1, m2, hw, hN2, okN, ruH, ruB, Int.reduceLT, Int.reduceLE, Int.reduceAdd, Int.reduceSub, Int.reduceMul, Int.reduceNeg, Int.reduceToNat, Int.reduceEq, Int.reduceNe, Int.reduceTDiv, Int.reduceTMod, implies_true, putL, appN, appX, appC, Eng.Fi, reduceCtorEq, exists_eq_left', exists_eq_left, if_true, if_false, List.replicate, Nat.reduceAdd, Nat.reduceSub, Nat.reduceMul, Nat.reduceLeDiff, Nat.reduceLT, Nat.reduceEqDiff]
      refine ⟨S_gn m p row k (cst m (p ++ [(k : Int)])) x N, Wkn.lowle hNN (A := [⟨N, N, .rows 3 1 (p.map eI ++ [I (k : Int)])⟩]) (H := Jg m x) [N] [0, 1, 2, 3, 4, 5, 36, 37, 38, 47, 52, 55] ?_ (Low_g hgk) ?_, ?_⟩
      · simp
      · have hlo := fun t (ht : t < N) => fate_low ⟨N, [], [N], N, [0, 1, 2, 3, 4, 5, 36, 37, 38, 47, 52, 55]⟩ ([⟨N, N, .rows 3 1 (p.map eI ++ [I (k : Int)])⟩] ++ Jg m x) t ht
        have f0 := hlo 0 (by omega)
        have f1 := hlo 1 (by omega)
        have f2 := hlo 2 (by omega)
        have hpk : ∀ φ, subs φ (p.map eI ++ [I (k : Int)]) = p.map eI ++ [I (k : Int)] := fun φ => by
          have := free_I φ (p ++ [(k : Int)])
          rwa [List.map_append] at this
        have hfz : (⟨N, [], [N], N, [0, 1, 2, 3, 4, 5, 36, 37, 38, 47, 52, 55]⟩ : Wk).fate ([⟨N, N, .rows 3 1 (p.map eI ++ [I (k : Int)])⟩] ++ Jg m x) N = .froz 1 (p.map eI ++ [I (k : Int)]) := by
          simp only [Wk.fate, memN, getE, List.cons_append, List.nil_append, if_true, Nat.lt_irrefl, if_false, hpk]
        have hfm := fun φ => free_L φ m
        have hfr := fun φ => free_I φ row
        have hfp := fun φ => free_I φ p
        simp only [List.cons_append, List.nil_append] at f0 f1 f2 hfz
        simp [keepT, memN, sub1, subs, hfm, hfr, hfp, hfz, f0, f1, f2, S_gn]
        exact List.take_of_length_le (by simp)
      · obtain ⟨b1, b2, b3⟩ := gF_ok (m := m) (permG m.length f (p ++ [(k : Int)])) (x, N) j hgk hj (by omega)
        have yr := hre (p ++ [(k : Int)]) x N ⟨⟨by simp only [List.length_append, List.length_cons, List.length_nil]; omega, fun z hz => by
          rcases List.mem_append.1 hz with hz | hz
          · exact hpk z hz
          · rw [List.mem_singleton.1 hz]; omega⟩, hgk, j, hj, by omega⟩
        rw [gF_app] at hf
        generalize gF m (x, N) (permG m.length f (p ++ [(k : Int)])) = q at *
        obtain ⟨x', N'⟩ := q
        simp only at yr hf b1 b2 b3
        simp only [List.cons_append, List.nil_append] at yr
        simp +contextual -implicitDefEqProofs (maxSteps := 2000000) only [S_gn, hg_cons, hg_nil, hg_n, h_callv, callT_fn, yr, eThen_normal, eBlk_normal, okN, ruH, ruB, Int.reduceLT, Int.reduceLE, Int.reduceAdd, Int.reduceSub, Int.reduceMul, Int.reduceNeg, Int.reduceToNat, Int.reduceEq, Int.reduceNe, Int.reduceTDiv, Int.reduceTMod, implies_true, putL, appN, appX, appC, Eng.Fi, reduceCtorEq, exists_eq_left', exists_eq_left, if_true, if_false, List.replicate, Nat.reduceAdd, Nat.reduceSub, Nat.reduceMul, Nat.reduceLeDiff, Nat.reduceLT, Nat.reduceEqDiff]
        refine CorS.of (Cor.run (noC_good _) hgd hm ?_)
        simp +contextual -implicitDefEqProofs (maxSteps := 2000000) only [e3, eThen_normal, ruH, ruB, Int.reduceLT, Int.reduceLE, Int.reduceAdd, Int.reduceSub, Int.reduceMul, Int.reduceNeg, Int.reduceToNat, Int.reduceEq, Int.reduceNe, Int.reduceTDiv, Int.reduceTMod, implies_true, putL, appN, appX, appC, Eng.Fi, reduceCtorEq, exists_eq_left', exists_eq_left, if_true, if_false, List.replicate, Nat.reduceAdd, Nat.reduceSub, Nat.reduceMul, Nat.reduceLeDiff, Nat.reduceLT, Nat.reduceEqDiff]
        exact ⟨(k + 1, x', N'), ⟨⟨h, Nat.le_trans hNN b3⟩, b1, ⟨j + (permG m.length f (p ++ [(k : Int)])).length, b2, by simp only; omega⟩, hf⟩, by simp only; omega, Wkn.keep [0, 1, 2, 3, 4, 5, 36, 37, 38] rfl⟩
  · have hkr : row.length ≤ k := by rw [hrow.1]; exact h
    have e1 : decide ((k : Int) < (row.length : Int)) = false := lt_f hkr
    rw [permD_n h] at hf
    have hf : tot = (x, N) := hf
    rw [hf]
    refine CorS.seq (CorS.of (Cor.run (noC_good _) hgd hm ?_))
    simp +contextual -implicitDefEqProofs (maxSteps := 2000000) only [S_gl, e1, eThen_normal, ruH, ruB, Int.reduceLT, Int.reduceLE, Int.reduceAdd, Int.reduceSub, Int.reduceMul, Int.reduceNeg, Int.reduceToNat, Int.reduceEq, Int.reduceNe, Int.reduceTDiv, Int.reduceTMod, implies_true, putL, appN, appX, appC, Eng.Fi, reduceCtorEq, exists_eq_left', exists_eq_left, if_true, if_false, List.replicate, Nat.reduceAdd, Nat.reduceSub, Nat.reduceMul, Nat.reduceLeDiff, Nat.reduceLT, Nat.reduceEqDiff]
    refine CorS.seq (CorS.of (Cor.run (noC_good _) hgd hm ?_))
    simp +contextual -implicitDefEqProofs (maxSteps := 2000000) only [eThen_exit, eBlk_exit, FinL, ruH, ruB, Int.reduceLT, Int.reduceLE, Int.reduceAdd, Int.reduceSub, Int.reduceMul, Int.reduceNeg, Int.reduceToNat, Int.reduceEq, Int.reduceNe, Int.reduceTDiv, Int.reduceTMod, implies_true, putL, appN, appX, appC, Eng.Fi, reduceCtorEq, exists_eq_left', exists_eq_left, if_true, if_false, List.replicate, Nat.reduceAdd, Nat.reduceSub, Nat.reduceMul, Nat.reduceLeDiff, Nat.reduceLT, Nat.reduceEqDiff]
end Wa
