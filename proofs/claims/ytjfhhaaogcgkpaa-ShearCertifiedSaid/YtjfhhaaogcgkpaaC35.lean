import Derived.Test.YtjfhhaaogcgkpaaEngS9
import Derived.Test.YtjfhhaaogcgkpaaC34
import Derived.Test.YtjfhhaaogcgkpaaEngS8
open Go Go.Proofs Eng
set_option maxRecDepth 100000
set_option linter.unusedSimpArgs false
set_option linter.unusedVariables false

namespace Sh

/-! a copy that is written -/
theorem l37 (l : List Gt) (h0 : l ≠ []) (hl : l.length ≤ 1000) : LOk P 37 [.vs (l.map eG)] [] 0 (.slice 0 3 0 (l.map eG).length) [⟨0, 0, .rows 117 3 (l.map eG)⟩] 1 := by
  cases l with
  | nil => exact absurd rfl h0
  | cons g l =>
    simp only [List.length_cons] at hl
    have m1 : (l.length + 1 ≤ maxLen) = True := by simp only [eq_iff_iff, iff_true]; exact Nat.le_trans hl (by decide)
    have m2 : ((l.length + 1) * 24 ≤ 140737488355328) = True := by simp only [eq_iff_iff, iff_true]; omega
    have m3 : ((g :: l).map eG).all (fun v => decide (v.cells.length = 3)) = true := by simp [List.all_map, AV.cells]
    refine c37.lok (Cor.post (Cor.run (noC_good _) (noHx_good _) hm ?_))
    simp +contextual -implicitDefEqProofs (maxSteps := 2000000) only [bg_eq, a37, List.length_map, m1, m2, m3, FinL, ruB, rh_no, Int.reduceLT, Int.reduceLE, Int.reduceAdd, Int.reduceSub, Int.reduceMul, Int.reduceNeg, Int.reduceToNat, Int.reduceEq, Int.reduceNe, Int.reduceTDiv, Int.reduceTMod, implies_true, putL, appN, appX, Eng.Fi, reduceCtorEq, exists_eq_left', exists_eq_left, if_true, if_false, List.replicate, Nat.reduceAdd, Nat.reduceSub, Nat.reduceMul, Nat.reduceLeDiff, Nat.reduceLT, Nat.reduceEqDiff]
    exact ⟨⟨[.any, .any, .slice 0 3 0 (l.length + 1), .any, .any, .any], [⟨0, 0, .rows 117 3 (eG g :: l.map eG)⟩], 1⟩, (Wkn.to ⟨0, [(1, 0)], [], 1, [2]⟩ rfl rfl (by simp only [Wk.st, keepT, sub1, subs, Wk.hp, ABlk.sub, free_G]; try rfl)), _, rfl, by simp only [List.length_map, List.length_cons]; rfl, rfl, rfl⟩
def c37l : List AV → Option (List AV)
  | [.vs vals] => match decL dG vals with
    | some l => if l ≠ [] ∧ l.length ≤ 1000 then some (l.map eG) else none
    | none => none
  | _ => none
theorem o37 : LayS P 37 117 3 c37l := fun args xs h => by
  unfold c37l at h; split at h
  · split at h
    · rename_i hd
      have hd := decL_inv dG eG dG_inv hd
      subst hd
      split at h
      · rename_i hc
        cases h
        exact ⟨⟨_, l37 _ hc.1 hc.2⟩, by simp only [subs, sub1, free_G], free_G _ _⟩
      · cases h
    · cases h
  · cases h
theorem y37 (l : List Gt) (H : List HEnt) (nx : Nat) (h : (l ≠ [] ∧ l.length ≤ 1000) = True) : layHs 117 3 c37l [.vs (l.map eG)] H nx = some (.slice nx 3 0 l.length, ⟨nx, nx, .rows 117 3 (l.map eG)⟩ :: H, nx + 1) := by
  have hc : c37l [.vs (l.map eG)] = some (l.map eG) := by
    simp only [c37l, decL_map dG eG dG_e, h, if_true]
  rw [yS_h hc, List.length_map]
def c37k (args : List AV) (H : List HEnt) (nx : Nat) : Option (AV × List HEnt × Nat) := if nx ≤ 9 then layHs 117 3 c37l args H nx else none
theorem o37k : Hn P 37 c37k := fun args H nx v hp' nx' h => by
  unfold c37k at h
  split at h
  · exact o37.hn _ _ _ _ _ _ h
  · cases h
theorem y37k (l : List Gt) (H : List HEnt) (nx : Nat) (h : (l ≠ [] ∧ l.length ≤ 1000) = True) (hn : (nx ≤ 9) = True) : c37k [.vs (l.map eG)] H nx = some (.slice nx 3 0 l.length, ⟨nx, nx, .rows 117 3 (l.map eG)⟩ :: H, nx + 1) := by
  unfold c37k; simp only [hn, if_true]; exact y37 l H nx h
theorem z37k (l : List Gt) (H : List HEnt) (nx : Nat) (hn : (nx ≤ 9) = False) : c37k [.vs (l.map eG)] H nx = none := by
  unfold c37k; simp only [hn, if_false]
theorem callR_t2 {vals : List AV} {a b : Int} : callR vals (some (.tup [.int .i64 a, .int .i64 b])) = some (.tup [.int .i64 a, .int .i64 b]) := callR_flat _ _ rfl
theorem callR_c4 {vals : List AV} {a b c d e : Int} : callR vals (some (.tup [.agg [.int .i64 a, .int .i64 b, .int .i64 c, .int .i64 d], .int .i64 e])) = some (.tup [.agg [.int .i64 a, .int .i64 b, .int .i64 c, .int .i64 d], .int .i64 e]) := callR_flat _ _ rfl
/-- the first n gates turned -/
def mvF (f : Gt → Gt) (l : List Gt) (n : Nat) : List Gt := (l.take n).map f ++ l.drop n
theorem mvF_len (f : Gt → Gt) (l : List Gt) (n : Nat) (h : n ≤ l.length) : (mvF f l n).length = l.length := by simp [mvF]; omega
theorem mvF_get (f : Gt → Gt) (l : List Gt) (n : Nat) (h : n < l.length) : (mvF f l n)[n]? = some l[n] := by
  rw [mvF, List.getElem?_append_right (by simp; omega)]
  simp [Nat.min_eq_left (Nat.le_of_lt h), h]
theorem mvF_set (f : Gt → Gt) (l : List Gt) (n : Nat) (h : n < l.length) : (mvF f l n).set n (f l[n]) = mvF f l (n + 1) := by
  have e1 : l.drop n = l[n] :: l.drop (n + 1) := List.drop_eq_getElem_cons h
  have e2 : l.take (n + 1) = l.take n ++ [l[n]] := by simp
  rw [mvF, mvF, e1, e2, List.set_append]
  have e3 : ((l.take n).map f).length = n := by simp; omega
  simp only [e3, Nat.lt_irrefl, if_false, Nat.sub_self, List.set_cons_zero, List.map_append, List.map_cons, List.map_nil, List.append_assoc, List.cons_append, List.nil_append]
theorem mvF_zero (f : Gt → Gt) (l : List Gt) : mvF f l 0 = l := by simp [mvF]
theorem mvF_all (f : Gt → Gt) (l : List Gt) : mvF f l l.length = l.map f := by simp [mvF]
/-! the truth -/
def kV (g : Gt) : Option Int → Int
  | some p => p % (g.hi - g.lo + 1)
  | none => 0
def trL (l : List Gt) (ps : List Int) : List Int := l.mapIdx fun i g => g.lo + kV g ps[i]?
theorem trL_len (l : List Gt) (ps : List Int) : (trL l ps).length = l.length := by simp [trL]
theorem trL_get {l : List Gt} {ps : List Int} {n : Nat} (h : n < l.length) : (trL l ps)[n]? = some (l[n].lo + kV l[n] ps[n]?) := by
  simp [trL, h]
theorem kV_in {g : Gt} (hg : g.lo ≤ g.hi) (q : Option Int) : 0 ≤ kV g q ∧ kV g q ≤ g.hi - g.lo := by
  cases q with
  | none => simp only [kV]; omega
  | some p =>
    have h1 := Int.emod_nonneg p (show g.hi - g.lo + 1 ≠ 0 by omega)
    have h2 := Int.emod_lt_of_pos p (show 0 < g.hi - g.lo + 1 by omega)
    simp only [kV]; omega
theorem trL_Tru {l : List Gt} {ps : List Int} (h : ∀ g ∈ l, gOk g) : Tru (trL l ps) l := by
  refine ⟨trL_len l ps, fun i x g hx hg => ?_⟩
  obtain ⟨hi, rfl⟩ := List.getElem?_eq_some_iff.1 hg
  rw [trL_get hi] at hx
  cases hx
  have := h l[i] (by simp)
  have := kV_in this.2.2 ps[i]?
  omega
theorem take_1 {T : List Int} {n : Nat} {x : Int} (h : T[n]? = some x) : T.take (n + 1) = T.take n ++ [x] := by
  obtain ⟨h1, rfl⟩ := List.getElem?_eq_some_iff.1 h
  simp
end Sh
