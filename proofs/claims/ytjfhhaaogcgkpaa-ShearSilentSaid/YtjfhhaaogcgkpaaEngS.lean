/-
  THE ENGINE, PART S: a region whose order is drawn comes to what its operations come to one after the other in the order of the text, if operations without an order between them do not touch the same slots and blocks.
-/
import Derived.Test.YtjfhhaaogcgkpaaEngR
namespace Eng
open Go Go.RowKit
set_option linter.unusedSimpArgs false
set_option linter.unusedVariables false

def edges (o : Oper) : List Nat := o.after.toList.filterMap fun e => if Region.binds .any e then some e.on else none

/-- which operations come surely before, as bits -/
def mask1 (acc : List Nat) (o : Oper) : Nat := (edges o).foldl (fun s i => s ||| (2 ^ i ||| acc.getD i 0)) 0
def masks : List Oper → List Nat → List Nat
  | [], acc => acc
  | o :: os, acc => masks os (acc ++ [mask1 acc o])

theorem mask1_bit {acc : List Nat} {o : Oper} {i : Nat} (h : (mask1 acc o).testBit i = true) : ∃ e ∈ edges o, i = e ∨ (acc.getD e 0).testBit i = true := by
  unfold mask1 at h
  have key : ∀ (l : List Nat) (s : Nat), (l.foldl (fun s i => s ||| (2 ^ i ||| acc.getD i 0)) s).testBit i = true → s.testBit i = true ∨ ∃ e ∈ l, i = e ∨ (acc.getD e 0).testBit i = true := by
    intro l
    induction l with
    | nil => intro s h; exact .inl h
    | cons e l ih =>
      intro s h
      rcases ih _ h with h | ⟨e', he', h⟩
      · simp only [Nat.testBit_or, Bool.or_eq_true] at h
        rcases h with h | h | h
        · exact .inl h
        · rw [Nat.testBit_two_pow] at h
          simp only [decide_eq_true_eq] at h
          exact .inr ⟨e, by simp, .inl h.symm⟩
        · exact .inr ⟨e, by simp, .inr h⟩
      · exact .inr ⟨e', by simp [he'], h⟩
  rcases key _ _ h with h | h
  · simp at h
  · exact h

/-- whatever is closed under the edges is closed under 'surely before' -/
theorem masks_closed {S : Nat → Prop} : ∀ {os : List Oper} {acc : List Nat} {all : List Oper}, (∀ k, os[k]? = all[acc.length + k]?) → (∀ (k : Nat) (o : Oper), all[k]? = some o → S k → ∀ e ∈ edges o, S e) →
    (∀ j i, (acc.getD j 0).testBit i = true → S j → S i) → ∀ j i, ((masks os acc).getD j 0).testBit i = true → S j → S i
  | [], acc, all, _, _, h => h
  | o :: os, acc, all, hal, hS, h => by
    have ho : all[acc.length]? = some o := by have := hal 0; simp at this; exact this.symm
    refine masks_closed (all := all) (os := os) (acc := acc ++ [mask1 acc o]) (fun k => ?_) hS fun j i hb hj => ?_
    · have := hal (k + 1)
      simp only [List.getElem?_cons_succ] at this
      rw [this]; simp only [List.length_append, List.length_singleton]; congr 1; omega
    · rw [List.getD_eq_getElem?_getD, List.getElem?_append] at hb
      split at hb
      · exact h j i (by rw [List.getD_eq_getElem?_getD]; exact hb) hj
      · rename_i hge
        by_cases hj0 : j = acc.length
        · subst hj0
          simp at hb
          obtain ⟨e, he, hi⟩ := mask1_bit hb
          have hSe := hS _ o ho hj e he
          rcases hi with rfl | hi
          · exact hSe
          · exact h e i hi hSe
        · have : j - acc.length ≠ 0 := by omega
          obtain ⟨m, hm⟩ := Nat.exists_eq_succ_of_ne_zero this
          rw [hm] at hb
          simp at hb

def slotsR (o : AOper) : List Nat := o.xs.filterMap (fun | .t n => some n | .c _ => none) ++ (match o.guard with | some (g, _) => [g] | none => [])

def sIndep (x y : AOper) : Bool :=
  (match x.dst with | some d => !(slotsR y).contains d && y.dst != some d | none => true) && (match y.dst with | some d => !(slotsR x).contains d | none => true)

def AOp.reads : AOp → Bool
  | .load .. | .call _ | .callv | .store .. | .app .. => true
  | _ => false

def relevant (x y : AOp) : Bool := (x.isEff && (y.isEff || y.reads)) || (y.isEff && x.reads)

def wG : Eff → Option Nat
  | .no => none
  | .new e => some e.grp
  | .set _ g _ => some g
  | .ext _ g _ => some g

abbrev FP := List Nat × Option Nat

def fpO (o : AOper) (s : AState) : FP :=
  ((tids o.op (evs s.tm o.xs)).filterMap fun t => (getE s.hp t).map (·.grp),
   if o.op.isEff then (effOp (getE s.hp) s.next o.op (evs s.tm o.xs)).bind fun p => wG p.2 else none)

def indep (x y : FP) : Bool :=
  (match x.2 with | some g => !y.1.contains g && y.2 != some g | none => true) && (match y.2 with | some g => !x.1.contains g | none => true)

def runL (cs : Ctx) : List AOper → AState → List FP → Option (AState × List FP)
  | [], s, log => some (s, log)
  | o :: os, s, log => (step cs o s).bind fun s' => runL cs os s' (log ++ [fpO o s])

def pairsOf (ms : List Nat) (aops : List AOper) : List (Nat × Nat) :=
  (List.range aops.length).flatMap fun j => (List.range j).filterMap fun i =>
    if (ms.getD j 0).testBit i then none
    else match aops[i]?, aops[j]? with
      | some x, some y => if relevant x.op y.op then some (i, j) else none
      | _, _ => none

def runD (cs : Ctx) (aops : List AOper) (pairs : List (Nat × Nat)) (s : AState) : Option AState :=
  match pairs with
  | [] => run cs aops s
  | ps => (runL cs aops s []).bind fun p => if ps.all (fun (i, j) => indep (p.2.getD i ([], none)) (p.2.getD j ([], none))) then some p.1 else none

def okD (ops : List Oper) (ms : List Nat) (aops : List AOper) : Bool :=
  (List.range ops.length).all fun j => (match ops[j]? with | some o => (edges o).all (· < j) | none => true) &&
    (List.range j).all fun i => (ms.getD j 0).testBit i || (match aops[i]?, aops[j]? with | some x, some y => sIndep x y | _, _ => true)

/-! ### what is there when some operations have run -/
section
variable (aops : List AOper) (st : Nat → AState) (v : Nat → AV) (f : Nat → Eff)

def dstOf (k : Nat) : Option Nat := (aops[k]?).bind (·.dst)

def tmS (S : Nat → Bool) : Nat → List AV
  | 0 => (st 0).tm
  | k + 1 => if S k then (match dstOf aops k with | some d => setT (tmS S k) d (v k) | none => tmS S k) else tmS S k

def actG (e : Eff) (g : Nat) (l : List HEnt) : List HEnt :=
  match e with
  | .no => l
  | .new x => if x.grp = g then [x] else l
  | .set t g' k => if g' = g then [⟨t, g', k⟩] else l
  | .ext t g' x => if g' = g then l.filter (·.id = t) ++ [x] else l

def hS (S : Nat → Bool) (g : Nat) : Nat → List HEnt
  | 0 => (st 0).hp.filter (·.grp = g)
  | k + 1 => if S k then actG (f k) g (hS S g k) else hS S g k

theorem actG_other {e : Eff} {g : Nat} (h : wG e ≠ some g) (l : List HEnt) : actG e g l = l := by
  cases e <;> simp only [actG, wG] at * <;> first | rfl | (rw [if_neg (fun x => h (by rw [x]))])

theorem tmS_len (S : Nat → Bool) (k : Nat) : (tmS aops st v S k).length = (st 0).tm.length := by
  induction k with
  | zero => rfl
  | succ k ih =>
    simp only [tmS]
    split
    · split
      · rw [setT_eq, List.length_set]; exact ih
      · exact ih
    · exact ih

theorem tmS_get {S S' : Nat → Bool} {x : Nat} {k : Nat} (h : ∀ j, j < k → S j ≠ S' j → dstOf aops j ≠ some x) : getT (tmS aops st v S k) x = getT (tmS aops st v S' k) x := by
  induction k with
  | zero => rfl
  | succ k ih =>
    have ih := ih fun j hj => h j (by omega)
    have hl := tmS_len aops st v S k
    have hl' := tmS_len aops st v S' k
    simp only [tmS]
    by_cases hx : dstOf aops k = some x
    · have hs : S k = S' k := Decidable.byContradiction fun e => h k (by omega) e hx
      rw [hs, hx]
      split
      · simp only [setT_eq, getT_eq, List.getD_eq_getElem?_getD, List.getElem?_set, hl, hl', if_true]
      · exact ih
    · have skip : ∀ (T : List AV), getT (match dstOf aops k with | some d => setT T d (v k) | none => T) x = getT T x := by
        intro T
        cases hd : dstOf aops k with
        | none => rfl
        | some d =>
          have : d ≠ x := fun e => hx (by rw [hd, e])
          simp only [setT_eq, getT_eq, List.getD_eq_getElem?_getD, List.getElem?_set, this, if_false]
      cases S k <;> cases S' k <;> simp only [Bool.false_eq_true, if_false, if_true, skip] <;> exact ih

theorem tmS_ins {S : Nat → Bool} {i : Nat} (hi : S i = false) {k : Nat} (hk : i < k) (h : ∀ j, i < j → j < k → S j = true → ∀ d, dstOf aops i = some d → dstOf aops j ≠ some d) :
    tmS aops st v (fun j => S j || decide (j = i)) k = (match dstOf aops i with | some d => setT (tmS aops st v S k) d (v i) | none => tmS aops st v S k) := by
  have same : ∀ m, m ≤ i → tmS aops st v (fun j => S j || decide (j = i)) m = tmS aops st v S m := by
    intro m
    induction m with
    | zero => intro _; rfl
    | succ m ih =>
      intro hm
      have : m ≠ i := by omega
      simp only [tmS, ih (by omega), this, decide_false, Bool.or_false]
  induction k with
  | zero => omega
  | succ k ih =>
    by_cases hki : k = i
    · subst hki
      simp only [tmS, same k (Nat.le_refl _), decide_true, Bool.or_true, if_true, hi, Bool.false_eq_true, if_false]
    · have hlt : i < k := by omega
      have ih := ih hlt fun j h1 h2 => h j h1 (by omega)
      simp only [tmS, hki, decide_false, Bool.or_false, ih]
      cases hS : S k with
      | false => simp
      | true =>
        simp only [if_true]
        cases hd : dstOf aops i with
        | none => rfl
        | some d =>
          cases hd' : dstOf aops k with
          | none => rfl
          | some d' =>
            have : d ≠ d' := fun e => h k hlt (by omega) hS d hd (by rw [hd', e])
            simp only [setT_eq]
            rw [List.set_comm _ _ this]

theorem hS_get {S S' : Nat → Bool} {g : Nat} {k : Nat} (h : ∀ j, j < k → S j ≠ S' j → wG (f j) ≠ some g) : hS st f S g k = hS st f S' g k := by
  induction k with
  | zero => rfl
  | succ k ih =>
    have ih := ih fun j hj => h j (by omega)
    simp only [hS, ih]
    by_cases hx : wG (f k) = some g
    · have hs : S k = S' k := Decidable.byContradiction fun e => h k (by omega) e hx
      rw [hs]
    · simp only [actG_other hx, ite_self]

theorem hS_from {S : Nat → Bool} {g : Nat} {i k : Nat} (hik : i ≤ k) (h : ∀ j, i ≤ j → j < k → S j = true → wG (f j) ≠ some g) : hS st f S g k = hS st f S g i := by
  induction k with
  | zero => have : i = 0 := by omega
            rw [this]
  | succ k ih =>
    by_cases hki : i = k + 1
    · rw [hki]
    · have ih := ih (by omega) fun j h1 h2 => h j h1 (by omega)
      simp only [hS]
      split
      · rename_i hs
        rw [actG_other (h k (by omega) (by omega) hs)]; exact ih
      · exact ih

end
end Eng
