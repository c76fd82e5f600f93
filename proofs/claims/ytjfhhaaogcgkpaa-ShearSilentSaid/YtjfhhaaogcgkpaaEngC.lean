/-
  THE ENGINE, PART C: operations that only compute ('POp'): what they yield of abstract values, how they come out of the model's operations, and that the model yields the same.
-/
import Derived.Test.YtjfhhaaogcgkpaaEngB
import Derived.Laws.StructEq
import Derived.ChangeKeysEq
import Derived.Laws.Build
namespace Eng
open Go
set_option linter.unusedSimpArgs false
set_option linter.unusedVariables false

/-! leaves of a type that is compared -/
inductive LK where
  | i | b | s

def leafEq : LK → Value → Value → Option Bool
  | .i, .int k a, .int k' c => if k = k' then some (decide (a = c)) else none
  | .b, .bool a, .bool c => some (decide (a = c))
  | .s, .string a, .string c => some (decide (a = c))
  | _, _, _ => none

def eqL : List LK → List Value → List Value → Option Bool
  | [], [], [] => some true
  | k :: ks, c :: cs, d :: ds => (leafEq k c d).bind fun x => (eqL ks cs ds).map fun y => x && y
  | _, _, _ => none

def leavesF (g : TypeId → Option (List LK)) : List Field → Nat → Option (List LK)
  | [], _ => some []
  | f :: fs, off =>
    if f.name = "_" ∨ f.offset ≠ off then none
    else (g f.type).bind fun l => (leavesF g fs (off + l.length)).map fun m => l ++ m

def rep (l : List LK) : Nat → List LK
  | 0 => []
  | n + 1 => l ++ rep l n

def tyAgg (P : Program) (t : TypeId) : Option (Bool × Nat) :=
  match P.underlying t, P.info? t with
  | some d, some i => some (match d with | .struct _ | .array _ _ => true | _ => false, i.size)
  | _, _ => none

def leaves (P : Program) : Nat → TypeId → Option (List LK)
  | 0, _ => none
  | d + 1, t =>
    match P.underlying t, tyAgg P t with
    | some (.int _), some (_, 1) => some [.i]
    | some .bool, some (_, 1) => some [.b]
    | some .string, some (_, 1) => some [.s]
    | some (.struct fs), some (_, n) => if P.stoodInHeld t then none else (leavesF (leaves P d) fs.toList 0).bind fun l => if l.length = n then some l else none
    | some (.array k e), some (_, n) => (leaves P d e).bind fun l => if P.cellsOf e = l.length ∧ (rep l k).length = n then some (rep l k) else none
    | _, _ => none

theorem run_isAgg' {P : Program} {t : TypeId} {ag : Bool} {n : Nat} (h : tyAgg P t = some (ag, n)) (w : World) : (isAgg t).run P w = .ok ag w := by
  unfold tyAgg at h
  cases hd : P.underlying t with
  | none => simp [hd] at h
  | some d =>
    cases hi : P.info? t with
    | none => simp [hd, hi] at h
    | some i =>
      simp only [hd, hi, Option.some.injEq, Prod.mk.injEq] at h
      obtain ⟨h1, _⟩ := h
      subst h1
      cases d <;> simp [isAgg, run_underlying hd]

theorem run_sizeOf' {P : Program} {t : TypeId} {ag : Bool} {n : Nat} (h : tyAgg P t = some (ag, n)) (w : World) : (Go.sizeOf t).run P w = .ok n w := by
  unfold tyAgg at h
  cases hd : P.underlying t with
  | none => simp [hd] at h
  | some d =>
    cases hi : P.info? t with
    | none => simp [hd, hi] at h
    | some i =>
      simp only [hd, hi, Option.some.injEq, Prod.mk.injEq] at h
      simp [Go.sizeOf, typeInfo, hi, h.2]

theorem tyAgg_info {P : Program} {t : TypeId} {ag : Bool} {n : Nat} (h : tyAgg P t = some (ag, n)) : ∃ i, P.info? t = some i ∧ i.size = n := by
  unfold tyAgg at h
  cases hd : P.underlying t with
  | none => simp [hd] at h
  | some d =>
    cases hi : P.info? t with
    | none => simp [hd, hi] at h
    | some i =>
      simp only [hd, hi, Option.some.injEq, Prod.mk.injEq] at h
      exact ⟨i, rfl, h.2⟩

theorem tyAgg_cellsOf {P : Program} {t : TypeId} {ag : Bool} {n : Nat} (h : tyAgg P t = some (ag, n)) : P.cellsOf t = n := by
  obtain ⟨i, h1, h2⟩ := tyAgg_info h
  simp [Program.cellsOf, h1, h2]

theorem eqL_length : ∀ {ks : List LK} {cs ds : List Value} {r : Bool}, eqL ks cs ds = some r → cs.length = ks.length ∧ ds.length = ks.length
  | [], [], [], _, _ => by simp
  | k :: ks, c :: cs, d :: ds, r, h => by
    simp only [eqL, Option.bind_eq_some_iff, Option.map_eq_some_iff] at h
    obtain ⟨x, _, y, h2, _⟩ := h
    obtain ⟨h3, h4⟩ := eqL_length h2
    simp [h3, h4]
  | [], _ :: _, _, _, h => by simp [eqL] at h
  | [], [], _ :: _, _, h => by simp [eqL] at h
  | _ :: _, [], _, _, h => by simp [eqL] at h
  | _ :: _, _ :: _, [], _, h => by simp [eqL] at h

theorem eqL_append : ∀ {ks ls : List LK} {cs ds : List Value} {r : Bool}, eqL (ks ++ ls) cs ds = some r →
    ∃ x y, eqL ks (cs.take ks.length) (ds.take ks.length) = some x ∧ eqL ls (cs.drop ks.length) (ds.drop ks.length) = some y ∧ r = (x && y)
  | [], ls, cs, ds, r, h => ⟨true, r, by simp [eqL], by simpa using h, by simp⟩
  | k :: ks, ls, [], _, _, h => by simp [eqL] at h
  | k :: ks, ls, c :: cs, [], _, h => by simp [eqL] at h
  | k :: ks, ls, c :: cs, d :: ds, r, h => by
    simp only [List.cons_append, eqL, Option.bind_eq_some_iff, Option.map_eq_some_iff] at h
    obtain ⟨x, h1, y, h2, rfl⟩ := h
    obtain ⟨x', y', h3, h4, rfl⟩ := eqL_append h2
    refine ⟨x && x', y', ?_, by simpa using h4, by simp [Bool.and_assoc]⟩
    simp [eqL, h1, h3]

theorem leaves_len {P : Program} : ∀ {d : Nat} {t : TypeId} {l : List LK}, leaves P d t = some l → ∃ ag, tyAgg P t = some (ag, l.length)
  | 0, _, _, h => by simp [leaves] at h
  | d + 1, t, l, h => by
    simp only [leaves] at h
    split at h
    · rename_i h2; cases h; exact ⟨_, h2⟩
    · rename_i h2; cases h; exact ⟨_, h2⟩
    · rename_i h2; cases h; exact ⟨_, h2⟩
    · rename_i ag n _ h2
      split at h
      · cases h
      · simp only [Option.bind_eq_some_iff] at h
        obtain ⟨l', _, h3⟩ := h
        split at h3
        · rename_i e; cases h3; exact ⟨_, e ▸ h2⟩
        · cases h3
    · rename_i ag n _ h2
      simp only [Option.bind_eq_some_iff] at h
      obtain ⟨l', _, h3⟩ := h
      split at h3
      · rename_i e; cases h3; exact ⟨_, e.2 ▸ h2⟩
      · cases h3
    · cases h

/-- one value of type t out of its cells -/
def partOf (ag : Bool) (cs : List Value) : Value := if ag then .agg cs.toArray else cs.headD undef

theorem run_part' {P : Program} {t : TypeId} {ag : Bool} {n : Nat} (h : tyAgg P t = some (ag, n)) (hn : ag = false → n = 1) (xs : List Value) (off : Nat) (hl : off + n ≤ xs.length) (w : World) :
    (part t xs.toArray off).run P w = .ok (partOf ag ((xs.drop off).take n)) w := by
  unfold part
  simp only [Sem.run_bind, run_isAgg' h, Result.andThen_ok, Sem.run_ite]
  cases ag with
  | true =>
    simp only [if_true, run_sizeOf' h, Result.andThen_ok, Sem.run_pure, partOf]
    congr 2
    simp [List.extract_eq_take_drop]
  | false =>
    have := hn rfl
    subst this
    have hlt : off < xs.length := by omega
    simp only [Bool.false_eq_true, if_false, partOf, List.getElem?_toArray, List.getElem?_eq_getElem hlt]
    rw [List.drop_eq_getElem_cons hlt]
    rfl

theorem bytes_eq (x y : ByteArray) : (x.toList == y.toList) = decide (x = y) := by
  rw [Bool.eq_iff_iff]
  simp only [beq_iff_eq, decide_eq_true_eq, ByteArray.toList_eq]
  constructor
  · intro h
    obtain ⟨⟨x⟩⟩ := x
    obtain ⟨⟨y⟩⟩ := y
    simp at h
    rw [h]
  · rintro rfl; rfl

theorem equalIn_leaves {P : Program} (w : World) (m : Nat) : ∀ (d : Nat) (t : TypeId) (l : List LK) (ag : Bool), leaves P d t = some l → tyAgg P t = some (ag, l.length) →
    (ag = false → l.length = 1) ∧
    ∀ (cs ds : List Value) (r : Bool), eqL l cs ds = some r → (Op.equalIn (d + m) t (partOf ag cs) (partOf ag ds)).run P w = .ok r w
  | 0, _, _, _, h, _ => by simp [leaves] at h
  | d + 1, t, l, ag, h, hag => by
    have hd : d + 1 + m = (d + m) + 1 := by omega
    rw [hd]
    -- a leaf
    have leaf : ∀ (k : LK) (desc : TypeDesc), P.underlying t = some desc → (match desc with | .struct _ | .array _ _ => true | _ => false) = false → l = [k] →
        (∀ a b r, leafEq k a b = some r → (Op.equalIn (d + m + 1) t a b).run P w = .ok r w) →
        (ag = false → l.length = 1) ∧ ∀ (cs ds : List Value) (r : Bool), eqL l cs ds = some r → (Op.equalIn (d + m + 1) t (partOf ag cs) (partOf ag ds)).run P w = .ok r w := by
      intro k desc hdesc hna hl heq
      subst hl
      have hagf : ag = false := by
        unfold tyAgg at hag
        rw [hdesc] at hag
        cases hi : P.info? t with
        | none => simp [hi] at hag
        | some i => simp only [hi, Option.some.injEq, Prod.mk.injEq] at hag; rw [← hag.1]; exact hna
      subst hagf
      refine ⟨fun _ => rfl, fun cs ds r he => ?_⟩
      obtain ⟨h1, h2⟩ := eqL_length he
      obtain ⟨c, rfl⟩ := List.length_eq_one_iff.1 h1
      obtain ⟨d', rfl⟩ := List.length_eq_one_iff.1 h2
      simp only [eqL, Option.map_some, Option.bind_eq_some_iff, Option.some.injEq] at he
      obtain ⟨x, hx, rfl⟩ := he
      simpa [partOf] using heq c d' x hx
    simp only [leaves] at h
    split at h
    · rename_i k hu h2
      cases h
      refine leaf .i _ hu rfl rfl fun a b r hr => ?_
      cases a <;> cases b <;> simp [leafEq] at hr
      obtain ⟨rfl, rfl⟩ := hr
      rw [run_equalIn_int w _ t _ _ _ _ hu]; rfl
    · rename_i hu h2
      cases h
      refine leaf .b _ hu rfl rfl fun a b r hr => ?_
      cases a <;> cases b <;> simp [leafEq] at hr
      subst hr
      rw [run_equalIn_bool' w _ t _ _ hu]
      congr 1
    · rename_i hu h2
      cases h
      refine leaf .s _ hu rfl rfl fun a b r hr => ?_
      cases a <;> cases b <;> simp [leafEq] at hr
      subst hr
      rw [run_equalIn_string w _ t _ _ hu, bytes_eq]
    · rename_i fs _ n hu h2
      split at h
      · cases h
      rename_i hst
      simp only [Option.bind_eq_some_iff] at h
      obtain ⟨l', hf, h3⟩ := h
      split at h3
      · cases h3
        rename_i hn
        have hagt : ag = true := by
          unfold tyAgg at hag
          rw [hu] at hag
          cases hi : P.info? t with
          | none => simp [hi] at hag
          | some i => simp only [hi, Option.some.injEq, Prod.mk.injEq] at hag; exact hag.1.symm
        subst hagt
        refine ⟨fun e => (by cases e), fun cs ds r he => ?_⟩
        simp only [partOf, if_true]
        have hfo : P.fieldsOf t = fs := by simp [Program.fieldsOf, hu]
        rw [run_equalIn_struct w (d + m) t cs.toArray ds.toArray (by rw [hfo]; exact hu) (by simpa using hst), hfo]
        -- the fields, from off on
        have go : ∀ (gs : List Field) (off : Nat) (l : List LK), leavesF (leaves P d) gs off = some l → ∀ (r : Bool), eqL l (cs.drop off) (ds.drop off) = some r →
            (Op.eqFields (d + m) cs.toArray ds.toArray gs).run P w = .ok r w := by
          intro gs
          induction gs with
          | nil =>
            intro off l hl r he
            simp only [leavesF, Option.some.injEq] at hl
            subst hl
            cases hc : cs.drop off <;> cases hd : ds.drop off <;> simp [hc, hd, eqL] at he
            subst he
            simp [Op.eqFields]
          | cons f gs ih =>
            intro off l hl r he
            simp only [leavesF] at hl
            split at hl
            · cases hl
            rename_i hno
            simp only [not_or, Decidable.not_not] at hno
            obtain ⟨hname, hoff⟩ := hno
            simp only [Option.bind_eq_some_iff, Option.map_eq_some_iff] at hl
            obtain ⟨lf, h4, lg, h5, rfl⟩ := hl
            obtain ⟨x, y, e1, e2, rfl⟩ := eqL_append he
            obtain ⟨agf, hagf⟩ := leaves_len h4
            obtain ⟨hone, hrun⟩ := equalIn_leaves w m d f.type lf agf h4 hagf
            have hl1 := (eqL_length he).1
            have hl2 := (eqL_length he).2
            simp only [List.length_drop, List.length_append] at hl1 hl2
            by_cases hz : lf.length = 0
            · have : lf = [] := List.eq_nil_of_length_eq_zero hz
              subst this
              have hagt : agf = true := by
                cases agf with
                | true => rfl
                | false => have := hone rfl; simp at this
              subst hagt
              simp only [eqL, List.length_nil, List.take_zero, Option.some.injEq] at e1
              subst e1
              have r1 := hrun [] [] true rfl
              simp only [partOf, if_true] at r1
              have p1 : ∀ (zs : List Value), (part f.type zs.toArray f.offset).run P w = .ok (.agg #[]) w := fun zs => by
                unfold part
                simp only [Sem.run_bind, run_isAgg' hagf, Result.andThen_ok, if_true, run_sizeOf' hagf, Sem.run_pure]
                simp
              simp only [Op.eqFields, hname, ne_eq, not_false_eq_true, if_true, Sem.run_bind, p1, Result.andThen_ok, r1, Bool.not_true, Bool.false_eq_true, if_false, Bool.true_and]
              exact ih (off + 0) lg (by simpa using h5) y (by simpa using e2)
            · have p1 := run_part' hagf hone cs f.offset (by omega) w
              have p2 := run_part' hagf hone ds f.offset (by omega) w
              rw [hoff] at p1 p2
              have r1 := hrun _ _ _ e1
              simp only [Op.eqFields, hname, ne_eq, not_false_eq_true, if_true, Sem.run_bind, hoff, p1, p2, Result.andThen_ok, r1]
              cases x
              · simp
              · simp only [Bool.not_true, Bool.false_eq_true, if_false, Bool.true_and]
                exact ih _ lg h5 y (by simpa [List.drop_drop] using e2)
        exact go fs.toList 0 _ hf r (by simpa using he)
      · cases h3
    · rename_i k e _ n hu h2
      simp only [Option.bind_eq_some_iff] at h
      obtain ⟨l', hf, h3⟩ := h
      split at h3
      · cases h3
        rename_i hn
        obtain ⟨hce, hn⟩ := hn
        have hagt : ag = true := by
          unfold tyAgg at hag
          rw [hu] at hag
          cases hi : P.info? t with
          | none => simp [hi] at hag
          | some i => simp only [hi, Option.some.injEq, Prod.mk.injEq] at hag; exact hag.1.symm
        subst hagt
        refine ⟨fun e => (by cases e), fun cs ds r he => ?_⟩
        simp only [partOf, if_true]
        obtain ⟨age, hage⟩ := leaves_len hf
        obtain ⟨i, hi, _⟩ := tyAgg_info hage
        obtain ⟨hone, hrun⟩ := equalIn_leaves w m d e l' age hf hage
        rw [run_equalIn_array w (d + m) cs.toArray ds.toArray hu hi, hce]
        have go : ∀ (k j : Nat) (r : Bool), eqL (rep l' k) (cs.drop (j * l'.length)) (ds.drop (j * l'.length)) = some r →
            (Op.eqItems (d + m) e l'.length cs.toArray ds.toArray (List.range' j k)).run P w = .ok r w := by
          intro k
          induction k with
          | zero =>
            intro j r he
            simp only [rep] at he
            cases hc : cs.drop (j * l'.length) <;> cases hd : ds.drop (j * l'.length) <;> simp [hc, hd, eqL] at he
            subst he
            simp [Op.eqItems]
          | succ k ih =>
            intro j r he
            simp only [rep] at he
            obtain ⟨x, y, e1, e2, rfl⟩ := eqL_append he
            have hl1 := (eqL_length he).1
            have hl2 := (eqL_length he).2
            simp only [List.length_drop, List.length_append] at hl1 hl2
            have r1 := hrun _ _ _ e1
            simp only [List.range'_succ, Op.eqItems, Sem.run_bind]
            by_cases hz : l'.length = 0
            · have : l' = [] := List.eq_nil_of_length_eq_zero hz
              subst this
              have hagt : age = true := by
                cases age with
                | true => rfl
                | false => have := hone rfl; simp at this
              subst hagt
              have p1 : ∀ (zs : List Value) (o : Nat), (part e zs.toArray o).run P w = .ok (.agg #[]) w := fun zs o => by
                unfold part
                simp only [Sem.run_bind, run_isAgg' hage, Result.andThen_ok, if_true, run_sizeOf' hage, Sem.run_pure]
                simp
              simp only [eqL, List.length_nil, List.take_zero, Option.some.injEq] at e1
              subst e1
              have r1 := hrun [] [] true rfl
              simp only [partOf, if_true] at r1
              simp only [p1, Result.andThen_ok, r1, Bool.not_true, Bool.false_eq_true, if_false, Bool.true_and]
              exact ih (j + 1) y (by simpa using e2)
            · have hge : j * l'.length + l'.length ≤ cs.length ∧ j * l'.length + l'.length ≤ ds.length := by omega
              have p1 := run_part' hage hone cs (j * l'.length) hge.1 w
              have p2 := run_part' hage hone ds (j * l'.length) hge.2 w
              simp only [p1, p2, Result.andThen_ok, r1]
              cases x
              · simp
              · simp only [Bool.not_true, Bool.false_eq_true, if_false, Bool.true_and]
                exact ih (j + 1) y (by rw [Nat.add_mul, Nat.one_mul]; simpa [List.drop_drop] using e2)
        have := go k 0 r (by simpa using he)
        rwa [← List.range_eq_range'] at this
      · cases h3
    · cases h

end Eng
