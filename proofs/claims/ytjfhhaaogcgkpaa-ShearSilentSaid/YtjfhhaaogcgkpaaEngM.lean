/-
  THE ENGINE, PART M: operations that make or write memory: sound.
-/
import Derived.Test.YtjfhhaaogcgkpaaEngL
namespace Eng
open Go Go.RowKit
set_option linter.unusedSimpArgs false
set_option linter.unusedVariables false

section
variable {P : Program} {G : Ghost} {M : HEnt → Prop} {fr : Nat → Prop} {w : World} {a : Act} {o : Oper} {v : AV} {vals : List AV} {r : Option Nat} {n : Nat}
  {K : Act → World → Prop} {Q : Exit → Act → World → Prop} {lk : Look}

/-- rows laid one after the other -/
theorem fill_rows {ρ : Operand → Value} (s : Nat) : ∀ {parts : List (Nat × Operand)} {k : Nat} {vals : List AV} {cells : Array Value} {pre rest : List Value},
    inOrder parts k = true → VRels G vals (parts.map fun p => ρ p.2) → (vals.all (fun v => decide (v.cells.length = s) && v.cells.all AV.sc)) = true → cells.toList = pre ++ rest → pre.length = k * s → rest.length = parts.length * s →
    ∃ cells' seg, Instr.fill (fun i => some (i * s, s)) cells (parts.map fun p => (p.1, ρ p.2)) = some cells' ∧ cells'.toList = pre ++ seg ∧ VRels G (flat vals) seg ∧ ∀ c ∈ seg, c.oneCell' = true
  | [], k, vals, cells, pre, rest, _, hv, _, hc, hp, hr => by
    simp only [List.map_nil] at hv
    have hr0 : rest = [] := by simpa using hr
    subst hr0
    cases vals with
    | nil => exact ⟨cells, [], rfl, by simpa using hc, by simp [flat, VRels], by simp⟩
    | cons v vs => simp [VRels] at hv
  | (i, x) :: parts, k, vals, cells, pre, rest, hi, hv, hall, hc, hp, hr => by
    simp only [inOrder, Bool.and_eq_true, decide_eq_true_eq] at hi
    obtain ⟨rfl, hi⟩ := hi
    cases vals with
    | nil => simp [VRels] at hv
    | cons v vs =>
      simp only [List.map_cons, VRels] at hv
      obtain ⟨c, cs, he, h1, h2⟩ := hv
      simp only [List.cons.injEq] at he
      obtain ⟨rfl, rfl⟩ := he
      simp only [List.all_cons, Bool.and_eq_true, decide_eq_true_eq] at hall
      obtain ⟨⟨hvl, hvs⟩, hall⟩ := hall
      have hag : v.sc = true ∨ ∃ cs, v = .agg cs := by
        cases v <;> first | exact .inr ⟨_, rfl⟩ | exact .inl rfl | (simp [AV.cells, AV.sc] at hvs)
      obtain ⟨hcr, hc1⟩ := h1.cells hag
      have hcl := hcr.length
      simp only [Array.length_toList] at hcl
      simp only [List.length_cons, Nat.add_mul, Nat.one_mul] at hr
      have hsz : cells.size = i * s + rest.length := by
        have := congrArg List.length hc
        simp only [Array.length_toList, List.length_append] at this
        omega
      have hfold := foldl_put (ρ x).cells.toList 0 (i * s) cells (by simp; omega)
      simp only [Nat.add_zero] at hfold
      have hnew : (((ρ x).cells.toList.zipIdx 0).foldl (fun cs (p : Value × Nat) => cs.setIfInBounds (i * s + p.2) p.1) cells).toList = (pre ++ (ρ x).cells.toList) ++ rest.drop s := by
        rw [hfold, hc]
        rw [← hp, List.take_left' rfl, List.drop_append, List.drop_eq_nil_of_le (by omega), List.nil_append, Nat.add_sub_cancel_left]
        rw [Array.length_toList, hcl, hvl, List.append_assoc]
      obtain ⟨cells', seg, e1, e2, e3, e4⟩ := fill_rows s hi h2 hall hnew (by simp only [List.length_append, Array.length_toList]; rw [hp, hcl, hvl, Nat.add_mul, Nat.one_mul]) (by simp; omega)
      refine ⟨cells', (ρ x).cells.toList ++ seg, ?_, by rw [e2, List.append_assoc], by simp only [flat]; exact hcr.append e3, fun c hc => ?_⟩
      · simp only [List.map_cons, Instr.fill]
        rw [if_neg (by simp; omega)]
        have hz : (ρ x).cells.zipIdx.foldl (fun cs x => match x with | (c, j) => cs.setIfInBounds (i * s + j) c) cells = (((ρ x).cells.toList.zipIdx 0).foldl (fun cs (p : Value × Nat) => cs.setIfInBounds (i * s + p.2) p.1) cells) := by
          rw [← Array.foldl_toList]
          simp
        rw [← hz] at e1
        exact e1
      · rcases List.mem_append.1 hc with hc | hc
        · exact hc1 c hc
        · exact e4 c hc

theorem run_bsl {t e : TypeId} {len : Nat} {parts : Array (Nat × Operand)} {i : TypeInfo} {z : Value} {ρ : Operand → Value} (ht : P.underlying t = some (.slice e)) (hi : P.info? e = some i) (hz : i.zero = some z) (hzs : z.cells.size = i.size)
    (hlen : parts.size = len) (hin : inOrder parts.toList 0 = true) (hb : len * i.size ≤ 16777216) (hs : i.size ≠ 0)
    (hv : VRels G vals (parts.toList.map fun p => ρ p.2)) (hall : (vals.all (fun v => decide (v.cells.length = i.size) && v.cells.all AV.sc)) = true) (w : World) :
    ∃ cells : Array Value, (Instr.buildSlice t len (parts.map fun (i, x) => (i, ρ x))).run P w = .ok (.slice (some ⟨w.heap.size, 0, none⟩) len len) { w with heap := w.heap.push (.cells cells e (0, 0)) } ∧
      VRels G (flat vals) cells.toList ∧ (∀ c ∈ cells.toList, c.oneCell' = true) ∧ cells.size = len * i.size := by
  have hsz : ∀ w, (Go.sizeOf e).run P w = .ok i.size w := fun w => by simp [Go.sizeOf, typeInfo, hi]
  have hzero : ∀ w, (zeroValue e).run P w = .ok z w := fun w => by simp [zeroValue, typeInfo, hi, hz]
  have hpm : (parts.map fun (x : Nat × Operand) => match x with | (i, x) => (i, ρ x)).toList = parts.toList.map fun p => (p.1, ρ p.2) := by simp
  obtain ⟨cells', seg, e1, e2, e3, e4⟩ := fill_rows (G := G) (ρ := ρ) i.size (parts := parts.toList) (k := 0) (cells := (Array.range (len * i.size)).map (fun j => (if len * i.size = 0 then #[] else z.cells)[j % (if len * i.size = 0 then #[] else z.cells).size]!)) (pre := []) (rest := ((Array.range (len * i.size)).map (fun j => (if len * i.size = 0 then #[] else z.cells)[j % (if len * i.size = 0 then #[] else z.cells).size]!)).toList)
    hin hv hall (by simp) (by simp) (by simp [hlen])
  simp only [List.nil_append] at e2
  refine ⟨cells', ?_, e2 ▸ e3, e2 ▸ e4, ?_⟩
  · unfold Instr.buildSlice
    simp only [Sem.run_bind, run_underlying ht, Result.andThen_ok, hsz, Sem.run_ite]
    rw [if_neg (by simp; omega)]
    by_cases h0 : len * i.size = 0
    · simp only [h0, if_true] at e1
      simp only [h0, if_true, Sem.run_pure, Result.andThen_ok, hpm, e1, newRow, Sem.run_bind, run_newObj]
    · simp only [h0, if_false] at e1
      simp only [h0, if_false, Sem.run_bind, hzero, Sem.run_pure, Result.andThen_ok, hpm, e1, newRow, run_newObj]
  · have hl := e3.length
    rw [← Array.length_toList, e2, hl]
    have : ∀ v ∈ vals, v.cells.length = i.size := fun v hv => by
      have := List.all_eq_true.1 hall v hv
      simp only [Bool.and_eq_true, decide_eq_true_eq] at this
      exact this.1
    rw [flat_length this]
    have := hv.length
    simp at this
    rw [← this, hlen]

theorem below_push (o : Obj) : Below w.heap.size w { w with heap := w.heap.push o } :=
  ⟨rfl, rfl, rfl, by simp, fun k hk => by show (w.heap.push o)[k]? = _; rw [Array.getElem?_push, if_neg (Nat.ne_of_lt hk)]⟩

end
end Eng
