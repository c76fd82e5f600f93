/-
  THE ENGINE, PART E: the model yields what the pure operations say.
-/
import Derived.Test.YtjfhhaaogcgkpaaEngD
namespace Eng
open Go
set_option linter.unusedSimpArgs false
set_option linter.unusedVariables false

/-- what a pure operation owes -/
def Yields1 (P : Program) (G : Ghost) (ρ : Operand → Value) (o : Oper) (v : AV) : Prop :=
  ∃ cv, VRel G v cv ∧ ∀ w, (execOp ρ o).run P w = .ok (.value cv) w

theorem vrels1 {G : Ghost} {x : AV} {l : List Value} (h : VRels G [x] l) : ∃ c, l = [c] ∧ VRel G x c := by
  simp only [VRels] at h
  obtain ⟨c, cs, rfl, h1, rfl⟩ := h
  exact ⟨c, rfl, h1⟩
theorem vrels2 {G : Ghost} {x y : AV} {l : List Value} (h : VRels G [x, y] l) : ∃ c d, l = [c, d] ∧ VRel G x c ∧ VRel G y d := by
  simp only [VRels] at h
  obtain ⟨c, cs, rfl, h1, d, ds, rfl, h2, rfl⟩ := h
  exact ⟨c, d, rfl, h1, h2⟩
theorem vrels3 {G : Ghost} {x y z : AV} {l : List Value} (h : VRels G [x, y, z] l) : ∃ c d e, l = [c, d, e] ∧ VRel G x c ∧ VRel G y d ∧ VRel G z e := by
  simp only [VRels] at h
  obtain ⟨c, cs, rfl, h1, d, ds, rfl, h2, e, es, rfl, h3, rfl⟩ := h
  exact ⟨c, d, e, rfl, h1, h2, h3⟩

/-- operands of one, two, three values -/
theorem map1 {ρ : Operand → Value} {xs : List Operand} {c : Value} (h : xs.map ρ = [c]) : ∃ x, xs = [x] ∧ ρ x = c := by
  cases xs with
  | nil => simp at h
  | cons x xs => cases xs with
    | nil => simp at h; exact ⟨x, rfl, h⟩
    | cons y ys => simp at h

theorem run_eqGuard_other {P : Program} (op : BinOp) (t : TypeId) (x y : Operand) (a b : Value) (hagg : ∀ xs ys, ¬ (a = .agg xs ∧ b = .agg ys)) (hn : ¬ (a = .nilIface ∧ b = .nilIface) ∨ isC y = true) (w : World) :
    (eqGuard op t x y a b).run P w = .ok () w := by
  have key : (match a, b with
      | .nilIface, .nilIface => isC y = true
      | .agg _, .agg _ => False
      | _, _ => True) → (eqGuard op t x y a b).run P w = .ok () w := by
    intro h
    cases op <;> first | rfl | skip
    all_goals
      cases a <;> cases b <;> first | rfl | (exact h.elim) | skip
      cases y <;> simp [isC] at h
      simp [eqGuard]
  apply key
  cases a <;> cases b <;> first | trivial | (exact hn.resolve_left (fun h => h ⟨rfl, rfl⟩)) | (exact hagg _ _ ⟨rfl, rfl⟩)

theorem eqL_of {G : Ghost} : ∀ {l : List LK} {as bs : List AV} {r : Bool} {cs ds : List Value}, eqAV l as bs = some r → VRels G as cs → VRels G bs ds → eqL l cs ds = some r
  | [], [], [], r, cs, ds, h, h1, h2 => by
    simp only [VRels] at h1 h2
    subst h1; subst h2
    simpa [eqAV, eqL] using h
  | k :: ks, a :: as, b :: bs, r, cs, ds, h, h1, h2 => by
    simp only [VRels] at h1 h2
    obtain ⟨c, cs, rfl, hc, hcs⟩ := h1
    obtain ⟨d, ds, rfl, hd, hds⟩ := h2
    simp only [eqAV, Option.bind_eq_some_iff, Option.map_eq_some_iff] at h
    obtain ⟨x, h3, y, h4, rfl⟩ := h
    have h5 := eqL_of h4 hcs hds
    have h6 : leafEq k c d = some x := by
      cases k <;> cases a <;> simp [leafAV] at h3 <;> cases b <;> simp [leafAV] at h3 <;> simp only [VRel] at hc hd <;> subst hc <;> subst hd <;> simpa [leafEq] using h3
    simp [eqL, h6, h5]
  | [], _ :: _, _, _, _, _, h, _, _ => by simp [eqAV] at h
  | [], [], _ :: _, _, _, _, h, _, _ => by simp [eqAV] at h
  | _ :: _, [], _, _, _, _, h, _, _ => by simp [eqAV] at h
  | _ :: _, _ :: _, [], _, _, _, h, _, _ => by simp [eqAV] at h

theorem seg_sound {P : Program} {G : Ghost} {t : TypeId} {ag : Bool} {n : Nat} (h : tyAgg P t = some (ag, n)) (hn : ag = false → n = 1) {cs : List AV} {ccs : List Value} (hr : VRels G cs ccs)
    (h1 : ∀ c ∈ ccs, c.oneCell' = true) {off : Nat} {v : AV} (hv : segV cs off n ag = some v) :
    ∃ cv, VRel G v cv ∧ ∀ w, (part t ccs.toArray off).run P w = .ok cv w := by
  have hl := hr.length
  unfold segV at hv
  cases ag with
  | true =>
    simp only [if_true] at hv
    split at hv
    · rename_i hle
      cases hv
      refine ⟨.agg ((ccs.drop off).take n).toArray, ?_, fun w => ?_⟩
      · simp only [VRel]
        exact ⟨_, (hr.drop off).take n, fun c hc => h1 c (List.mem_of_mem_drop (List.mem_of_mem_take hc)), rfl⟩
      · have := run_part' h hn ccs off (by omega) w
        simpa [partOf] using this
    · cases hv
  | false =>
    have := hn rfl
    subst this
    simp only [Bool.false_eq_true, if_false] at hv
    obtain ⟨c, h2, h3⟩ := hr.get off v hv
    obtain ⟨hlt, hc⟩ := List.getElem?_eq_some_iff.1 h2
    refine ⟨c, h3, fun w => ?_⟩
    have := run_part' h hn ccs off (by omega) w
    rw [List.drop_eq_getElem_cons hlt, hc] at this
    simpa [partOf] using this

/-- the cells of a built value -/
theorem foldl_put (v : List Value) : ∀ (j off : Nat) (cs : Array Value), off + j + v.length ≤ cs.size →
    ((v.zipIdx j).foldl (fun cs (p : Value × Nat) => cs.setIfInBounds (off + p.2) p.1) cs).toList = cs.toList.take (off + j) ++ (v ++ cs.toList.drop (off + j + v.length)) := by
  induction v with
  | nil => intro j off cs _; simp
  | cons c v ih =>
    intro j off cs h
    simp only [List.length_cons] at h
    simp only [List.zipIdx_cons, List.foldl_cons]
    rw [ih (j + 1) off _ (by simp; omega)]
    have hlt : off + j < cs.toList.length := by simp; omega
    have e1 : (cs.setIfInBounds (off + j) c).toList = cs.toList.set (off + j) c := by simp
    rw [e1, List.set_eq_take_append_cons_drop, if_pos hlt]
    generalize hA : cs.toList.take (off + j) = A
    have hAl : A.length = off + j := by rw [← hA]; simp; omega
    have e2 : (A ++ c :: cs.toList.drop (off + j + 1)).take (off + (j + 1)) = A ++ [c] := by
      rw [List.take_append, hAl, List.take_of_length_le (by omega)]
      have : off + (j + 1) - (off + j) = 1 := by omega
      rw [this]; rfl
    have e3 : (A ++ c :: cs.toList.drop (off + j + 1)).drop (off + (j + 1) + v.length) = cs.toList.drop (off + j + (v.length + 1)) := by
      rw [List.drop_append, hAl, List.drop_eq_nil_of_le (by omega), List.nil_append]
      have : off + (j + 1) + v.length - (off + j) = v.length + 1 := by omega
      rw [this, List.drop_succ_cons, List.drop_drop]
      congr 1
      omega
    rw [e2, e3]
    simp

theorem fill_sound {G : Ghost} {ρ : Operand → Value} {pl : Nat → Option (Nat × Nat)} : ∀ {parts : List (Nat × Operand)} {ps : List (Nat × Nat)} {vals cs cs' : List AV} {ccs : Array Value},
    partsAt pl parts = some ps → VRels G vals (parts.map fun p => ρ p.2) → buildF cs ps vals = some cs' → VRels G cs ccs.toList → (∀ c ∈ ccs.toList, c.oneCell' = true) →
    ∃ ccs', Instr.fill pl ccs (parts.map fun p => (p.1, ρ p.2)) = some ccs' ∧ VRels G cs' ccs'.toList ∧ ∀ c ∈ ccs'.toList, c.oneCell' = true
  | [], ps, vals, cs, cs', ccs, hp, hv, hb, hr, h1 => by
    simp only [partsAt, Option.some.injEq] at hp
    subst hp
    simp only [List.map_nil] at hv
    cases vals with
    | nil => simp only [buildF, Option.some.injEq] at hb; subst hb; exact ⟨ccs, rfl, hr, h1⟩
    | cons v vs => simp [VRels] at hv
  | (i, x) :: parts, ps, vals, cs, cs', ccs, hp, hv, hb, hr, h1 => by
    simp only [partsAt, Option.bind_eq_some_iff, Option.map_eq_some_iff] at hp
    obtain ⟨⟨off, size⟩, hpl, ps', hps', rfl⟩ := hp
    cases vals with
    | nil => simp [VRels] at hv
    | cons v vs =>
      simp only [List.map_cons, VRels] at hv
      obtain ⟨c, rest, he, hc, hrest⟩ := hv
      simp only [List.cons.injEq] at he
      obtain ⟨rfl, rfl⟩ := he
      simp only [buildF] at hb
      split at hb
      · rename_i hcond
        obtain ⟨hsz, hle, hsc⟩ := hcond
        have hag : v.sc = true ∨ ∃ cs, v = .agg cs := by
          cases v <;> first | exact .inr ⟨_, rfl⟩ | exact .inl rfl | (simp [AV.cells, AV.sc] at hsc)
        obtain ⟨hcr, hc1⟩ := hc.cells hag
        have hcl := hcr.length
        have hl := hr.length
        simp only [Array.length_toList] at hcl hl
        have hfold := foldl_put (ρ x).cells.toList 0 off ccs (by simp; omega)
        simp only [Nat.add_zero] at hfold
        have hnew : VRels G (putL cs off v.cells) (((ρ x).cells.toList.zipIdx 0).foldl (fun cs (p : Value × Nat) => cs.setIfInBounds (off + p.2) p.1) ccs).toList := by
          rw [hfold]
          simp only [putL, Array.length_toList, hcl]
          exact (hr.take off).append (hcr.append (hr.drop _))
        have h1' : ∀ c ∈ (((ρ x).cells.toList.zipIdx 0).foldl (fun cs (p : Value × Nat) => cs.setIfInBounds (off + p.2) p.1) ccs).toList, c.oneCell' = true := by
          rw [hfold]
          intro c hc
          rcases List.mem_append.1 hc with hc | hc
          · exact h1 c (List.mem_of_mem_take hc)
          · rcases List.mem_append.1 hc with hc | hc
            · exact hc1 c hc
            · exact h1 c (List.mem_of_mem_drop hc)
        obtain ⟨ccs', h2, h3, h4⟩ := fill_sound hps' hrest hb hnew h1'
        refine ⟨ccs', ?_, h3, h4⟩
        simp only [List.map_cons, Instr.fill, hpl]
        have hcond : ((ρ x).cells.size ≠ size || off + (ρ x).cells.size > ccs.size) = false := by
          simp; omega
        simp only [ne_eq] at hcond
        rw [if_neg (by simp; omega)]
        have hz : (ρ x).cells.zipIdx.foldl (fun cs x => match x with | (c, j) => cs.setIfInBounds (off + j) c) ccs = (((ρ x).cells.toList.zipIdx 0).foldl (fun cs (p : Value × Nat) => cs.setIfInBounds (off + p.2) p.1) ccs) := by
          rw [← Array.foldl_toList]
          simp
        rw [← hz] at h2
        exact h2
      · cases hb

theorem run_places {P : Program} : ∀ {fs : List Field} {pl : List (Nat × Nat)}, fplaces P fs = some pl → ∀ w, ((fs.mapM fun f => do pure (f.offset, ← Go.sizeOf f.type) : Sem (List (Nat × Nat)))).run P w = .ok pl w
  | [], pl, h, w => by simp only [fplaces, Option.some.injEq] at h; subst h; rfl
  | f :: fs, pl, h, w => by
    simp only [fplaces, Option.bind_eq_some_iff, Option.map_eq_some_iff] at h
    obtain ⟨i, hi, r, hr, rfl⟩ := h
    have := run_places hr w
    have hs : (Go.sizeOf f.type).run P w = .ok i.size w := by simp [Go.sizeOf, typeInfo, hi]
    simp only [List.mapM_cons, Sem.run_bind, hs, Result.andThen_ok, Sem.run_pure, this]

end Eng
