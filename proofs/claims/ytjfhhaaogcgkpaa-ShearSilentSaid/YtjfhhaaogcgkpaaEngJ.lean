/-
  THE ENGINE, PART J: 'compP' is sound: the theorem.
-/
import Derived.Test.YtjfhhaaogcgkpaaEngI
namespace Eng
open Go
set_option linter.unusedSimpArgs false
set_option linter.unusedVariables false

section
variable {P : Program} {G : Ghost} {ρ : Operand → Value} {o : Oper} {v : AV} {vals : List AV}

theorem zero_sound {z : Value} {zs : List AV} (h : absL z.cells.toList = some zs) (G : Ghost) : VRels G zs z.cells.toList ∧ ∀ c ∈ z.cells.toList, c.oneCell' = true :=
  ⟨(absL_rel h G).1, (absL_rel h G).2.2⟩

theorem run_zero {t : TypeId} {i : TypeInfo} {z : Value} (hi : P.info? t = some i) (hz : i.zero = some z) (w : World) : (zeroValue t).run P w = .ok z w := by
  simp [zeroValue, typeInfo, hi, hz]

theorem run_mapM_places {fs : List Field} {pl : List (Nat × Nat)} (h : fplaces P fs = some pl) (w : World) :
    ((fs.toArray.mapM fun f => do pure (f.offset, ← Go.sizeOf f.type) : Sem (Array (Nat × Nat)))).run P w = .ok pl.toArray w := by
  rw [List.mapM_toArray]
  simp only [Sem.run_map, run_places h, Result.andThen_ok]

theorem s_build {t : TypeId} {parts : Array (Nat × Operand)} {i : TypeInfo} {z : Value} {zs : List AV} {ps : List (Nat × Nat)} {pl : Nat → Option (Nat × Nat)}
    (hi : P.info? t = some i) (hz : i.zero = some z) (hzs : absL z.cells.toList = some zs) (hps : partsAt pl parts.toList = some ps)
    (hrun : ∀ (parts : Array (Nat × Value)) (cells : Array Value) (w : World), Instr.fill pl z.cells parts.toList = some cells → (Instr.build t parts).run P w = .ok (.agg cells) w)
    (ho : o.op = .build t parts) (hv : VRels G vals ((parts.toList.map (·.2)).map ρ)) (he : evP (.build zs ps) vals = some v) : Yields1 P G ρ o v := by
  simp only [evP, Option.map_eq_some_iff] at he
  obtain ⟨cs', hb, rfl⟩ := he
  obtain ⟨h1, h2⟩ := zero_sound hzs G
  obtain ⟨ccs', h3, h4, h5⟩ := fill_sound (ccs := z.cells) hps (by simpa [Function.comp_def] using hv) hb h1 h2
  refine ⟨.agg ccs', ?_, fun w => ?_⟩
  · simp only [VRel]; exact ⟨ccs'.toList, h4, h5, by simp⟩
  · simp only [execOp, ho, Sem.run_bind]
    have e2 : (Array.map (fun (x : Nat × Operand) => match x with | (i, x) => (i, ρ x)) parts).toList = parts.toList.map fun p => (p.1, ρ p.2) := by simp
    rw [hrun _ ccs' w (by rw [e2]; exact h3)]
    rfl

theorem run_build_struct {t : TypeId} {i : TypeInfo} {z : Value} {fs : Array Field} {pl : List (Nat × Nat)} (hu : P.underlying t = some (.struct fs)) (hi : P.info? t = some i) (hz : i.zero = some z)
    (hp : fplaces P fs.toList = some pl) (parts : Array (Nat × Value)) (cells : Array Value) (w : World) (hf : Instr.fill (pl[·]?) z.cells parts.toList = some cells) :
    (Instr.build t parts).run P w = .ok (.agg cells) w := by
  have hm := fun w => run_mapM_places (P := P) hp w
  simp only [Array.toArray_toList] at hm
  simp only [Instr.build, Sem.run_bind, run_zero hi hz, Result.andThen_ok, run_underlying hu]
  simp only [Sem.run_bind, hm, Result.andThen_ok, List.getElem?_toArray, hf, Sem.run_pure]

theorem run_build_array {t e : TypeId} {n : Nat} {i ie : TypeInfo} {z : Value} (hu : P.underlying t = some (.array n e)) (hi : P.info? t = some i) (hz : i.zero = some z)
    (hie : P.info? e = some ie) (parts : Array (Nat × Value)) (cells : Array Value) (w : World) (hf : Instr.fill (fun k => some (k * ie.size, ie.size)) z.cells parts.toList = some cells) :
    (Instr.build t parts).run P w = .ok (.agg cells) w := by
  have hs : ∀ w, (Go.sizeOf e).run P w = .ok ie.size w := fun w => by simp [Go.sizeOf, typeInfo, hie]
  simp only [Instr.build, Sem.run_bind, run_zero hi hz, Result.andThen_ok, run_underlying hu]
  simp only [Sem.run_bind, hs, Result.andThen_ok, hf, Sem.run_pure]

theorem run_builtin {b : Builtin} {args : Array Operand} {argTypes : Array TypeId} (ho : o.op = .call { callee := .builtin b, args, argTypes }) :
    ∃ consts, ∀ w : World, (execOp ρ o).run P w = (builtin b argTypes o.type consts (args.map ρ)).run P w :=
  ⟨_, fun w => by simp only [execOp, ho, resolve, invoke, Sem.run_bind, Sem.run_pure, Result.andThen_ok]; rfl⟩

theorem s_len {t : TypeId} {x : Operand} {e : TypeId} (ht : P.underlying t = some (.slice e)) {args : Array Operand} {argTypes : Array TypeId} (ha : args.toList = [x]) (hat : argTypes[0]? = some t)
    (ho : o.op = .call { callee := .builtin .len, args, argTypes }) (hv : VRels G vals [ρ x]) (he : evP .lenS vals = some v) : Yields1 P G ρ o v := by
  obtain ⟨a, rfl, h1⟩ := one hv
  have hargs : args = #[x] := by rw [← Array.toArray_toList (xs := args), ha]
  subst hargs
  have key : ∀ n : Int, (∀ w, (Builtin.len_ argTypes o.type #[ρ x]).run P w = .ok (.int .i64 n) w) → Yields1 P G ρ o (.int .i64 n) := fun n h =>
    ⟨_, vint, fun w => by obtain ⟨c, hc⟩ := run_builtin (P := P) (ρ := ρ) ho; rw [hc]; simp [builtin, h]⟩
  cases a <;> simp only [evP, Option.some.injEq] at he <;> try (cases he; done)
  all_goals subst he
  all_goals simp only [VRel] at h1
  · exact key _ fun w => by simp [Builtin.len_, hat, run_underlying ht, h1, goInt]
  · obtain ⟨_, _, _, _, h, _⟩ := h1
    exact key _ fun w => by simp [Builtin.len_, hat, run_underlying ht, h, goInt]
  · rcases h1 with ⟨rfl, h⟩ | ⟨_, _, _, _, _, h, _⟩
    · exact key _ fun w => by simp [Builtin.len_, hat, run_underlying ht, h, goInt]
    · exact key _ fun w => by simp [Builtin.len_, hat, run_underlying ht, h, goInt]

theorem s_lenT {t : TypeId} {x : Operand} (ht : P.underlying t = some .string) {args : Array Operand} {argTypes : Array TypeId} (ha : args.toList = [x]) (hat : argTypes[0]? = some t)
    (ho : o.op = .call { callee := .builtin .len, args, argTypes }) (hv : VRels G vals [ρ x]) (he : evP .lenT vals = some v) : Yields1 P G ρ o v := by
  obtain ⟨a, rfl, h1⟩ := one hv
  have hargs : args = #[x] := by rw [← Array.toArray_toList (xs := args), ha]
  subst hargs
  cases a <;> simp only [evP, Option.some.injEq] at he <;> try (cases he; done)
  subst he
  simp only [VRel] at h1
  exact ⟨_, vint, fun w => by obtain ⟨c, hc⟩ := run_builtin (P := P) (ρ := ρ) ho; rw [hc]; simp [builtin, Builtin.len_, hat, run_underlying ht, h1, goInt]⟩

theorem s_lenC {t e : TypeId} {n : Nat} {x : Operand} (ht : P.underlying t = some (.array n e)) {args : Array Operand} {argTypes : Array TypeId} (ha : args.toList = [x]) (hat : argTypes[0]? = some t)
    (ho : o.op = .call { callee := .builtin .len, args, argTypes }) (hv : VRels G vals [ρ x]) (he : evP (.lenC n) vals = some v) : Yields1 P G ρ o v := by
  have hargs : args = #[x] := by rw [← Array.toArray_toList (xs := args), ha]
  subst hargs
  have he' : v = .int .i64 n := by
    obtain ⟨a, rfl, _⟩ := one hv
    simp only [evP, Option.some.injEq] at he
    exact he.symm
  subst he'
  exact ⟨_, vint, fun w => by obtain ⟨c, hc⟩ := run_builtin (P := P) (ρ := ρ) ho; rw [hc]; simp [builtin, Builtin.len_, hat, run_underlying ht, goInt]⟩

theorem mm_sound {isMax : Bool} : ∀ {xs : List AV} {a r : AV} {c : Value} {cs : List Value}, mmF isMax a xs = some r → VRel G a c → VRels G xs cs →
    ∃ cv, VRel G r cv ∧ ∀ w : World, (cs.foldlM (if isMax then Builtin.max2 else Builtin.min2) c).run P w = .ok cv w
  | [], a, r, c, cs, h, h1, h2 => by
    simp only [VRels] at h2
    subst h2
    cases a <;> try (simp [mmF] at h; done)
    simp only [mmF, Option.some.injEq] at h
    subst h
    exact ⟨c, h1, fun w => rfl⟩
  | x :: xs, a, r, c, cs, h, h1, h2 => by
    simp only [VRels] at h2
    obtain ⟨d, ds, rfl, h3, h4⟩ := h2
    cases a <;> try (simp [mmF] at h; done)
    rename_i k n
    cases x <;> try (simp [mmF] at h; done)
    rename_i k' m
    simp only [mmF] at h
    split at h
    · rename_i hk
      subst hk
      simp only [VRel] at h1 h3
      subst h1; subst h3
      obtain ⟨cv, h5, h6⟩ := mm_sound (c := .int k (if isMax then max n m else min n m)) h vint h4
      refine ⟨cv, h5, fun w => ?_⟩
      have e : ∀ w, ((if isMax then Builtin.max2 else Builtin.min2) (.int k n) (.int k m)).run P w = .ok (.int k (if isMax then max n m else min n m)) w := by
        intro w
        cases isMax
        · simp only [Bool.false_eq_true, if_false, Builtin.min2, Sem.run_pure]
          congr 2
          rw [Int.min_def]
          split <;> split <;> omega
        · simp only [if_true, Builtin.max2, Sem.run_pure]
          congr 2
          rw [Int.max_def]
          split <;> split <;> omega
      simp only [List.foldlM_cons, Sem.run_bind, e, Result.andThen_ok, h6]
    · cases h

theorem s_mm {isMax : Bool} {args : Array Operand} {argTypes : Array TypeId} (ho : o.op = .call { callee := .builtin (if isMax then .max else .min), args, argTypes })
    (hv : VRels G vals (args.toList.map ρ)) (he : evP (.mm isMax) vals = some v) : Yields1 P G ρ o v := by
  cases vals with
  | nil => simp [evP] at he
  | cons x xs =>
    simp only [evP] at he
    cases hl : args.toList.map ρ with
    | nil => rw [hl] at hv; simp [VRels] at hv
    | cons c cs =>
      rw [hl] at hv
      simp only [VRels] at hv
      obtain ⟨c', cs', h0, h1, h2⟩ := hv
      cases h0
      obtain ⟨cv, h3, h4⟩ := mm_sound (P := P) he h1 h2
      refine ⟨cv, h3, fun w => ?_⟩
      obtain ⟨c, hc⟩ := run_builtin (P := P) (ρ := ρ) ho
      rw [hc]
      have e := hl
      rw [← Array.toList_map] at e
      have h5 := h4 w
      cases isMax
      · simp only [Bool.false_eq_true, if_false] at h5 ⊢
        simp only [builtin, Builtin.min_, e, Sem.run_bind, h5, Result.andThen_ok, Sem.run_pure]
      · simp only [if_true] at h5 ⊢
        simp only [builtin, Builtin.max_, e, Sem.run_bind, h5, Result.andThen_ok, Sem.run_pure]

theorem compP_sound {op : Op} {pop : POp} {xs : List Operand} (h : compP P op = some (pop, xs)) (ho : o.op = op) (hv : VRels G vals (xs.map ρ)) (he : evP pop vals = some v) : Yields1 P G ρ o v := by
  unfold compP at h
  split at h
  · cases h; exact s_mov (.inl ho) hv he
  · cases h; exact s_mov (.inr ho) hv he
  · cases h; exact s_pick ho hv he
  · rename_i op t x y yt
    split at h
    · split at h
      · cases h; exact s_shf (left := true) ho hv he
      · cases h; exact s_shf (left := false) ho hv he
      · cases h; exact s_binI ho hv he
    · cases h; exact s_binS ho hv he
    · rename_i ht
      split at h
      · cases h; exact s_eqB (neg := false) ht ho hv he
      · cases h; exact s_eqB (neg := true) ht ho hv he
      · cases h
    · rename_i fs ht
      split at h
      · cases h
      · rename_i hg
        split at h
        · simp only [Option.map_eq_some_iff] at h; obtain ⟨l, hl, h⟩ := h; cases h; exact s_eqa (neg := false) ht (.inl ⟨_, rfl⟩) (by simpa using hg) hl ho hv he
        · simp only [Option.map_eq_some_iff] at h; obtain ⟨l, hl, h⟩ := h; cases h; exact s_eqa (neg := true) ht (.inl ⟨_, rfl⟩) (by simpa using hg) hl ho hv he
        · cases h
    · rename_i n e ht
      split at h
      · cases h
      · rename_i hg
        split at h
        · simp only [Option.map_eq_some_iff] at h; obtain ⟨l, hl, h⟩ := h; cases h; exact s_eqa (neg := false) ht (.inr ⟨_, _, rfl⟩) (by simpa using hg) hl ho hv he
        · simp only [Option.map_eq_some_iff] at h; obtain ⟨l, hl, h⟩ := h; cases h; exact s_eqa (neg := true) ht (.inr ⟨_, _, rfl⟩) (by simpa using hg) hl ho hv he
        · cases h
    all_goals first | (cases h; done) | skip
    all_goals
      rename_i ht
      unfold nilOp at h
      split at h
      · rename_i hy
        split at h
        · cases h; exact s_eqN (neg := false) ht rfl hy ho hv he
        · cases h; exact s_eqN (neg := true) ht rfl hy ho hv he
        · cases h
      · cases h
  · split at h
    · cases h; exact s_neg ho hv he
    · cases h; exact s_not ho hv he
    · cases h
  · split at h
    · rename_i hs hd; cases h; exact s_conv hs hd ho hv he
    · cases h
  · split at h
    · rename_i fs z hu hz
      simp only [Option.bind_eq_some_iff, Option.map_eq_some_iff] at hz h
      obtain ⟨i, hi, hz⟩ := hz
      obtain ⟨pl, hpl, zs, hzs, ps, hps, h⟩ := h
      cases h
      exact s_build hi hz hzs hps (fun parts cells w hf => run_build_struct hu hi hz hpl parts cells w hf) ho hv he
    · rename_i n e z hu hz
      simp only [Option.bind_eq_some_iff, Option.map_eq_some_iff] at hz h
      obtain ⟨i, hi, hz⟩ := hz
      obtain ⟨ie, hie, zs, hzs, ps, hps, h⟩ := h
      cases h
      exact s_build hi hz hzs hps (fun parts cells w hf => run_build_array hu hi hz hie parts cells w hf) ho hv he
    · cases h
  · cases h; exact s_mkfn ho hv he
  · split at h
    · rename_i fs hs
      simp only [Option.bind_eq_some_iff] at h
      obtain ⟨f, hf, i, hi, h⟩ := h
      split at h
      · cases h
      · rename_i hz; cases h; exact s_faddr hs hf hi hz ho hv he
    · cases h
  · split at h
    · rename_i fs hs
      simp only [Option.bind_eq_some_iff] at h
      obtain ⟨f, hf, ⟨ag, n⟩, hi, h⟩ := h
      split at h
      · cases h
      · rename_i hz; cases h; exact s_field hs hf hi (fun e => Decidable.byContradiction fun x => hz ⟨e, x⟩) ho hv he
    · cases h
  · split at h
    · rename_i e ht
      simp only [Option.map_eq_some_iff] at h
      obtain ⟨i, hi, h⟩ := h
      cases h; exact s_iaddrS ht hi ho hv he
    · rename_i n e ht
      simp only [Option.map_eq_some_iff] at h
      obtain ⟨i, hi, h⟩ := h
      cases h; exact s_iaddrA ht hi ho hv he
    · cases h
  · split at h
    · rename_i n e ht
      simp only [Option.bind_eq_some_iff] at h
      obtain ⟨⟨ag, s⟩, hi, h⟩ := h
      split at h
      · cases h
      · rename_i hz; cases h; exact s_idxA ht hi (fun e => Decidable.byContradiction fun x => hz ⟨e, x⟩) ho hv he
    · rename_i ht; cases h; exact s_idxS ht ho hv he
    · cases h
  · cases h; exact s_ext ho hv he
  · cases h; exact s_nilck ho hv he
  · split at h
    · rename_i hc; cases h; exact s_mkif hc ho hv he
    · cases h
  · split at h
    · rename_i x e ha hat
      cases h
      simp only [Option.bind_eq_some_iff] at hat
      obtain ⟨t, hat, ht⟩ := hat
      exact s_len ht ha hat ho hv he
    · rename_i x ha hat
      cases h
      simp only [Option.bind_eq_some_iff] at hat
      obtain ⟨t, hat, ht⟩ := hat
      exact s_lenT ht ha hat ho hv he
    · rename_i x n e ha hat
      cases h
      simp only [Option.bind_eq_some_iff] at hat
      obtain ⟨t, hat, ht⟩ := hat
      exact s_lenC ht ha hat ho hv he
    · cases h; exact s_mm (isMax := false) ho hv he
    · cases h; exact s_mm (isMax := true) ho hv he
    · cases h
  · cases h

end
end Eng
