/-
  THE ENGINE, PART H: 'compP' is sound (second half).
-/
import Derived.Test.YtjfhhaaogcgkpaaEngF
namespace Eng
open Go
set_option linter.unusedSimpArgs false
set_option linter.unusedVariables false

theorem VRows.get {G : Ghost} : ∀ {vals : List AV} {b o esz : Nat}, VRows G vals b o esz → ∀ (i : Nat) (v : AV), vals[i]? = some v →
    ∃ cv, VRel G v cv ∧ v.cells.length = esz ∧ cv.cells.size = esz ∧ (∀ c ∈ cv.cells.toList, c.oneCell' = true) ∧ RoCells G b (o + i * esz) cv.cells.toList
  | [], _, _, _, _, i, v, hv => by simp at hv
  | x :: vs, b, o, esz, h, i, v, hv => by
    simp only [VRows] at h
    obtain ⟨h1, h2⟩ := h
    cases i with
    | zero => simp at hv; subst hv; simpa using h1
    | succ i =>
      simp at hv
      obtain ⟨cv, h3, h4, h5, h6, h7⟩ := VRows.get h2 i v hv
      refine ⟨cv, h3, h4, h5, h6, ?_⟩
      have : o + esz + i * esz = o + (i + 1) * esz := by rw [Nat.add_mul]; omega
      rwa [this] at h7

section
variable {P : Program} {G : Ghost} {ρ : Operand → Value} {o : Oper} {v : AV} {vals : List AV}

theorem s_neg {t : TypeId} {x : Operand} (ho : o.op = .unOp .neg t x) (hv : VRels G vals [ρ x]) (he : evP .neg vals = some v) : Yields1 P G ρ o v := by
  obtain ⟨a, rfl, h1⟩ := one hv
  cases a <;> simp [evP] at he
  subst he
  simp only [VRel] at h1
  exact ⟨_, vint, fun w => by simp [execOp, ho, h1, Op.unary, Op.intArith]⟩

theorem s_not {t : TypeId} {x : Operand} (ho : o.op = .unOp .not t x) (hv : VRels G vals [ρ x]) (he : evP .notB vals = some v) : Yields1 P G ρ o v := by
  obtain ⟨a, rfl, h1⟩ := one hv
  cases a <;> simp [evP] at he
  subst he
  simp only [VRel] at h1
  exact ⟨_, vbool, fun w => by simp [execOp, ho, h1, Op.unary]⟩

theorem s_conv {src dst : TypeId} {d : TypeDesc} {k : IntKind} {x : Operand} (hs : P.underlying src = some d) (hd : P.underlying dst = some (.int k)) (ho : o.op = .convert src dst x) (hv : VRels G vals [ρ x]) (he : evP (.conv k) vals = some v) : Yields1 P G ρ o v := by
  obtain ⟨a, rfl, h1⟩ := one hv
  cases a <;> simp [evP] at he
  subst he
  simp only [VRel] at h1
  refine ⟨_, vint, fun w => ?_⟩
  simp only [execOp, ho, h1, convert, Sem.run_bind, run_underlying hs, run_underlying hd, Result.andThen_ok]
  cases d <;> simp [Conv.intToInt]

theorem s_mkfn {f : FuncId} {first captured : Array Operand} (ho : o.op = .makeFunc (.func f) first captured) (hv : VRels G vals ((first.toList ++ captured.toList).map ρ)) (he : evP (.mkfn f first.size) vals = some v) : Yields1 P G ρ o v := by
  simp only [evP, Option.some.injEq] at he
  subst he
  rw [List.map_append] at hv
  refine ⟨.func (.func f) (first.map ρ) (captured.map ρ), ?_, fun w => by simp [execOp, ho, Instr.makeFunc]⟩
  simp only [VRel]
  refine ⟨first.toList.map ρ, captured.toList.map ρ, ?_, ?_, ?_⟩
  · have h := hv.take first.size
    have e : (first.toList.map ρ ++ captured.toList.map ρ).take first.size = first.toList.map ρ := List.take_left' (by simp)
    rwa [e] at h
  · have h := hv.drop first.size
    have e : (first.toList.map ρ ++ captured.toList.map ρ).drop first.size = captured.toList.map ρ := List.drop_left' (by simp)
    rwa [e] at h
  · rw [← Array.toList_map, ← Array.toList_map]

theorem s_faddr {s : TypeId} {x : Operand} {k : Nat} {fs : Array Field} {f : Field} {i : TypeInfo} (hs : P.underlying s = some (.struct fs)) (hf : fs[k]? = some f) (hi : P.info? f.type = some i) (hz : i.size ≠ 0)
    (ho : o.op = .fieldAddr s x k) (hv : VRels G vals [ρ x]) (he : evP (.faddr f.offset) vals = some v) : Yields1 P G ρ o v := by
  obtain ⟨a, rfl, h1⟩ := one hv
  have hsz : ∀ w, (Go.sizeOf f.type).run P w = .ok i.size w := fun w => by simp [Go.sizeOf, typeInfo, hi]
  have key : ∀ (b off : Nat), ρ x = .pointer (some ⟨b, off, none⟩) → ∀ w, (execOp ρ o).run P w = .ok (.value (.pointer (some ⟨b, off + f.offset, none⟩))) w := by
    intro b off hx w
    simp only [execOp, ho, hx, Instr.fieldAt, Sem.run_bind, run_underlying hs, Result.andThen_ok, hf, Instr.sureAddr, Sem.run_pure, fieldPlace, hsz, Sem.run_ite, if_neg hz]
    simp [Addr.add_lit]
  cases a <;> simp [evP] at he
  · subst he
    simp only [VRel] at h1
    obtain ⟨l, h2, h3, h4⟩ := h1
    refine ⟨_, ?_, key _ _ h4⟩
    simp only [VRel]
    exact ⟨l, h2, h3, by rw [Nat.add_assoc]⟩
  · subst he
    simp only [VRel] at h1
    obtain ⟨b, off, esz, h2, h3⟩ := h1
    refine ⟨_, ?_, key _ _ h3⟩
    simp only [VRel]
    exact ⟨b, off, esz, h2, by rw [Nat.add_assoc]⟩

theorem s_field {s : TypeId} {x : Operand} {k n : Nat} {ag : Bool} {fs : Array Field} {f : Field} (hs : P.underlying s = some (.struct fs)) (hf : fs[k]? = some f) (hi : tyAgg P f.type = some (ag, n)) (hn : ag = false → n = 1)
    (ho : o.op = .field s x k) (hv : VRels G vals [ρ x]) (he : evP (.field f.offset n ag) vals = some v) : Yields1 P G ρ o v := by
  obtain ⟨a, rfl, h1⟩ := one hv
  cases a <;> simp only [evP] at he <;> try (cases he; done)
  simp only [VRel] at h1
  obtain ⟨ccs, h2, h3, h4⟩ := h1
  obtain ⟨cv, h5, h6⟩ := seg_sound hi hn h2 h3 he
  refine ⟨cv, h5, fun w => ?_⟩
  simp only [execOp, ho, h4, Instr.field, Sem.run_bind, run_underlying hs, Result.andThen_ok, hf, asAgg, Sem.run_pure, h6]

theorem run_asInt {k : IntKind} {n : Int} (w : World) : (asIntOf (.int k n)).run P w = .ok (k, n) w := rfl

theorem s_iaddrS {t e : TypeId} {x ix : Operand} {i : TypeInfo} (ht : P.underlying t = some (.slice e)) (hi : P.info? e = some i) (ho : o.op = .indexAddr t x ix) (hv : VRels G vals [ρ x, ρ ix])
    (he : evP (.iaddrS i.size) vals = some v) : Yields1 P G ρ o v := by
  obtain ⟨a, b, rfl, h1, h2⟩ := two hv
  clear hv
  have hsz : ∀ w, (Go.sizeOf e).run P w = .ok i.size w := fun w => by simp [Go.sizeOf, typeInfo, hi]
  have key : ∀ (b off len cap : Nat) (k : IntKind) (m : Int), ρ x = .slice (some ⟨b, off, none⟩) len cap → ρ ix = .int k m → 0 ≤ m → m.toNat < len →
      ∀ w, (execOp ρ o).run P w = .ok (.value (.pointer (some ⟨b, off + m.toNat * i.size, none⟩))) w := by
    intro b off len cap k m hx hix h0 hlt w
    have hm : m < len := by omega
    simp [execOp, ho, hx, hix, Instr.indexAt, run_asInt, run_underlying ht, hsz, h0, hm, Addr.add_lit]
  simp only [evP] at he
  cases b <;> try (cases a <;> simp [iaddrSV] at he; done)
  rename_i k m
  simp only [VRel] at h2
  cases a <;> simp only [iaddrSV] at he <;> try (cases he; done)
  · split at he
    · rename_i t' esz i0 n hc
      obtain ⟨hc1, hc2, hc3⟩ := hc
      cases he
      simp only [VRel] at h1
      obtain ⟨l, cap, h3, h4, h5, h6, _⟩ := h1
      refine ⟨_, ?_, key _ _ _ _ _ _ h5 h2 hc2 hc3⟩
      simp only [VRel]
      refine ⟨l, h3, h4, ?_⟩
      rw [← hc1, Nat.add_mul, Nat.add_zero]
    · cases he
  · rename_i vs
    split at he
    · rename_i h0
      cases hg : vs[m.toNat]? with
      | none => simp [hg] at he
      | some u =>
        simp only [hg, Option.bind_some] at he
        split at he
        · rename_i hlen
          cases he
          have hlt : m.toNat < vs.length := (List.getElem?_eq_some_iff.1 hg).1
          simp only [VRel] at h1
          rcases h1 with ⟨rfl, _⟩ | ⟨b, off, esz, cap, h3, h4, h5⟩
          · simp at hlt
          · obtain ⟨cv, _, h6, _⟩ := h3.get _ _ hg
            refine ⟨_, ?_, key _ _ _ _ _ _ h4 h2 h0 hlt⟩
            simp only [VRel]
            refine ⟨b, off, esz, h3, ?_⟩
            rw [← h6, hlen]; rfl
        · cases he
    · cases he

theorem s_iaddrA {t e : TypeId} {n : Nat} {x ix : Operand} {i : TypeInfo} (ht : P.underlying t = some (.array n e)) (hi : P.info? e = some i) (ho : o.op = .indexAddr t x ix) (hv : VRels G vals [ρ x, ρ ix])
    (he : evP (.iaddrA n i.size) vals = some v) : Yields1 P G ρ o v := by
  obtain ⟨a, b, rfl, h1, h2⟩ := two hv
  clear hv
  have hsz : ∀ w, (Go.sizeOf e).run P w = .ok i.size w := fun w => by simp [Go.sizeOf, typeInfo, hi]
  have key : ∀ (b off : Nat) (k : IntKind) (m : Int), ρ x = .pointer (some ⟨b, off, none⟩) → ρ ix = .int k m → 0 ≤ m → m.toNat < n →
      ∀ w, (execOp ρ o).run P w = .ok (.value (.pointer (some ⟨b, off + m.toNat * i.size, none⟩))) w := by
    intro b off k m hx hix h0 hlt w
    have hm : m < n := by omega
    simp [execOp, ho, hx, hix, Instr.indexAt, Instr.sureAddr, run_asInt, run_underlying ht, hsz, h0, hm, Addr.add_lit]
  simp only [evP] at he
  cases b <;> try (cases a <;> simp [iaddrAV] at he; done)
  rename_i k m
  simp only [VRel] at h2
  cases a <;> simp only [iaddrAV] at he <;> try (cases he; done)
  · rename_i t' esz i0 j
    split at he
    · rename_i hc
      simp only [VRel] at h1
      obtain ⟨l, h3, h4, h5⟩ := h1
      have hk := key _ _ _ _ h5 h2 hc.1 hc.2
      split at he
      · rename_i hc2
        obtain ⟨hc2, rfl⟩ := hc2
        cases he
        refine ⟨_, ?_, hk⟩
        simp only [VRel]
        refine ⟨l, h3, h4, ?_⟩
        rw [← hc2, Nat.add_mul, Nat.add_zero, Nat.add_zero]
      · cases he
        refine ⟨_, ?_, hk⟩
        simp only [VRel]
        exact ⟨l, h3, h4, by rw [Nat.add_assoc]⟩
    · cases he
  · rename_i vs i0 j
    split at he
    · rename_i hc
      cases he
      simp only [VRel] at h1
      obtain ⟨b, off, esz, h3, h4⟩ := h1
      refine ⟨_, ?_, key _ _ _ _ h4 h2 hc.1 hc.2⟩
      simp only [VRel]
      exact ⟨b, off, esz, h3, by rw [Nat.add_assoc]⟩
    · cases he

theorem s_idxA {t e : TypeId} {n s : Nat} {ag : Bool} {x ix : Operand} (ht : P.underlying t = some (.array n e)) (hi : tyAgg P e = some (ag, s)) (hn : ag = false → s = 1) (ho : o.op = .index t x ix) (hv : VRels G vals [ρ x, ρ ix])
    (he : evP (.idxA n s ag) vals = some v) : Yields1 P G ρ o v := by
  obtain ⟨a, b, rfl, h1, h2⟩ := two hv
  cases a <;> cases b <;> simp only [evP] at he <;> try (cases he; done)
  rename_i cs k m
  split at he
  · rename_i hc
    simp only [VRel] at h1 h2
    obtain ⟨ccs, h3, h4, h5⟩ := h1
    obtain ⟨cv, h6, h7⟩ := seg_sound hi hn h3 h4 he
    refine ⟨cv, h6, fun w => ?_⟩
    have hm : m < n := by omega
    simp only [execOp, ho, h5, h2, Instr.index, Sem.run_bind, run_asInt, run_underlying ht, Result.andThen_ok, Sem.run_ite, if_pos (And.intro hc.1 hm), run_sizeOf' hi, h7, Sem.run_pure]
  · cases he

theorem s_idxS {t : TypeId} {x ix : Operand} (ht : P.underlying t = some .string) (ho : o.op = .index t x ix) (hv : VRels G vals [ρ x, ρ ix])
    (he : evP .idxS vals = some v) : Yields1 P G ρ o v := by
  obtain ⟨a, b, rfl, h1, h2⟩ := two hv
  cases a <;> cases b <;> simp only [evP] at he <;> try (cases he; done)
  rename_i s k m
  split at he
  · rename_i hc
    simp only [Option.map_eq_some_iff] at he
    obtain ⟨c, h3, rfl⟩ := he
    simp only [VRel] at h1 h2
    refine ⟨_, vint, fun w => ?_⟩
    have hb : s[m.toNat]? = some c := by
      obtain ⟨⟨l⟩⟩ := s
      simp only [List.getElem?_eq_some_iff] at h3
      obtain ⟨hlt, h3⟩ := h3
      have hlt' : m.toNat < (ByteArray.mk ⟨l⟩).size := hlt
      rw [getElem?_pos (ByteArray.mk ⟨l⟩) m.toNat hlt']
      exact congrArg some h3
    simp [execOp, ho, h1, h2, Instr.index, run_asInt, run_underlying ht, hc, hb]
  · cases he

theorem s_ext {x : Operand} {i : Nat} (ho : o.op = .extract x i) (hv : VRels G vals [ρ x]) (he : evP (.ext i) vals = some v) : Yields1 P G ρ o v := by
  obtain ⟨a, rfl, h1⟩ := one hv
  cases a <;> simp only [evP] at he <;> try (cases he; done)
  simp only [VRel] at h1
  obtain ⟨ccs, h2, h3⟩ := h1
  obtain ⟨c, h4, h5⟩ := h2.get i v he
  exact ⟨c, h5, fun w => by simp [execOp, ho, h3, Instr.extract, h4]⟩

theorem s_nilck {x : Operand} (ho : o.op = .nilCheck x) (hv : VRels G vals [ρ x]) (he : evP .nilck vals = some v) : Yields1 P G ρ o v := by
  obtain ⟨a, rfl, h1⟩ := one hv
  cases a <;> simp only [evP, Option.some.injEq] at he <;> try (cases he; done)
  all_goals subst he
  all_goals refine ⟨ρ x, h1, fun w => ?_⟩
  all_goals simp only [VRel] at h1
  · obtain ⟨_, _, _, h⟩ := h1; simp [execOp, ho, h]
  · obtain ⟨_, _, _, _, h⟩ := h1; simp [execOp, ho, h]
  · obtain ⟨_, _, _, _, h⟩ := h1; simp [execOp, ho, h]
  · obtain ⟨_, _, h⟩ := h1; simp [execOp, ho, h]

theorem s_mkif {t : TypeId} {x : Operand} (hc : P.concrete t = true) (ho : o.op = .makeInterface t x) (hv : VRels G vals [ρ x]) (he : evP (.mkif t) vals = some v) : Yields1 P G ρ o v := by
  obtain ⟨a, rfl, h1⟩ := one hv
  simp only [evP, Option.some.injEq] at he
  subst he
  refine ⟨.iface t (ρ x), ?_, fun w => by simp [execOp, ho, run_makeInterface w t (ρ x) hc]⟩
  simp only [VRel]
  exact ⟨_, h1, rfl⟩

end
end Eng
