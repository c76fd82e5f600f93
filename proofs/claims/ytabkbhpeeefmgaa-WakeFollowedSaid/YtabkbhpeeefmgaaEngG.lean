/-
THE ENGINE, PART H: 'compP' is sound (second half).
THE ENGINE, PART I: 'compP' is sound (the rest).
THE ENGINE, PART J: 'compP' is sound: the theorem.
THE ENGINE, PART G: states, operations with memory, running the operations of a region one after the other.
-/
import Derived.Test.YtabkbhpeeefmgaaEngF
namespace Eng
open Go
set_option linter.unusedSimpArgs false
set_option linter.unusedVariables false

theorem VRows.get {G : Ghost} : ∀ {vals : List AV} {b o esz : Nat}, VRows G vals b o esz → ∀ (i : Nat) (v : AV), vals[i]? = some v →
    ∃ cv, VRel G v cv ∧ v.cells.length = esz ∧ cv.cells.size = esz ∧ (∀ c ∈ cv.cells.toList, c.oneCell' = true) ∧ RoCells G b (o + i * esz) cv.cells.toList
  | [], _, _, _, _, i, v, hv => by simp at hv
  | x :: vs, b, o, esz, h, i, v, hv => by
    simp only [VRows] at h
    obtain ⟨h1, h2⟩ := h
    cases i with
    | zero => simp at hv; subst hv; simpa using h1
    | succ i =>
      simp at hv
      obtain ⟨cv, h3, h4, h5, h6, h7⟩ := VRows.get h2 i v hv
      refine ⟨cv, h3, h4, h5, h6, ?_⟩
      have : o + esz + i * esz = o + (i + 1) * esz := by rw [Nat.add_mul]; omega
      rwa [this] at h7

section
variable {P : Program} {G : Ghost} {ρ : Operand → Value} {o : Oper} {v : AV} {vals : List AV}

theorem s_neg {t : TypeId} {x : Operand} (ho : o.op = .unOp .neg t x) (hv : VRels G vals [ρ x]) (he : evP .neg vals = some v) : Yields1 P G ρ o v := by
  obtain ⟨a, rfl, h1⟩ := one hv
  cases a <;> simp [evP] at he
  subst he
  simp only [VRel] at h1
  exact ⟨_, vint, fun w => by simp [execOp, ho, h1, Op.unary, Op.intArith]⟩

theorem s_not {t : TypeId} {x : Operand} (ho : o.op = .unOp .not t x) (hv : VRels G vals [ρ x]) (he : evP .notB vals = some v) : Yields1 P G ρ o v := by
  obtain ⟨a, rfl, h1⟩ := one hv
  cases a <;> simp [evP] at he
  subst he
  simp only [VRel] at h1
  exact ⟨_, vbool, fun w => by simp [execOp, ho, h1, Op.unary]⟩

theorem s_conv {src dst : TypeId} {d : TypeDesc} {k : IntKind} {x : Operand} (hs : P.underlying src = some d) (hd : P.underlying dst = some (.int k)) (ho : o.op = .convert src dst x) (hv : VRels G vals [ρ x]) (he : evP (.conv k) vals = some v) : Yields1 P G ρ o v := by
  obtain ⟨a, rfl, h1⟩ := one hv
  cases a <;> simp [evP] at he
  subst he
  simp only [VRel] at h1
  refine ⟨_, vint, fun w => ?_⟩
  simp only [execOp, ho, h1, convert, Sem.run_bind, run_underlying hs, run_underlying hd, Result.andThen_ok]
  cases d <;> simp [Conv.intToInt]

theorem s_mkfn {f : FuncId} {first captured : Array Operand} (ho : o.op = .makeFunc (.func f) first captured) (hv : VRels G vals ((first.toList ++ captured.toList).map ρ)) (he : evP (.mkfn f first.size) vals = some v) : Yields1 P G ρ o v := by
  simp only [evP, Option.some.injEq] at he
  subst he
  rw [List.map_append] at hv
  refine ⟨.func (.func f) (first.map ρ) (captured.map ρ), ?_, fun w => by simp [execOp, ho, Instr.makeFunc]⟩
  simp only [VRel]
  refine ⟨first.toList.map ρ, captured.toList.map ρ, ?_, ?_, ?_⟩
  · have h := hv.take first.size
    have e : (first.toList.map ρ ++ captured.toList.map ρ).take first.size = first.toList.map ρ := List.take_left' (by simp)
    rwa [e] at h
  · have h := hv.drop first.size
    have e : (first.toList.map ρ ++ captured.toList.map ρ).drop first.size = captured.toList.map ρ := List.drop_left' (by simp)
    rwa [e] at h
  · rw [← Array.toList_map, ← Array.toList_map]

theorem s_faddr {s : TypeId} {x : Operand} {k : Nat} {fs : Array Field} {f : Field} {i : TypeInfo} (hs : P.underlying s = some (.struct fs)) (hf : fs[k]? = some f) (hi : P.info? f.type = some i) (hz : i.size ≠ 0)
    (ho : o.op = .fieldAddr s x k) (hv : VRels G vals [ρ x]) (he : evP (.faddr f.offset) vals = some v) : Yields1 P G ρ o v := by
  obtain ⟨a, rfl, h1⟩ := one hv
  have hsz : ∀ w, (Go.sizeOf f.type).run P w = .ok i.size w := fun w => by simp [Go.sizeOf, typeInfo, hi]
  have key : ∀ (b off : Nat), ρ x = .pointer (some ⟨b, off, none⟩) → ∀ w, (execOp ρ o).run P w = .ok (.value (.pointer (some ⟨b, off + f.offset, none⟩))) w := by
    intro b off hx w
    simp only [execOp, ho, hx, Instr.fieldAt, Sem.run_bind, run_underlying hs, Result.andThen_ok, hf, Instr.sureAddr, Sem.run_pure, fieldPlace, hsz, Sem.run_ite, if_neg hz]
    simp [Addr.add_lit]
  cases a <;> simp [evP] at he
  · subst he
    simp only [VRel] at h1
    obtain ⟨l, h2, h3, h4⟩ := h1
    refine ⟨_, ?_, key _ _ h4⟩
    simp only [VRel]
    exact ⟨l, h2, h3, by rw [Nat.add_assoc]⟩
  · subst he
    simp only [VRel] at h1
    obtain ⟨b, off, esz, h2, h3⟩ := h1
    refine ⟨_, ?_, key _ _ h3⟩
    simp only [VRel]
    exact ⟨b, off, esz, h2, by rw [Nat.add_assoc]⟩

theorem s_field {s : TypeId} {x : Operand} {k n : Nat} {ag : Bool} {fs : Array Field} {f : Field} (hs : P.underlying s = some (.struct fs)) (hf : fs[k]? = some f) (hi : tyAgg P f.type = some (ag, n)) (hn : ag = false → n = 1)
    (ho : o.op = .field s x k) (hv : VRels G vals [ρ x]) (he : evP (.field f.offset n ag) vals = some v) : Yields1 P G ρ o v := by
  obtain ⟨a, rfl, h1⟩ := one hv
  cases a <;> simp only [evP] at he <;> try (cases he; done)
  simp only [VRel] at h1
  obtain ⟨ccs, h2, h3, h4⟩ := h1
  obtain ⟨cv, h5, h6⟩ := seg_sound hi hn h2 h3 he
  refine ⟨cv, h5, fun w => ?_⟩
  simp only [execOp, ho, h4, Instr.field, Sem.run_bind, run_underlying hs, Result.andThen_ok, hf, asAgg, Sem.run_pure, h6]

theorem run_asInt {k : IntKind} {n : Int} (w : World) : (asIntOf (.int k n)).run P w = .ok (k, n) w := rfl

theorem s_iaddrS {t e : TypeId} {x ix : Operand} {i : TypeInfo} (ht : P.underlying t = some (.slice e)) (hi : P.info? e = some i) (ho : o.op = .indexAddr t x ix) (hv : VRels G vals [ρ x, ρ ix])
    (he : evP (.iaddrS i.size) vals = some v) : Yields1 P G ρ o v := by
  obtain ⟨a, b, rfl, h1, h2⟩ := two hv
  clear hv
  have hsz : ∀ w, (Go.sizeOf e).run P w = .ok i.size w := fun w => by simp [Go.sizeOf, typeInfo, hi]
  have key : ∀ (b off len cap : Nat) (k : IntKind) (m : Int), ρ x = .slice (some ⟨b, off, none⟩) len cap → ρ ix = .int k m → 0 ≤ m → m.toNat < len →
      ∀ w, (execOp ρ o).run P w = .ok (.value (.pointer (some ⟨b, off + m.toNat * i.size, none⟩))) w := by
    intro b off len cap k m hx hix h0 hlt w
    have hm : m < len := by omega
    simp [execOp, ho, hx, hix, Instr.indexAt, run_asInt, run_underlying ht, hsz, h0, hm, Addr.add_lit]
  simp only [evP] at he
  cases b <;> try (cases a <;> simp [iaddrSV] at he; done)
  rename_i k m
  simp only [VRel] at h2
  cases a <;> simp only [iaddrSV] at he <;> try (cases he; done)
  · split at he
    · rename_i t' esz i0 n hc
      obtain ⟨hc1, hc2, hc3⟩ := hc
      cases he
      simp only [VRel] at h1
      obtain ⟨l, cap, h3, h4, h5, h6, _⟩ := h1
      refine ⟨_, ?_, key _ _ _ _ _ _ h5 h2 hc2 hc3⟩
      simp only [VRel]
      refine ⟨l, h3, h4, ?_⟩
      rw [← hc1, Nat.add_mul, Nat.add_zero]
    · cases he
  · rename_i vs
    split at he
    · rename_i h0
      cases hg : vs[m.toNat]? with
      | none => simp [hg] at he
      | some u =>
        simp only [hg, Option.bind_some] at he
        split at he
        · rename_i hlen
          cases he
          have hlt : m.toNat < vs.length := (List.getElem?_eq_some_iff.1 hg).1
          simp only [VRel] at h1
          rcases h1 with ⟨rfl, _⟩ | ⟨b, off, esz, cap, h3, h4, h5⟩
          · simp at hlt
          · obtain ⟨cv, _, h6, _⟩ := h3.get _ _ hg
            refine ⟨_, ?_, key _ _ _ _ _ _ h4 h2 h0 hlt⟩
            simp only [VRel]
            refine ⟨b, off, esz, h3, ?_⟩
            rw [← h6, hlen]; rfl
        · cases he
    · cases he

theorem s_iaddrA {t e : TypeId} {n : Nat} {x ix : Operand} {i : TypeInfo} (ht : P.underlying t = some (.array n e)) (hi : P.info? e = some i) (ho : o.op = .indexAddr t x ix) (hv : VRels G vals [ρ x, ρ ix])
    (he : evP (.iaddrA n i.size) vals = some v) : Yields1 P G ρ o v := by
  obtain ⟨a, b, rfl, h1, h2⟩ := two hv
  clear hv
  have hsz : ∀ w, (Go.sizeOf e).run P w = .ok i.size w := fun w => by simp [Go.sizeOf, typeInfo, hi]
  have key : ∀ (b off : Nat) (k : IntKind) (m : Int), ρ x = .pointer (some ⟨b, off, none⟩) → ρ ix = .int k m → 0 ≤ m → m.toNat < n →
      ∀ w, (execOp ρ o).run P w = .ok (.value (.pointer (some ⟨b, off + m.toNat * i.size, none⟩))) w := by
    intro b off k m hx hix h0 hlt w
    have hm : m < n := by omega
    simp [execOp, ho, hx, hix, Instr.indexAt, Instr.sureAddr, run_asInt, run_underlying ht, hsz, h0, hm, Addr.add_lit]
  simp only [evP] at he
  cases b <;> try (cases a <;> simp [iaddrAV] at he; done)
  rename_i k m
  simp only [VRel] at h2
  cases a <;> simp only [iaddrAV] at he <;> try (cases he; done)
  · rename_i t' esz i0 j
    split at he
    · rename_i hc
      simp only [VRel] at h1
      obtain ⟨l, h3, h4, h5⟩ := h1
      have hk := key _ _ _ _ h5 h2 hc.1 hc.2
      split at he
      · rename_i hc2
        obtain ⟨hc2, rfl⟩ := hc2
        cases he
        refine ⟨_, ?_, hk⟩
        simp only [VRel]
        refine ⟨l, h3, h4, ?_⟩
        rw [← hc2, Nat.add_mul, Nat.add_zero, Nat.add_zero]
      · cases he
        refine ⟨_, ?_, hk⟩
        simp only [VRel]
        exact ⟨l, h3, h4, by rw [Nat.add_assoc]⟩
    · cases he
  · rename_i vs i0 j
    split at he
    · rename_i hc
      cases he
      simp only [VRel] at h1
      obtain ⟨b, off, esz, h3, h4⟩ := h1
      refine ⟨_, ?_, key _ _ _ _ h4 h2 hc.1 hc.2⟩
      simp only [VRel]
      exact ⟨b, off, esz, h3, by rw [Nat.add_assoc]⟩
    · cases he

theorem s_idxA {t e : TypeId} {n s : Nat} {ag : Bool} {x ix : Operand} (ht : P.underlying t = some (.array n e)) (hi : tyAgg P e = some (ag, s)) (hn : ag = false → s = 1) (ho : o.op = .index t x ix) (hv : VRels G vals [ρ x, ρ ix])
    (he : evP (.idxA n s ag) vals = some v) : Yields1 P G ρ o v := by
  obtain ⟨a, b, rfl, h1, h2⟩ := two hv
  cases a <;> cases b <;> simp only [evP] at he <;> try (cases he; done)
  rename_i cs k m
  split at he
  · rename_i hc
    simp only [VRel] at h1 h2
    obtain ⟨ccs, h3, h4, h5⟩ := h1
    obtain ⟨cv, h6, h7⟩ := seg_sound hi hn h3 h4 he
    refine ⟨cv, h6, fun w => ?_⟩
    have hm : m < n := by omega
    simp only [execOp, ho, h5, h2, Instr.index, Sem.run_bind, run_asInt, run_underlying ht, Result.andThen_ok, Sem.run_ite, if_pos (And.intro hc.1 hm), run_sizeOf' hi, h7, Sem.run_pure]
  · cases he

theorem s_idxS {t : TypeId} {x ix : Operand} (ht : P.underlying t = some .string) (ho : o.op = .index t x ix) (hv : VRels G vals [ρ x, ρ ix])
    (he : evP .idxS vals = some v) : Yields1 P G ρ o v := by
  obtain ⟨a, b, rfl, h1, h2⟩ := two hv
  cases a <;> cases b <;> simp only [evP] at he <;> try (cases he; done)
  rename_i s k m
  split at he
  · rename_i hc
    simp only [Option.map_eq_some_iff] at he
    obtain ⟨c, h3, rfl⟩ := he
    simp only [VRel] at h1 h2
    refine ⟨_, vint, fun w => ?_⟩
    have hb : s[m.toNat]? = some c := by
      obtain ⟨⟨l⟩⟩ := s
      simp only [List.getElem?_eq_some_iff] at h3
      obtain ⟨hlt, h3⟩ := h3
      have hlt' : m.toNat < (ByteArray.mk ⟨l⟩).size := hlt
      rw [getElem?_pos (ByteArray.mk ⟨l⟩) m.toNat hlt']
      exact congrArg some h3
    simp [execOp, ho, h1, h2, Instr.index, run_asInt, run_underlying ht, hc, hb]
  · cases he

theorem s_ext {x : Operand} {i : Nat} (ho : o.op = .extract x i) (hv : VRels G vals [ρ x]) (he : evP (.ext i) vals = some v) : Yields1 P G ρ o v := by
  obtain ⟨a, rfl, h1⟩ := one hv
  cases a <;> simp only [evP] at he <;> try (cases he; done)
  simp only [VRel] at h1
  obtain ⟨ccs, h2, h3⟩ := h1
  obtain ⟨c, h4, h5⟩ := h2.get i v he
  exact ⟨c, h5, fun w => by simp [execOp, ho, h3, Instr.extract, h4]⟩

theorem s_nilck {x : Operand} (ho : o.op = .nilCheck x) (hv : VRels G vals [ρ x]) (he : evP .nilck vals = some v) : Yields1 P G ρ o v := by
  obtain ⟨a, rfl, h1⟩ := one hv
  cases a <;> simp only [evP, Option.some.injEq] at he <;> try (cases he; done)
  all_goals subst he
  all_goals refine ⟨ρ x, h1, fun w => ?_⟩
  all_goals simp only [VRel] at h1
  · obtain ⟨_, _, _, h⟩ := h1; simp [execOp, ho, h]
  · obtain ⟨_, _, _, _, h⟩ := h1; simp [execOp, ho, h]
  · obtain ⟨_, _, _, _, h⟩ := h1; simp [execOp, ho, h]
  · obtain ⟨_, _, h⟩ := h1; simp [execOp, ho, h]

theorem s_mkif {t : TypeId} {x : Operand} (hc : P.concrete t = true) (ho : o.op = .makeInterface t x) (hv : VRels G vals [ρ x]) (he : evP (.mkif t) vals = some v) : Yields1 P G ρ o v := by
  obtain ⟨a, rfl, h1⟩ := one hv
  simp only [evP, Option.some.injEq] at he
  subst he
  refine ⟨.iface t (ρ x), ?_, fun w => by simp [execOp, ho, run_makeInterface w t (ρ x) hc]⟩
  simp only [VRel]
  exact ⟨_, h1, rfl⟩

end
end Eng

namespace Eng
open Go
set_option linter.unusedSimpArgs false
set_option linter.unusedVariables false

section
variable {P : Program} {G : Ghost} {ρ : Operand → Value} {o : Oper} {v : AV} {vals : List AV}

def nkOf : NK → TypeDesc → Bool
  | .p, .pointer _ => true
  | .s, .slice _ => true
  | .m, .map .. => true
  | .f, .func .. => true
  | .i, .interface _ => true
  | _, _ => false

theorem run_eqN {k : NK} {a b : AV} {r : Bool} (h : eqNV k a b = some r) {t : TypeId} {d : TypeDesc} (hd : P.underlying t = some d) (hk : nkOf k d = true) {x y : Value} (h1 : VRel G a x) (h2 : VRel G b y) (w : World) :
    (Op.equal t x y).run P w = .ok r w := by
  show (Op.equalIn (9999 + 1) t x y).run P w = .ok r w
  generalize 9999 = m
  unfold eqNV at h
  split at h <;> cases h
  all_goals
    simp only [VRel] at h1 h2
    cases d <;> simp [nkOf] at hk
  · subst h1; subst h2; simp [Op.equalIn, run_underlying hd]
  · obtain ⟨_, _, _, rfl⟩ := h1; subst h2; simp [Op.equalIn, run_underlying hd]
  · obtain ⟨_, _, _, _, rfl⟩ := h1; subst h2; simp [Op.equalIn, run_underlying hd]
  · subst h1; subst h2; simp [Op.equalIn, run_underlying hd]
  · obtain ⟨_, _, _, _, rfl, _⟩ := h1; subst h2; simp [Op.equalIn, run_underlying hd]
  · obtain ⟨h, _⟩ | ⟨_, _, _, _, _, rfl, _⟩ := h1
    · cases h
    · subst h2; simp [Op.equalIn, run_underlying hd]
  · subst h1; subst h2; simp [Op.equalIn, run_underlying hd]
  · obtain ⟨_, _, rfl⟩ := h1; subst h2; simp [Op.equalIn, run_underlying hd]
  · subst h1; subst h2; simp [Op.equalIn, run_underlying hd]
  · obtain ⟨_, _, _, _, rfl⟩ := h1; subst h2; simp [Op.equalIn, run_underlying hd]
  · subst h1; subst h2; simp [Op.equalIn, run_underlying hd]
  · obtain ⟨_, _, rfl⟩ := h1; subst h2; simp [Op.equalIn, run_underlying hd]

theorem eqNV_noAgg {k : NK} {a b : AV} {r : Bool} (h : eqNV k a b = some r) {x y : Value} (h1 : VRel G a x) (h2 : VRel G b y) :
    (∀ xs ys, ¬ (x = .agg xs ∧ y = .agg ys)) ∧ (∀ t, (binOp .eql t x y) = (do pure (.bool (← Op.equal t x y))) ∧ (binOp .neq t x y) = (do pure (.bool (!(← Op.equal t x y))))) := by
  unfold eqNV at h
  split at h <;> cases h
  all_goals simp only [VRel] at h1 h2
  · subst h1; subst h2; exact ⟨by simp, fun t => ⟨rfl, rfl⟩⟩
  · obtain ⟨_, _, _, rfl⟩ := h1; subst h2; exact ⟨by simp, fun t => ⟨rfl, rfl⟩⟩
  · obtain ⟨_, _, _, _, rfl⟩ := h1; subst h2; exact ⟨by simp, fun t => ⟨rfl, rfl⟩⟩
  · subst h1; subst h2; exact ⟨by simp, fun t => ⟨rfl, rfl⟩⟩
  · obtain ⟨_, _, _, _, rfl, _⟩ := h1; subst h2; exact ⟨by simp, fun t => ⟨rfl, rfl⟩⟩
  · obtain ⟨h, _⟩ | ⟨_, _, _, _, _, rfl, _⟩ := h1
    · cases h
    · subst h2; exact ⟨by simp, fun t => ⟨rfl, rfl⟩⟩
  · subst h1; subst h2; exact ⟨by simp, fun t => ⟨rfl, rfl⟩⟩
  · obtain ⟨_, _, rfl⟩ := h1; subst h2; exact ⟨by simp, fun t => ⟨rfl, rfl⟩⟩
  · subst h1; subst h2; exact ⟨by simp, fun t => ⟨rfl, rfl⟩⟩
  · obtain ⟨_, _, _, _, rfl⟩ := h1; subst h2; exact ⟨by simp, fun t => ⟨rfl, rfl⟩⟩
  · subst h1; subst h2; exact ⟨by simp, fun t => ⟨rfl, rfl⟩⟩
  · obtain ⟨_, _, rfl⟩ := h1; subst h2; exact ⟨by simp, fun t => ⟨rfl, rfl⟩⟩

theorem s_eqN {neg : Bool} {k : NK} {t yt : TypeId} {d : TypeDesc} {x y : Operand} (hd : P.underlying t = some d) (hk : nkOf k d = true) (hy : isC y = true) (ho : o.op = .binOp (if neg then .neq else .eql) t x y yt)
    (hv : VRels G vals [ρ x, ρ y]) (he : evP (.eqN neg k) vals = some v) : Yields1 P G ρ o v := by
  obtain ⟨a, b, rfl, h1, h2⟩ := two hv
  simp only [evP, Option.map_eq_some_iff] at he
  obtain ⟨r, hr, rfl⟩ := he
  obtain ⟨hna, hb⟩ := eqNV_noAgg hr h1 h2
  have hq := fun w => run_eqN (P := P) hr hd hk h1 h2 w
  refine ⟨_, vbool, fun w => ?_⟩
  have hg := run_eqGuard_other (P := P) (if neg then .neq else .eql) t x y (ρ x) (ρ y) hna (.inr hy) w
  simp only [execOp, ho, Sem.run_bind, hg, Result.andThen_ok]
  cases neg
  · simp [(hb t).1, hq]
  · simp [(hb t).2, hq]

theorem s_eqa {neg : Bool} {t yt : TypeId} {l : List LK} {x y : Operand} {d : TypeDesc} (hu : P.underlying t = some d) (hst : (∃ fs, d = .struct fs) ∨ ∃ n e, d = .array n e) (hg : P.eqGuardType P.depth t = false) (hl : leaves P 8 t = some l)
    (ho : o.op = .binOp (if neg then .neq else .eql) t x y yt) (hv : VRels G vals [ρ x, ρ y]) (he : evP (.eqa neg l) vals = some v) : Yields1 P G ρ o v := by
  obtain ⟨a, b, rfl, h1, h2⟩ := two hv
  cases a <;> cases b <;> simp only [evP] at he <;> try (cases he; done)
  simp only [Option.map_eq_some_iff] at he
  obtain ⟨r, hr, rfl⟩ := he
  simp only [VRel] at h1 h2
  obtain ⟨cs, h3, h4, h5⟩ := h1
  obtain ⟨ds, h6, h7, h8⟩ := h2
  have heq := eqL_of hr h3 h6
  obtain ⟨ag, hag⟩ := leaves_len hl
  have hagt : ag = true := by
    unfold tyAgg at hag
    rw [hu] at hag
    cases hi : P.info? t with
    | none => simp [hi] at hag
    | some i =>
      simp only [hi, Option.some.injEq, Prod.mk.injEq] at hag
      rcases hst with ⟨fs, rfl⟩ | ⟨n, e, rfl⟩ <;> exact hag.1.symm
  refine ⟨_, vbool, fun w => ?_⟩
  have hrun := (equalIn_leaves (P := P) w 9992 8 t l ag hl hag).2 cs ds r heq
  have hguard : (eqGuard (if neg then .neq else .eql) t x y (ρ x) (ρ y)).run P w = .ok () w := by
    rw [h5, h8]; exact run_eqGuard_agg w _ t x y _ _ hg
  simp only [execOp, ho, Sem.run_bind, hguard, Result.andThen_ok]
  rw [h5, h8]
  subst hagt
  simp only [partOf, if_true] at hrun
  have hrun' : (Op.equalIn 10000 t (.agg cs.toArray) (.agg ds.toArray)).run P w = .ok r w := hrun
  cases neg
  · simp only [Bool.false_eq_true, if_false, run_eql_struct, hrun', Result.andThen_ok, Sem.run_pure]
  · simp only [if_true, run_neq_struct, hrun', Result.andThen_ok, Sem.run_pure]

end
end Eng

namespace Eng
open Go
set_option linter.unusedSimpArgs false
set_option linter.unusedVariables false

section
variable {P : Program} {G : Ghost} {ρ : Operand → Value} {o : Oper} {v : AV} {vals : List AV}

theorem zero_sound {z : Value} {zs : List AV} (h : absL z.cells.toList = some zs) (G : Ghost) : VRels G zs z.cells.toList ∧ ∀ c ∈ z.cells.toList, c.oneCell' = true :=
  ⟨(absL_rel h G).1, (absL_rel h G).2.2⟩

theorem run_zero {t : TypeId} {i : TypeInfo} {z : Value} (hi : P.info? t = some i) (hz : i.zero = some z) (w : World) : (zeroValue t).run P w = .ok z w := by
  simp [zeroValue, typeInfo, hi, hz]

theorem run_mapM_places {fs : List Field} {pl : List (Nat × Nat)} (h : fplaces P fs = some pl) (w : World) :
    ((fs.toArray.mapM fun f => do pure (f.offset, ← Go.sizeOf f.type) : Sem (Array (Nat × Nat)))).run P w = .ok pl.toArray w := by
  rw [List.mapM_toArray]
  simp only [Sem.run_map, run_places h, Result.andThen_ok]

theorem s_build {t : TypeId} {parts : Array (Nat × Operand)} {i : TypeInfo} {z : Value} {zs : List AV} {ps : List (Nat × Nat)} {pl : Nat → Option (Nat × Nat)}
    (hi : P.info? t = some i) (hz : i.zero = some z) (hzs : absL z.cells.toList = some zs) (hps : partsAt pl parts.toList = some ps)
    (hrun : ∀ (parts : Array (Nat × Value)) (cells : Array Value) (w : World), Instr.fill pl z.cells parts.toList = some cells → (Instr.build t parts).run P w = .ok (.agg cells) w)
    (ho : o.op = .build t parts) (hv : VRels G vals ((parts.toList.map (·.2)).map ρ)) (he : evP (.build zs ps) vals = some v) : Yields1 P G ρ o v := by
  simp only [evP, Option.map_eq_some_iff] at he
  obtain ⟨cs', hb, rfl⟩ := he
  obtain ⟨h1, h2⟩ := zero_sound hzs G
  obtain ⟨ccs', h3, h4, h5⟩ := fill_sound (ccs := z.cells) hps (by simpa [Function.comp_def] using hv) hb h1 h2
  refine ⟨.agg ccs', ?_, fun w => ?_⟩
  · simp only [VRel]; exact ⟨ccs'.toList, h4, h5, by simp⟩
  · simp only [execOp, ho, Sem.run_bind]
    have e2 : (Array.map (fun (x : Nat × Operand) => match x with | (i, x) => (i, ρ x)) parts).toList = parts.toList.map fun p => (p.1, ρ p.2) := by simp
    rw [hrun _ ccs' w (by rw [e2]; exact h3)]
    rfl

theorem run_build_struct {t : TypeId} {i : TypeInfo} {z : Value} {fs : Array Field} {pl : List (Nat × Nat)} (hu : P.underlying t = some (.struct fs)) (hi : P.info? t = some i) (hz : i.zero = some z)
    (hp : fplaces P fs.toList = some pl) (parts : Array (Nat × Value)) (cells : Array Value) (w : World) (hf : Instr.fill (pl[·]?) z.cells parts.toList = some cells) :
    (Instr.build t parts).run P w = .ok (.agg cells) w := by
  have hm := fun w => run_mapM_places (P := P) hp w
  simp only [Array.toArray_toList] at hm
  simp only [Instr.build, Sem.run_bind, run_zero hi hz, Result.andThen_ok, run_underlying hu]
  simp only [Sem.run_bind, hm, Result.andThen_ok, List.getElem?_toArray, hf, Sem.run_pure]

theorem run_build_array {t e : TypeId} {n : Nat} {i ie : TypeInfo} {z : Value} (hu : P.underlying t = some (.array n e)) (hi : P.info? t = some i) (hz : i.zero = some z)
    (hie : P.info? e = some ie) (parts : Array (Nat × Value)) (cells : Array Value) (w : World) (hf : Instr.fill (fun k => some (k * ie.size, ie.size)) z.cells parts.toList = some cells) :
    (Instr.build t parts).run P w = .ok (.agg cells) w := by
  have hs : ∀ w, (Go.sizeOf e).run P w = .ok ie.size w := fun w => by simp [Go.sizeOf, typeInfo, hie]
  simp only [Instr.build, Sem.run_bind, run_zero hi hz, Result.andThen_ok, run_underlying hu]
  simp only [Sem.run_bind, hs, Result.andThen_ok, hf, Sem.run_pure]

theorem run_builtin {b : Builtin} {args : Array Operand} {argTypes : Array TypeId} (ho : o.op = .call { callee := .builtin b, args, argTypes }) :
    ∃ consts, ∀ w : World, (execOp ρ o).run P w = (builtin b argTypes o.type consts (args.map ρ)).run P w :=
  ⟨_, fun w => by simp only [execOp, ho, resolve, invoke, Sem.run_bind, Sem.run_pure, Result.andThen_ok]; rfl⟩

theorem s_len {t : TypeId} {x : Operand} {e : TypeId} (ht : P.underlying t = some (.slice e)) {args : Array Operand} {argTypes : Array TypeId} (ha : args.toList = [x]) (hat : argTypes[0]? = some t)
    (ho : o.op = .call { callee := .builtin .len, args, argTypes }) (hv : VRels G vals [ρ x]) (he : evP .lenS vals = some v) : Yields1 P G ρ o v := by
  obtain ⟨a, rfl, h1⟩ := one hv
  have hargs : args = #[x] := by rw [← Array.toArray_toList (xs := args), ha]
  subst hargs
  have key : ∀ n : Int, (∀ w, (Builtin.len_ argTypes o.type #[ρ x]).run P w = .ok (.int .i64 n) w) → Yields1 P G ρ o (.int .i64 n) := fun n h =>
    ⟨_, vint, fun w => by obtain ⟨c, hc⟩ := run_builtin (P := P) (ρ := ρ) ho; rw [hc]; simp [builtin, h]⟩
  cases a <;> simp only [evP, Option.some.injEq] at he <;> try (cases he; done)
  all_goals subst he
  all_goals simp only [VRel] at h1
  · exact key _ fun w => by simp [Builtin.len_, hat, run_underlying ht, h1, goInt]
  · obtain ⟨_, _, _, _, h, _⟩ := h1
    exact key _ fun w => by simp [Builtin.len_, hat, run_underlying ht, h, goInt]
  · rcases h1 with ⟨rfl, _, _, h⟩ | ⟨_, _, _, _, _, h, _⟩
    · exact key _ fun w => by simp [Builtin.len_, hat, run_underlying ht, h, goInt]
    · exact key _ fun w => by simp [Builtin.len_, hat, run_underlying ht, h, goInt]

theorem s_lenT {t : TypeId} {x : Operand} (ht : P.underlying t = some .string) {args : Array Operand} {argTypes : Array TypeId} (ha : args.toList = [x]) (hat : argTypes[0]? = some t)
    (ho : o.op = .call { callee := .builtin .len, args, argTypes }) (hv : VRels G vals [ρ x]) (he : evP .lenT vals = some v) : Yields1 P G ρ o v := by
  obtain ⟨a, rfl, h1⟩ := one hv
  have hargs : args = #[x] := by rw [← Array.toArray_toList (xs := args), ha]
  subst hargs
  cases a <;> simp only [evP, Option.some.injEq] at he <;> try (cases he; done)
  subst he
  simp only [VRel] at h1
  exact ⟨_, vint, fun w => by obtain ⟨c, hc⟩ := run_builtin (P := P) (ρ := ρ) ho; rw [hc]; simp [builtin, Builtin.len_, hat, run_underlying ht, h1, goInt]⟩

theorem s_lenC {t e : TypeId} {n : Nat} {x : Operand} (ht : P.underlying t = some (.array n e)) {args : Array Operand} {argTypes : Array TypeId} (ha : args.toList = [x]) (hat : argTypes[0]? = some t)
    (ho : o.op = .call { callee := .builtin .len, args, argTypes }) (hv : VRels G vals [ρ x]) (he : evP (.lenC n) vals = some v) : Yields1 P G ρ o v := by
  have hargs : args = #[x] := by rw [← Array.toArray_toList (xs := args), ha]
  subst hargs
  have he' : v = .int .i64 n := by
    obtain ⟨a, rfl, _⟩ := one hv
    simp only [evP, Option.some.injEq] at he
    exact he.symm
  subst he'
  exact ⟨_, vint, fun w => by obtain ⟨c, hc⟩ := run_builtin (P := P) (ρ := ρ) ho; rw [hc]; simp [builtin, Builtin.len_, hat, run_underlying ht, goInt]⟩

theorem mm_sound {isMax : Bool} : ∀ {xs : List AV} {a r : AV} {c : Value} {cs : List Value}, mmF isMax a xs = some r → VRel G a c → VRels G xs cs →
    ∃ cv, VRel G r cv ∧ ∀ w : World, (cs.foldlM (if isMax then Builtin.max2 else Builtin.min2) c).run P w = .ok cv w
  | [], a, r, c, cs, h, h1, h2 => by
    simp only [VRels] at h2
    subst h2
    cases a <;> try (simp [mmF] at h; done)
    simp only [mmF, Option.some.injEq] at h
    subst h
    exact ⟨c, h1, fun w => rfl⟩
  | x :: xs, a, r, c, cs, h, h1, h2 => by
    simp only [VRels] at h2
    obtain ⟨d, ds, rfl, h3, h4⟩ := h2
    cases a <;> try (simp [mmF] at h; done)
    rename_i k n
    cases x <;> try (simp [mmF] at h; done)
    rename_i k' m
    simp only [mmF] at h
    split at h
    · rename_i hk
      subst hk
      simp only [VRel] at h1 h3
      subst h1; subst h3
      obtain ⟨cv, h5, h6⟩ := mm_sound (c := .int k (if isMax then max n m else min n m)) h vint h4
      refine ⟨cv, h5, fun w => ?_⟩
      have e : ∀ w, ((if isMax then Builtin.max2 else Builtin.min2) (.int k n) (.int k m)).run P w = .ok (.int k (if isMax then max n m else min n m)) w := by
        intro w
        cases isMax
        · simp only [Bool.false_eq_true, if_false, Builtin.min2, Sem.run_pure]
          congr 2
          rw [Int.min_def]
          split <;> split <;> omega
        · simp only [if_true, Builtin.max2, Sem.run_pure]
          congr 2
          rw [Int.max_def]
          split <;> split <;> omega
      simp only [List.foldlM_cons, Sem.run_bind, e, Result.andThen_ok, h6]
    · cases h

theorem s_mm {isMax : Bool} {args : Array Operand} {argTypes : Array TypeId} (ho : o.op = .call { callee := .builtin (if isMax then .max else .min), args, argTypes })
    (hv : VRels G vals (args.toList.map ρ)) (he : evP (.mm isMax) vals = some v) : Yields1 P G ρ o v := by
  cases vals with
  | nil => simp [evP] at he
  | cons x xs =>
    simp only [evP] at he
    cases hl : args.toList.map ρ with
    | nil => rw [hl] at hv; simp [VRels] at hv
    | cons c cs =>
      rw [hl] at hv
      simp only [VRels] at hv
      obtain ⟨c', cs', h0, h1, h2⟩ := hv
      cases h0
      obtain ⟨cv, h3, h4⟩ := mm_sound (P := P) he h1 h2
      refine ⟨cv, h3, fun w => ?_⟩
      obtain ⟨c, hc⟩ := run_builtin (P := P) (ρ := ρ) ho
      rw [hc]
      have e := hl
      rw [← Array.toList_map] at e
      have h5 := h4 w
      cases isMax
      · simp only [Bool.false_eq_true, if_false] at h5 ⊢
        simp only [builtin, Builtin.min_, e, Sem.run_bind, h5, Result.andThen_ok, Sem.run_pure]
      · simp only [if_true] at h5 ⊢
        simp only [builtin, Builtin.max_, e, Sem.run_bind, h5, Result.andThen_ok, Sem.run_pure]

theorem vrows_drop {G : Ghost} : ∀ {vals : List AV} {b o esz : Nat} (i : Nat), VRows G vals b o esz → VRows G (vals.drop i) b (o + i * esz) esz
  | [], b, o, esz, i, h => by simp [VRows]
  | v :: vs, b, o, esz, 0, h => by simpa using h
  | v :: vs, b, o, esz, i + 1, h => by
    simp only [VRows] at h
    have := vrows_drop i h.2
    rw [List.drop_succ_cons, Nat.add_mul, Nat.one_mul, Nat.add_comm (i * esz), ← Nat.add_assoc]
    exact this
theorem vrows_take {G : Ghost} : ∀ {vals : List AV} {b o esz : Nat} (n : Nat), VRows G vals b o esz → VRows G (vals.take n) b o esz
  | [], b, o, esz, n, h => by simp [VRows]
  | v :: vs, b, o, esz, 0, h => by simp [VRows]
  | v :: vs, b, o, esz, n + 1, h => by
    simp only [List.take_succ_cons, VRows] at h ⊢
    exact ⟨h.1, vrows_take n h.2⟩
theorem vrows_esz {G : Ghost} {vals : List AV} {b o esz s : Nat} (h : VRows G vals b o esz) (hs : (vals.all fun v => decide (v.cells.length = s)) = true) (h0 : vals ≠ []) : esz = s := by
  cases vals with
  | nil => exact absurd rfl h0
  | cons v vs =>
    simp only [VRows] at h
    obtain ⟨⟨_, _, h1, _⟩, _⟩ := h
    simp only [List.all_cons, Bool.and_eq_true, decide_eq_true_eq] at hs
    rw [← h1, hs.1]

theorem bnd_sound {lo hi mx : Option Operand} {len cap l h : Nat} {rest : List AV} {isSlice : Bool} (hlc : len ≤ cap) (hv : VRels G rest ((lo.toList ++ (hi.toList ++ mx.toList)).map ρ)) (hb : bnd lo.isSome hi.isSome mx.isSome len rest = some (l, h)) (w : World) :
    (Instr.sliceBounds isSlice len cap (lo.map ρ) (hi.map ρ) (mx.map ρ)).run P w = .ok (l, h, if mx.isSome then h else cap) w ∧ l ≤ h ∧ h ≤ len := by
  cases lo with
  | none =>
    cases hi with
    | none =>
      cases mx with
      | some m => cases rest <;> simp [bnd] at hb
      | none =>
        cases rest with
        | nil =>
          simp only [bnd, Option.isSome_none, Option.some.injEq, Prod.mk.injEq] at hb
          obtain ⟨rfl, rfl⟩ := hb
          exact ⟨by simp [Instr.sliceBounds], Nat.zero_le _, Nat.le_refl _⟩
        | cons r rs => simp [bnd] at hb
    | some x =>
      cases mx with
      | none =>
        simp only [Option.toList, List.append_nil, List.nil_append, List.map_cons, List.map_nil] at hv
        obtain ⟨a, rfl, h1⟩ := one hv
        cases a <;> simp only [bnd, Option.isSome_none, Option.isSome_some] at hb <;> try (cases hb; done)
        rename_i k n
        split at hb
        · rename_i hc
          simp only [Option.some.injEq, Prod.mk.injEq] at hb
          obtain ⟨rfl, rfl⟩ := hb
          simp only [VRel] at h1
          have hn : n ≤ (cap : Int) := by omega
          exact ⟨by simp [Instr.sliceBounds, Instr.sliceBound, asIntOf, h1, hc.1, hn], Nat.zero_le _, hc.2⟩
        · cases hb
      | some y =>
        simp only [Option.toList, List.append_nil, List.nil_append, List.map_cons, List.map_nil, List.cons_append] at hv
        obtain ⟨a, c, rfl, h1, h2⟩ := two hv
        cases a <;> cases c <;> simp only [bnd, Option.isSome_none, Option.isSome_some] at hb <;> try (cases hb; done)
        rename_i k n k' m
        split at hb
        · rename_i hc
          simp only [Option.some.injEq, Prod.mk.injEq] at hb
          obtain ⟨rfl, rfl⟩ := hb
          obtain ⟨rfl, hc1, hc2⟩ := hc
          simp only [VRel] at h1 h2
          have hn : n ≤ (cap : Int) := by omega
          have hn2 : n ≤ ((n.toNat : Nat) : Int) := by omega
          exact ⟨by simp [Instr.sliceBounds, Instr.sliceBound, asIntOf, h1, h2, hc1, hn, hn2]; intro hh; omega, Nat.zero_le _, hc2⟩
        · cases hb
  | some z =>
    cases hi with
    | none =>
      cases mx with
      | some m =>
        cases rest with
        | nil => simp [bnd] at hb
        | cons r rs => simp [bnd] at hb
      | none =>
        simp only [Option.toList, List.append_nil, List.map_cons, List.map_nil] at hv
        obtain ⟨a, rfl, h1⟩ := one hv
        cases a <;> simp only [bnd, Option.isSome_none, Option.isSome_some] at hb <;> try (cases hb; done)
        rename_i k n
        split at hb
        · rename_i hc
          simp only [Option.some.injEq, Prod.mk.injEq] at hb
          obtain ⟨rfl, rfl⟩ := hb
          simp only [VRel] at h1
          have hn : n ≤ (len : Int) := by omega
          exact ⟨by simp [Instr.sliceBounds, Instr.sliceBound, asIntOf, h1, hc.1, hn], hc.2, Nat.le_refl _⟩
        · cases hb
    | some x =>
      cases mx with
      | some m => cases rest <;> simp [bnd] at hb
      | none =>
        simp only [Option.toList, List.append_nil, List.nil_append, List.map_cons, List.map_nil, List.cons_append] at hv
        obtain ⟨a, c, rfl, h1, h2⟩ := two hv
        cases a <;> cases c <;> simp only [bnd, Option.isSome_none, Option.isSome_some] at hb <;> try (cases hb; done)
        rename_i k n k' m
        split at hb
        · rename_i hc
          simp only [Option.some.injEq, Prod.mk.injEq] at hb
          obtain ⟨rfl, rfl⟩ := hb
          obtain ⟨hc0, hc1, hc2⟩ := hc
          simp only [VRel] at h1 h2
          have hm0 : 0 ≤ m := by omega
          have hn : m ≤ (cap : Int) := by omega
          have hn2 : n ≤ ((m.toNat : Nat) : Int) := by omega
          exact ⟨by simp [Instr.sliceBounds, Instr.sliceBound, asIntOf, h1, h2, hc0, hm0, hn, hn2]; intro hh; omega, by omega, hc2⟩
        · cases hb

theorem s_slc {t e : TypeId} {x : Operand} {lo hi mx : Option Operand} {i : TypeInfo} (ht : P.underlying t = some (.slice e)) (hi' : P.info? e = some i) (ho : o.op = .slice t x lo hi mx)
    (hv : VRels G vals ((x :: (lo.toList ++ (hi.toList ++ mx.toList))).map ρ)) (he : evP (.slc i.size lo.isSome hi.isSome mx.isSome) vals = some v) : Yields1 P G ρ o v := by
  have hsz : ∀ w, (Go.sizeOf e).run P w = .ok i.size w := fun w => by simp [Go.sizeOf, typeInfo, hi']
  cases vals with
  | nil => simp [VRels] at hv
  | cons a rest =>
    simp only [List.map_cons, VRels] at hv
    obtain ⟨c, cs, h0, h1, h2⟩ := hv
    simp only [List.cons.injEq] at h0
    obtain ⟨rfl, rfl⟩ := h0
    cases a
    case slice t' esz i0 k =>
      cases mx with
      | some m => simp only [evP, Option.isSome_some] at he; cases he
      | none =>
      simp only [evP, Option.isSome_none] at he
      cases hb : bnd lo.isSome hi.isSome false k rest with
      | none => rw [hb] at he; simp [slcW] at he
      | some p =>
        obtain ⟨l, h⟩ := p
        rw [hb] at he
        simp only [slcW] at he
        split at he
        · rename_i hc
          obtain ⟨rfl, hc1, hc2, hc3⟩ := hc
          simp only [Option.some.injEq] at he
          simp only [VRel] at h1
          obtain ⟨loc, cap, g1, g2, g3, g4, g5, g6⟩ := h1
          have hne : ¬ cap = l := by omega
          refine ⟨.slice (some ⟨loc.b, i0 * i.size + l * i.size, none⟩) (h - l) (cap - l), ?_, fun w => ?_⟩
          · rw [← he]
            simp only [VRel]
            refine ⟨loc, cap - l, g1, g2, by rw [Nat.add_mul], by omega, by omega, ?_⟩
            rw [← g6]
            congr 1; omega
          · have hbw := (bnd_sound (P := P) (mx := none) (isSlice := true) (cap := cap) g4 h2 hb w).1
            simp only [Option.isSome_none, Bool.false_eq_true, if_false, Option.map_none] at hbw
            simp only [execOp, ho, Sem.run_bind, Instr.sliceAt, Instr.slice, run_underlying ht, Result.andThen_ok, g3, hbw, hsz, Sem.run_pure, Option.map_none]
            rw [if_neg hne]
            simp [Addr.add_lit]
        · cases he
    all_goals simp only [evP] at he
    all_goals try (cases he; done)
    case vs us =>
      cases hb : bnd lo.isSome hi.isSome mx.isSome us.length rest with
      | none => rw [hb] at he; simp [slcV] at he
      | some p =>
        obtain ⟨l, h⟩ := p
        rw [hb] at he
        simp only [slcV] at he
        split at he
        · rename_i hc
          simp only [Option.some.injEq] at he
          simp only [VRel] at h1
          -- the run
          have key : ∀ (a : Option Addr) (cap : Nat), us.length ≤ cap → ρ x = .slice a us.length cap → l ≤ h ∧ h ≤ us.length ∧ ∀ w, (execOp ρ o).run P w = .ok (.value (.slice (if (if mx.isSome then h else cap) = l then a else a.map (·.add (l * i.size))) (h - l) ((if mx.isSome then h else cap) - l))) w := by
            intro a cap hcap hx
            obtain ⟨_, b1, b2⟩ := bnd_sound (P := P) (isSlice := true) (cap := cap) hcap h2 hb default
            refine ⟨b1, b2, fun w => ?_⟩
            have hbw := (bnd_sound (P := P) (isSlice := true) (cap := cap) hcap h2 hb w).1
            simp only [execOp, ho, Sem.run_bind, Instr.sliceAt, Instr.slice, run_underlying ht, Result.andThen_ok, hx, hbw, hsz, Sem.run_pure]
          have seglen : l ≤ h → h ≤ us.length → ((us.drop l).take (h - l)).length = h - l := fun b1 b2 => by simp; omega
          rcases h1 with ⟨rfl, a, cap, hx⟩ | ⟨b, off, esz, cap, hr, hx, hcap⟩
          · obtain ⟨b1, b2, hrun⟩ := key a cap (Nat.zero_le _) hx
            simp only [List.length_nil] at b2
            obtain rfl : h = 0 := by omega
            obtain rfl : l = 0 := by omega
            refine ⟨_, ?_, hrun⟩
            rw [← he]
            cases mx with
            | none => simp only [Option.isSome_none, Bool.false_eq_true, if_false, VRel]; exact .inl ⟨rfl, _, _, rfl⟩
            | some m => simp only [Option.isSome_some, if_true, VRel]; exact .inl ⟨rfl, _, rfl⟩
          · obtain ⟨b1, b2, hrun⟩ := key _ cap hcap hx
            refine ⟨_, ?_, hrun⟩
            rw [← he]
            have hlen := seglen b1 b2
            by_cases hml : (if mx.isSome then h else cap) = l
            · have hhl : h = l := by
                cases mx with
                | none => simp only [Option.isSome_none, Bool.false_eq_true, if_false] at hml; omega
                | some m => simpa using hml
              subst hhl
              cases mx with
              | none => simp only [Option.isSome_none, Bool.false_eq_true, if_false, VRel, Nat.sub_self, List.take_zero]; exact .inl ⟨trivial, _, _, rfl⟩
              | some m => simp only [Option.isSome_some, if_true, VRel, Nat.sub_self, List.take_zero]; exact .inl ⟨trivial, _, rfl⟩
            · have hadd : (some (⟨b, off, none⟩ : Addr)).map (·.add (l * i.size)) = some ⟨b, off + l * i.size, none⟩ := by
                simp only [Option.map_some, Option.some.injEq]
                unfold Addr.add
                split <;> simp_all
              have hrow : VRows G ((us.drop l).take (h - l)) b (off + l * i.size) esz := by
                have := vrows_take (h - l) (vrows_drop l hr)
                rcases hc with hc | hc
                · subst hc; simpa using this
                · rcases Nat.eq_zero_or_pos us.length with h0 | h0
                  · have : us = [] := List.eq_nil_of_length_eq_zero h0
                    subst this; simp [VRows]
                  · have := vrows_esz hr hc (fun e => by rw [e] at h0; simp at h0)
                    rw [← this]; assumption
              rw [if_neg hml, hadd]
              cases mx with
              | none =>
                simp only [Option.isSome_none, Bool.false_eq_true, if_false, VRel]
                refine .inr ⟨b, _, esz, cap - l, hrow, by rw [hlen], by rw [hlen]; omega⟩
              | some m =>
                simp only [Option.isSome_some, if_true, VRel]
                exact .inr ⟨b, _, esz, hrow, by rw [hlen]⟩
        · cases he

theorem s_slt {t : TypeId} {x : Operand} {lo hi : Option Operand} (ht : P.underlying t = some .string) (ho : o.op = .slice t x lo hi none)
    (hv : VRels G vals ((x :: (lo.toList ++ hi.toList)).map ρ)) (he : evP (.slt lo.isSome hi.isSome) vals = some v) : Yields1 P G ρ o v := by
  cases vals with
  | nil => simp [VRels] at hv
  | cons a rest =>
    simp only [List.map_cons, VRels] at hv
    obtain ⟨c, cs, h0, h1, h2⟩ := hv
    simp only [List.cons.injEq] at h0
    obtain ⟨rfl, rfl⟩ := h0
    cases a <;> simp only [evP] at he <;> try (cases he; done)
    rename_i s
    simp only [Option.map_eq_some_iff] at he
    obtain ⟨⟨l, h⟩, hb, rfl⟩ := he
    simp only [VRel] at h1
    refine ⟨_, vstr, fun w => ?_⟩
    obtain ⟨hbw, _, _⟩ := bnd_sound (P := P) (ρ := ρ) (lo := lo) (hi := hi) (mx := none) (isSlice := false) (cap := s.size) (Nat.le_refl _) (by simpa using h2) hb w
    simp only [Option.map_none] at hbw
    simp only [execOp, ho, Sem.run_bind, Instr.sliceAt, Instr.slice, run_underlying ht, Result.andThen_ok, h1, Option.map_none, Option.isSome_none, Bool.false_eq_true, if_false, hbw, Sem.run_pure]

theorem compP_sound {op : Op} {pop : POp} {xs : List Operand} (h : compP P op = some (pop, xs)) (ho : o.op = op) (hv : VRels G vals (xs.map ρ)) (he : evP pop vals = some v) : Yields1 P G ρ o v := by
  unfold compP at h
  split at h
  · cases h; exact s_mov (.inl ho) hv he
  · cases h; exact s_mov (.inr ho) hv he
  · cases h; exact s_pick ho hv he
  · rename_i op t x y yt
    split at h
    · split at h
      · cases h; exact s_shf (left := true) ho hv he
      · cases h; exact s_shf (left := false) ho hv he
      · cases h; exact s_binI ho hv he
    · cases h; exact s_binS ho hv he
    · rename_i ht
      split at h
      · cases h; exact s_eqB (neg := false) ht ho hv he
      · cases h; exact s_eqB (neg := true) ht ho hv he
      · cases h
    · rename_i fs ht
      split at h
      · cases h
      · rename_i hg
        split at h
        · simp only [Option.map_eq_some_iff] at h; obtain ⟨l, hl, h⟩ := h; cases h; exact s_eqa (neg := false) ht (.inl ⟨_, rfl⟩) (by simpa using hg) hl ho hv he
        · simp only [Option.map_eq_some_iff] at h; obtain ⟨l, hl, h⟩ := h; cases h; exact s_eqa (neg := true) ht (.inl ⟨_, rfl⟩) (by simpa using hg) hl ho hv he
        · cases h
    · rename_i n e ht
      split at h
      · cases h
      · rename_i hg
        split at h
        · simp only [Option.map_eq_some_iff] at h; obtain ⟨l, hl, h⟩ := h; cases h; exact s_eqa (neg := false) ht (.inr ⟨_, _, rfl⟩) (by simpa using hg) hl ho hv he
        · simp only [Option.map_eq_some_iff] at h; obtain ⟨l, hl, h⟩ := h; cases h; exact s_eqa (neg := true) ht (.inr ⟨_, _, rfl⟩) (by simpa using hg) hl ho hv he
        · cases h
    all_goals first | (cases h; done) | skip
    all_goals
      rename_i ht
      unfold nilOp at h
      split at h
      · rename_i hy
        split at h
        · cases h; exact s_eqN (neg := false) ht rfl hy ho hv he
        · cases h; exact s_eqN (neg := true) ht rfl hy ho hv he
        · cases h
      · cases h
  · split at h
    · cases h; exact s_neg ho hv he
    · cases h; exact s_not ho hv he
    · cases h
  · split at h
    · rename_i hs hd; cases h; exact s_conv hs hd ho hv he
    · cases h
  · split at h
    · rename_i fs z hu hz
      simp only [Option.bind_eq_some_iff, Option.map_eq_some_iff] at hz h
      obtain ⟨i, hi, hz⟩ := hz
      obtain ⟨pl, hpl, zs, hzs, ps, hps, h⟩ := h
      cases h
      exact s_build hi hz hzs hps (fun parts cells w hf => run_build_struct hu hi hz hpl parts cells w hf) ho hv he
    · rename_i n e z hu hz
      simp only [Option.bind_eq_some_iff, Option.map_eq_some_iff] at hz h
      obtain ⟨i, hi, hz⟩ := hz
      obtain ⟨ie, hie, zs, hzs, ps, hps, h⟩ := h
      cases h
      exact s_build hi hz hzs hps (fun parts cells w hf => run_build_array hu hi hz hie parts cells w hf) ho hv he
    · cases h
  · cases h; exact s_mkfn ho hv he
  · split at h
    · rename_i fs hs
      simp only [Option.bind_eq_some_iff] at h
      obtain ⟨f, hf, i, hi, h⟩ := h
      split at h
      · cases h
      · rename_i hz; cases h; exact s_faddr hs hf hi hz ho hv he
    · cases h
  · split at h
    · rename_i fs hs
      simp only [Option.bind_eq_some_iff] at h
      obtain ⟨f, hf, ⟨ag, n⟩, hi, h⟩ := h
      split at h
      · cases h
      · rename_i hz; cases h; exact s_field hs hf hi (fun e => Decidable.byContradiction fun x => hz ⟨e, x⟩) ho hv he
    · cases h
  · split at h
    · rename_i e ht
      simp only [Option.map_eq_some_iff] at h
      obtain ⟨i, hi, h⟩ := h
      cases h; exact s_iaddrS ht hi ho hv he
    · rename_i n e ht
      simp only [Option.map_eq_some_iff] at h
      obtain ⟨i, hi, h⟩ := h
      cases h; exact s_iaddrA ht hi ho hv he
    · cases h
  · split at h
    · rename_i n e ht
      simp only [Option.bind_eq_some_iff] at h
      obtain ⟨⟨ag, s⟩, hi, h⟩ := h
      split at h
      · cases h
      · rename_i hz; cases h; exact s_idxA ht hi (fun e => Decidable.byContradiction fun x => hz ⟨e, x⟩) ho hv he
    · rename_i ht; cases h; exact s_idxS ht ho hv he
    · cases h
  · split at h
    · simp only [Option.map_eq_some_iff] at h
      obtain ⟨i, hi, h⟩ := h
      cases h; exact s_slc (by assumption) hi ho hv he
    · rename_i ht
      split at h
      · cases h
      · rename_i hmx
        cases h
        rename_i mx _
        cases mx with
        | some m => simp at hmx
        | none => exact s_slt ht ho hv he
    · cases h
  · cases h; exact s_ext ho hv he
  · cases h; exact s_nilck ho hv he
  · split at h
    · rename_i hc; cases h; exact s_mkif hc ho hv he
    · cases h
  · split at h
    · rename_i x e ha hat
      cases h
      simp only [Option.bind_eq_some_iff] at hat
      obtain ⟨t, hat, ht⟩ := hat
      exact s_len ht ha hat ho hv he
    · rename_i x ha hat
      cases h
      simp only [Option.bind_eq_some_iff] at hat
      obtain ⟨t, hat, ht⟩ := hat
      exact s_lenT ht ha hat ho hv he
    · rename_i x n e ha hat
      cases h
      simp only [Option.bind_eq_some_iff] at hat
      obtain ⟨t, hat, ht⟩ := hat
      exact s_lenC ht ha hat ho hv he
    · cases h; exact s_mm (isMax := false) ho hv he
    · cases h; exact s_mm (isMax := true) ho hv he
    · cases h
  · cases h

end
end Eng

namespace Eng
open Go
set_option linter.unusedSimpArgs false
set_option linter.unusedVariables false

inductive Opd where
  | t (n : Nat)
  | c (v : AV)

structure AState where
  tm : List AV
  hp : List HEnt
  next : Nat

def getT : List AV → Nat → AV
  | [], _ => .any
  | v :: _, 0 => v
  | _ :: l, n + 1 => getT l n

def setT : List AV → Nat → AV → List AV
  | [], _, _ => []
  | _ :: l, 0, x => x :: l
  | v :: l, n + 1, x => v :: setT l n x

def evO (tm : List AV) : Opd → AV
  | .t n => getT tm n
  | .c v => v

def evs (tm : List AV) : List Opd → List AV
  | [] => []
  | x :: xs => evO tm x :: evs tm xs

inductive AOp where
  | p (o : POp)
  | load (size : Nat) (ag : Bool)
  | call (f : Nat)
  | callv
  | fbs (esz : Nat)
  | alloc (e esz : Nat) (vals : List AV)
  | box (e esz n : Nat) (ag : Bool)
  | bsl (e esz : Nat)
  | store (size : Nat) (ag : Bool)
  | app (e esz bytes : Nat)
  | mks (e bytes : Nat) (z : AV)
  | cpy

structure AOper where
  dst : Option Nat
  op : AOp
  xs : List Opd
  guard : Option (Nat × Bool)

abbrev Look := Nat → Option HEnt

/-- values that a call may be handed: what is still written is read now -/
def pur (lk : Look) : AV → Option AV
  | .slice t esz i n =>
    match lk t with
    | some ⟨_, _, .rows _ esz' vals⟩ => if esz = esz' ∧ i + n ≤ vals.length then some (.vs ((vals.drop i).take n)) else none
    | _ => none
  | .nilslice => some (.vs [])
  | v => some v

def purs (lk : Look) : List AV → Option (List AV)
  | [] => some []
  | v :: vs => (pur lk v).bind fun a => (purs lk vs).map fun r => a :: r

def isSl : AV → Bool
  | .slice .. => true
  | _ => false

/-- nothing in it leads to memory -/
def AV.leaf : AV → Bool
  | .bool _ | .int .. | .str _ | .nilptr | .nilslice | .nilmap | .nilfn | .nilif => true
  | _ => false
def AV.flatV : AV → Bool
  | .agg cs => cs.all AV.leaf
  | .tup us => us.all fun u => match u with | .agg cs => cs.all AV.leaf | u => u.leaf
  | v => v.leaf

def obind {α β : Type} (x : Option α) (f : α → Option β) : Option β := x.bind f
theorem obind_some {α β : Type} (a : α) (f : α → Option β) : obind (some a) f = f a := rfl
theorem obind_none {α β : Type} (f : α → Option β) : obind none f = none := rfl

/-- only if c holds -/
def gif (c : Bool) (r : Option AV) : Option AV := if c then r else some (.tup [])
theorem gif_some (c : Bool) (v : AV) : gif c (some v) = some (optv c v) := by cases c <;> rfl
theorem gif_true (r : Option AV) : gif true r = r := rfl
theorem gif_false (r : Option AV) : gif false r = some (.tup []) := rfl
@[congr] theorem gif_congr {c c' : Bool} {r r' : Option AV} (hc : c = c') (h : c' = true → r = r') : gif c r = gif c' r' := by
  subst hc
  cases c with
  | true => exact h rfl
  | false => rfl

def gbool (want : Bool) : AV → Option Bool
  | .bool b => some (if want then b else !b)
  | .tup [] => some false
  | _ => none
theorem gbool_opt (want c b : Bool) : gbool want (optv c (.bool b)) = some (c && (if want then b else !b)) := by cases c <;> rfl

def AState.put (s : AState) (dst : Option Nat) (v : AV) : AState :=
  match dst with
  | some d => { s with tm := setT s.tm d v }
  | none => s

def putV (s : AState) (dst : Option Nat) (v : AV) : Option AState := some (s.put dst v)

/-- contracts: of function f, called with these values, the result -/
abbrev Ctx := Nat → List AV → Option AV

def callV (cs : Ctx) (lk : Look) (f : Nat) (vals : List AV) : Option AV :=
  (purs lk vals).bind fun as => (cs f as).bind fun v => if vals.any isSl = false ∨ v.flatV = true then some v else none

def rdV (vals : List AV) (i j size : Nat) (ag : Bool) : Option AV :=
  (vals[i]?).bind fun v =>
    if ag then
      if j = 0 ∧ size = v.cells.length then (if v.isAgg then some v else none)
      else if j + size ≤ v.cells.length then some (.agg ((v.cells.drop j).take size)) else none
    else v.cells[j]?

def loadV (lk : Look) (size : Nat) (ag : Bool) : AV → Option AV
  | .ptr t esz i j =>
    match lk t with
    | some ⟨_, _, .rows _ esz' vals⟩ => if esz = esz' then rd esz vals i j size ag else none
    | _ => none
  | .vp vals i j => rdV vals i j size ag
  | _ => none

/-- operations that change nothing but their own slot -/
def valOp (cs : Ctx) (lk : Look) : AOp → List AV → Option AV
  | .p o, vals => evP o vals
  | .load size ag, [x] => loadV lk size ag x
  | .call f, vals => callV cs lk f vals
  | .callv, .fn f first cap :: vals => callV cs lk f (first ++ vals ++ cap)
  | .fbs esz, vals => if vals.all (fun v => decide (v.cells.length = esz) && v.cells.all AV.sc) then some (.vs vals) else none
  | _, _ => none

def AOp.isEff : AOp → Bool
  | .p _ | .load .. | .call _ | .callv | .fbs _ => false
  | _ => true

def storeV (lk : Look) (size : Nat) (ag : Bool) : AV → AV → Option Eff
  | .ptr t esz i j, x =>
    match lk t with
    | some ⟨_, g, .rows e esz' vals⟩ => if esz = esz' then (wr esz vals i j size ag x).map fun vals' => .set t g (.rows e esz vals') else none
    | _ => none
  | _, _ => none

/-- the rows that an append takes -/
def srcV (lk : Look) (esz : Nat) : AV → Option (List AV)
  | .slice t esz' i n =>
    match lk t with
    | some ⟨_, _, .rows _ esz'' vals⟩ => if esz' = esz ∧ esz'' = esz ∧ i + n ≤ vals.length then some ((vals.drop i).take n) else none
    | _ => none
  | .vs vals => if vals.all (fun v => decide (v.cells.length = esz)) then some vals else none
  | .nilslice => some []
  | _ => none

def appV (lk : Look) (id e esz bytes : Nat) : AV → AV → Option (AV × Eff)
  | .nilslice, x =>
    (srcV lk esz x).bind fun xs =>
      if xs.length = 0 then some (.nilslice, .no)
      else if xs.length * bytes ≤ 140737488355328 ∧ xs.length ≤ maxLen then some (.slice id esz 0 xs.length, .new ⟨id, id, .rows e esz xs⟩) else none
  | .vx vals, x =>
    (srcV lk esz x).bind fun xs =>
      if (vals.all fun v => decide (v.cells.length = esz)) = true ∧ 0 < xs.length ∧ (vals.length + xs.length) * bytes ≤ 140737488355328 ∧ vals.length + xs.length ≤ maxLen then
        some (.slice id esz 0 (vals.length + xs.length), .new ⟨id, id, .rows e esz (vals ++ xs)⟩)
      else none
  | .slice t esz' i n, x =>
    match lk t with
    | some ⟨_, g, .rows e' esz'' vals⟩ =>
      (srcV lk esz x).bind fun xs =>
        if esz' = esz ∧ esz'' = esz ∧ e' = e ∧ i = 0 ∧ n = vals.length ∧ (n + xs.length) * bytes ≤ 140737488355328 ∧ n + xs.length ≤ maxLen then
          some (.slice id esz 0 (n + xs.length), .ext t g ⟨id, g, .rows e esz (vals ++ xs)⟩)
        else none
    | _ => none
  | _, _ => none

/-- 'copy' into a block, one cell an element -/
def cpyV (lk : Look) : AV → AV → Option (AV × Eff)
  | .slice t esz i n, x =>
    match lk t with
    | some ⟨_, g, .rows e esz' vals⟩ =>
      (srcV lk 1 x).bind fun xs =>
        if esz = 1 ∧ esz' = 1 ∧ i + n ≤ vals.length then some (.int .i64 (xs.take n).length, .set t g (.rows e 1 (vals.take i ++ (xs.take n ++ vals.drop (i + (xs.take n).length))))) else none
    | _ => none
  | _, _ => none

/-- operations that change memory: the value, and what they change; a new block gets the number id -/
def effOp (lk : Look) (id : Nat) : AOp → List AV → Option (AV × Eff)
  | .alloc e esz vals, [] => some (.ptr id esz 0 0, .new ⟨id, id, .rows e esz vals⟩)
  | .box e esz n ag, [x] =>
    if ag then
      if x.isAgg ∧ x.cells.length = n * esz ∧ x.cells.all AV.sc = true then
        some (.ptr id esz 0 0, .new ⟨id, id, .rows e esz (if n = 1 then [x] else rowsOf esz n x.cells)⟩)
      else none
    else if x.sc ∧ esz = 1 ∧ n = 1 then some (.ptr id 1 0 0, .new ⟨id, id, .rows e 1 [x]⟩) else none
  | .bsl e esz, vals =>
    if vals.all (fun v => decide (v.cells.length = esz) && v.cells.all AV.sc) then some (.slice id esz 0 vals.length, .new ⟨id, id, .rows e esz vals⟩) else none
  | .store size ag, [a, x] => (storeV lk size ag a x).map fun f => (.tup [], f)
  | .app e esz bytes, [a, x] => appV lk id e esz bytes a x
  | .mks e bytes z, [.int _ l, .int _ c] => if l = c ∧ 0 ≤ l ∧ l.toNat * bytes ≤ 140737488355328 ∧ l.toNat ≤ maxLen ∧ z.sc = true then some (.slice id 1 0 l.toNat, .new ⟨id, id, .rows e 1 (List.replicate l.toNat z)⟩) else none
  | .cpy, [d, x] => cpyV lk d x
  | _, _ => none

def dropG : List HEnt → (t g : Nat) → List HEnt
  | [], _, _ => []
  | e :: r, t, g => if e.grp = g then (if e.id = t then e :: dropG r t g else dropG r t g) else e :: dropG r t g

def applyE : Eff → List HEnt → List HEnt
  | .no, hp => hp
  | .new e, hp => e :: hp
  | .set t g k, hp => setB hp t g k
  | .ext t g e, hp => e :: dropG hp t g

def putE (s : AState) (dst : Option Nat) (r : AV × Eff) : Option AState := some { tm := (s.put dst r.1).tm, hp := applyE r.2 s.hp, next := s.next + 1 }

def stepR (cs : Ctx) (o : AOper) (s : AState) : Option AState :=
  if o.op.isEff then obind (effOp (getE s.hp) s.next o.op (evs s.tm o.xs)) (putE s o.dst) else obind (valOp cs (getE s.hp) o.op (evs s.tm o.xs)) (putV s o.dst)

def stepG (cs : Ctx) (o : AOper) (s : AState) (c : Bool) : Option AState :=
  if o.op.isEff then (if c then stepR cs o s else some (s.put o.dst (.tup [])))
  else obind (gif c (valOp cs (getE s.hp) o.op (evs s.tm o.xs))) (putV s o.dst)

def step (cs : Ctx) (o : AOper) (s : AState) : Option AState :=
  match o.guard with
  | none => stepR cs o s
  | some (g, want) => obind (gbool want (getT s.tm g)) (stepG cs o s)

def run (cs : Ctx) : List AOper → AState → Option AState
  | [], s => some s
  | o :: os, s => obind (step cs o s) (run cs os)

end Eng
