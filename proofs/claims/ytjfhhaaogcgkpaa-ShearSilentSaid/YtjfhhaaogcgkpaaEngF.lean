/-
  THE ENGINE, PART F: 'compP' is sound.
-/
import Derived.Test.YtjfhhaaogcgkpaaEngE
namespace Eng
open Go
set_option linter.unusedSimpArgs false
set_option linter.unusedVariables false

theorem vint {G : Ghost} {k : IntKind} {n : Int} : VRel G (.int k n) (.int k n) := by simp only [VRel]
theorem vbool {G : Ghost} {b : Bool} : VRel G (.bool b) (.bool b) := by simp only [VRel]
theorem vstr {G : Ghost} {b : ByteArray} : VRel G (.str b) (.string b) := by simp only [VRel]

theorem int_beq (a b : Int) : (a == b) = decide (a = b) := by rw [Bool.eq_iff_iff]; simp
theorem int_bne (a b : Int) : (a != b) = !decide (a = b) := by simp [bne, int_beq]

theorem one {G : Ghost} {vals : List AV} {c : Value} (h : VRels G vals [c]) : ∃ a, vals = [a] ∧ VRel G a c := by
  cases vals with
  | nil => simp [VRels] at h
  | cons a vs => cases vs with
    | nil => obtain ⟨d, hd, h1⟩ := vrels1 h; cases hd; exact ⟨a, rfl, h1⟩
    | cons b vs => have := h.length; simp at this
theorem two {G : Ghost} {vals : List AV} {c d : Value} (h : VRels G vals [c, d]) : ∃ a b, vals = [a, b] ∧ VRel G a c ∧ VRel G b d := by
  have := h.length
  match vals, this, h with
  | [a, b], _, h => obtain ⟨c', d', hd, h1, h2⟩ := vrels2 h; cases hd; exact ⟨a, b, rfl, h1, h2⟩
theorem three {G : Ghost} {vals : List AV} {c d e : Value} (h : VRels G vals [c, d, e]) : ∃ a b x, vals = [a, b, x] ∧ VRel G a c ∧ VRel G b d ∧ VRel G x e := by
  have := h.length
  match vals, this, h with
  | [a, b, x], _, h => obtain ⟨c', d', e', hd, h1, h2, h3⟩ := vrels3 h; cases hd; exact ⟨a, b, x, rfl, h1, h2, h3⟩

section
variable {P : Program} {G : Ghost} {ρ : Operand → Value} {o : Oper} {v : AV} {vals : List AV}

theorem Yields1.of {cv : Value} (h : VRel G v cv) (hr : ∀ w, (execOp ρ o).run P w = .ok (.value cv) w) : Yields1 P G ρ o v := ⟨cv, h, hr⟩

theorem s_mov {x : Operand} (ho : o.op = .move x ∨ o.op = .assign x) (hv : VRels G vals [ρ x]) (he : evP .mov vals = some v) : Yields1 P G ρ o v := by
  obtain ⟨a, rfl, h1⟩ := one hv
  · simp only [evP, Option.some.injEq] at he
    subst he
    exact .of h1 fun w => by rcases ho with ho | ho <;> simp [execOp, ho]

theorem s_pick {c a b : Operand} (ho : o.op = .pick c a b) (hv : VRels G vals [ρ c, ρ a, ρ b]) (he : evP .pick vals = some v) : Yields1 P G ρ o v := by
  obtain ⟨x, y, z, rfl, h1, h2, h3⟩ := three hv
  · clear hv
    simp only [evP] at he
    cases x <;> simp [pickV] at he
    rename_i t
    simp only [VRel] at h1
    subst he
    cases t
    · exact ⟨ρ b, by simpa using h3, fun w => by simp [execOp, ho, h1, asBool]⟩
    · exact ⟨ρ a, by simpa using h2, fun w => by simp [execOp, ho, h1, asBool]⟩

theorem run_bin_int {op : BinOp} {k : IntKind} {a b : Int} {r : AV} (h : binIV op k a b = some r) (G : Ghost) (t : TypeId) :
    ∃ cv, VRel G r cv ∧ ∀ w, (binOp op t (.int k a) (.int k b)).run P w = .ok cv w := by
  cases op <;> simp only [binIV, Option.some.injEq] at h <;> try (cases h; done)
  case quo =>
    split at h
    · cases h
    · rename_i hb; cases h; exact ⟨_, vint, fun w => by simp [binOp, Op.intDiv, hb]⟩
  case rem =>
    split at h
    · cases h
    · rename_i hb; cases h; exact ⟨_, vint, fun w => by simp [binOp, Op.intDiv, hb]⟩
  all_goals subst h
  case add | sub | mul => exact ⟨_, vint, fun w => by simp [binOp, Op.intArith]⟩
  all_goals
    refine ⟨_, vbool, fun w => ?_⟩
    simp only [binOp, Op.intCmp, ne_eq, not_true, if_false, int_beq, int_bne, Sem.run_pure]
    try rfl

theorem s_binI {op : BinOp} {t yt : TypeId} {x y : Operand} (ho : o.op = .binOp op t x y yt) (hv : VRels G vals [ρ x, ρ y]) (he : evP (.binI op) vals = some v) : Yields1 P G ρ o v := by
  obtain ⟨a, b, rfl, h1, h2⟩ := two hv
  · clear hv
    cases a <;> simp [evP] at he
    rename_i k n
    cases b <;> simp [evP] at he
    rename_i k' m
    obtain ⟨rfl, he⟩ := he
    simp only [VRel] at h1 h2
    obtain ⟨cv, h3, h4⟩ := run_bin_int (P := P) he G t
    refine ⟨cv, h3, fun w => ?_⟩
    have hg := run_eqGuard_other (P := P) op t x y (ρ x) (ρ y) (by simp [h1]) (.inl (by simp [h1])) w
    simp only [execOp, ho, Sem.run_bind, hg, Result.andThen_ok]
    rw [h1, h2, h4]
    rfl

theorem s_shf {left : Bool} {t yt : TypeId} {x y : Operand} (ho : o.op = .binOp (if left then .shl else .shr) t x y yt) (hv : VRels G vals [ρ x, ρ y]) (he : evP (.shf left) vals = some v) : Yields1 P G ρ o v := by
  obtain ⟨a, b, rfl, h1, h2⟩ := two hv
  · clear hv
    cases a <;> simp [evP] at he
    rename_i k n
    cases b <;> simp [evP] at he
    rename_i k' m
    obtain ⟨hm, he⟩ := he
    simp only [VRel] at h1 h2
    subst he
    have hm' : ¬ m < 0 := by omega
    refine ⟨_, vint, fun w => ?_⟩
    have hg := run_eqGuard_other (P := P) (if left then .shl else .shr) t x y (ρ x) (ρ y) (by simp [h1]) (.inl (by simp [h1])) w
    simp only [execOp, ho, Sem.run_bind, hg, Result.andThen_ok]
    rw [h1, h2]
    cases left <;> simp [binOp, Op.shift, hm']

theorem s_binS {op : BinOp} {t yt : TypeId} {x y : Operand} (ho : o.op = .binOp op t x y yt) (hv : VRels G vals [ρ x, ρ y]) (he : evP (.binS op) vals = some v) : Yields1 P G ρ o v := by
  obtain ⟨a, b, rfl, h1, h2⟩ := two hv
  · clear hv
    cases a <;> simp [evP] at he
    rename_i n
    cases b <;> simp [evP] at he
    rename_i m
    simp only [VRel] at h1 h2
    have hg := fun w => run_eqGuard_other (P := P) op t x y (ρ x) (ρ y) (by simp [h1]) (.inl (by simp [h1])) w
    have key : ∀ cv, VRel G v cv → (∀ w, (binOp op t (.string n) (.string m)).run P w = .ok cv w) → Yields1 P G ρ o v := fun cv hcv hr => by
      refine ⟨cv, hcv, fun w => ?_⟩
      simp only [execOp, ho, Sem.run_bind, hg, Result.andThen_ok]
      rw [h1, h2, hr]
      rfl
    cases op <;> simp only [binSV, Option.some.injEq] at he <;> try (cases he; done)
    case add =>
      split at he
      · rename_i hle
        cases he
        refine key _ vstr fun w => ?_
        have : ¬ ((n.size + m.size : Nat) : Int) > IntKind.i64.max := by
          have : IntKind.i64.max = 9223372036854775807 := by decide
          rw [this]; omega
        simp only [binOp, Op.stringOp, if_neg this]
        rfl
      · cases he
    all_goals
      subst he
      refine key _ vbool fun w => ?_
      simp only [binOp, Op.stringOp, bytes_eq]
      rfl

theorem s_eqB {neg : Bool} {t yt : TypeId} {x y : Operand} (ht : P.underlying t = some .bool) (ho : o.op = .binOp (if neg then .neq else .eql) t x y yt) (hv : VRels G vals [ρ x, ρ y]) (he : evP (.eqB neg) vals = some v) : Yields1 P G ρ o v := by
  obtain ⟨a, b, rfl, h1, h2⟩ := two hv
  · clear hv
    cases a <;> simp [evP] at he
    rename_i n
    cases b <;> simp [evP] at he
    rename_i m
    subst he
    simp only [VRel] at h1 h2
    have hg := fun w => run_eqGuard_other (P := P) (if neg then .neq else .eql) t x y (ρ x) (ρ y) (by simp [h1]) (.inl (by simp [h1])) w
    have hq : ∀ w, (Op.equal t (.bool n) (.bool m)).run P w = .ok (n == m) w := fun w => run_equalIn_bool' w 9999 t n m ht
    have e : (n == m) = decide (n = m) := by cases n <;> cases m <;> rfl
    refine ⟨_, vbool, fun w => ?_⟩
    simp only [execOp, ho, Sem.run_bind, hg, Result.andThen_ok]
    rw [h1, h2]
    cases neg <;> simp [binOp, hq, e]

end
end Eng
