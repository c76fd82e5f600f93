/-
  THE ENGINE, PART I: 'compP' is sound (the rest).
-/
import Derived.Test.YtjfhhaaogcgkpaaEngH
namespace Eng
open Go
set_option linter.unusedSimpArgs false
set_option linter.unusedVariables false

section
variable {P : Program} {G : Ghost} {ρ : Operand → Value} {o : Oper} {v : AV} {vals : List AV}

def nkOf : NK → TypeDesc → Bool
  | .p, .pointer _ => true
  | .s, .slice _ => true
  | .m, .map .. => true
  | .f, .func .. => true
  | .i, .interface _ => true
  | _, _ => false

theorem run_eqN {k : NK} {a b : AV} {r : Bool} (h : eqNV k a b = some r) {t : TypeId} {d : TypeDesc} (hd : P.underlying t = some d) (hk : nkOf k d = true) {x y : Value} (h1 : VRel G a x) (h2 : VRel G b y) (w : World) :
    (Op.equal t x y).run P w = .ok r w := by
  show (Op.equalIn (9999 + 1) t x y).run P w = .ok r w
  generalize 9999 = m
  unfold eqNV at h
  split at h <;> cases h
  all_goals
    simp only [VRel] at h1 h2
    cases d <;> simp [nkOf] at hk
  · subst h1; subst h2; simp [Op.equalIn, run_underlying hd]
  · obtain ⟨_, _, _, rfl⟩ := h1; subst h2; simp [Op.equalIn, run_underlying hd]
  · obtain ⟨_, _, _, _, rfl⟩ := h1; subst h2; simp [Op.equalIn, run_underlying hd]
  · subst h1; subst h2; simp [Op.equalIn, run_underlying hd]
  · obtain ⟨_, _, _, _, rfl, _⟩ := h1; subst h2; simp [Op.equalIn, run_underlying hd]
  · subst h1; subst h2; simp [Op.equalIn, run_underlying hd]
  · obtain ⟨_, _, rfl⟩ := h1; subst h2; simp [Op.equalIn, run_underlying hd]
  · subst h1; subst h2; simp [Op.equalIn, run_underlying hd]
  · obtain ⟨_, _, _, _, rfl⟩ := h1; subst h2; simp [Op.equalIn, run_underlying hd]
  · subst h1; subst h2; simp [Op.equalIn, run_underlying hd]
  · obtain ⟨_, _, rfl⟩ := h1; subst h2; simp [Op.equalIn, run_underlying hd]

theorem eqNV_noAgg {k : NK} {a b : AV} {r : Bool} (h : eqNV k a b = some r) {x y : Value} (h1 : VRel G a x) (h2 : VRel G b y) :
    (∀ xs ys, ¬ (x = .agg xs ∧ y = .agg ys)) ∧ (∀ t, (binOp .eql t x y) = (do pure (.bool (← Op.equal t x y))) ∧ (binOp .neq t x y) = (do pure (.bool (!(← Op.equal t x y))))) := by
  unfold eqNV at h
  split at h <;> cases h
  all_goals simp only [VRel] at h1 h2
  · subst h1; subst h2; exact ⟨by simp, fun t => ⟨rfl, rfl⟩⟩
  · obtain ⟨_, _, _, rfl⟩ := h1; subst h2; exact ⟨by simp, fun t => ⟨rfl, rfl⟩⟩
  · obtain ⟨_, _, _, _, rfl⟩ := h1; subst h2; exact ⟨by simp, fun t => ⟨rfl, rfl⟩⟩
  · subst h1; subst h2; exact ⟨by simp, fun t => ⟨rfl, rfl⟩⟩
  · obtain ⟨_, _, _, _, rfl, _⟩ := h1; subst h2; exact ⟨by simp, fun t => ⟨rfl, rfl⟩⟩
  · subst h1; subst h2; exact ⟨by simp, fun t => ⟨rfl, rfl⟩⟩
  · obtain ⟨_, _, rfl⟩ := h1; subst h2; exact ⟨by simp, fun t => ⟨rfl, rfl⟩⟩
  · subst h1; subst h2; exact ⟨by simp, fun t => ⟨rfl, rfl⟩⟩
  · obtain ⟨_, _, _, _, rfl⟩ := h1; subst h2; exact ⟨by simp, fun t => ⟨rfl, rfl⟩⟩
  · subst h1; subst h2; exact ⟨by simp, fun t => ⟨rfl, rfl⟩⟩
  · obtain ⟨_, _, rfl⟩ := h1; subst h2; exact ⟨by simp, fun t => ⟨rfl, rfl⟩⟩

theorem s_eqN {neg : Bool} {k : NK} {t yt : TypeId} {d : TypeDesc} {x y : Operand} (hd : P.underlying t = some d) (hk : nkOf k d = true) (hy : isC y = true) (ho : o.op = .binOp (if neg then .neq else .eql) t x y yt)
    (hv : VRels G vals [ρ x, ρ y]) (he : evP (.eqN neg k) vals = some v) : Yields1 P G ρ o v := by
  obtain ⟨a, b, rfl, h1, h2⟩ := two hv
  simp only [evP, Option.map_eq_some_iff] at he
  obtain ⟨r, hr, rfl⟩ := he
  obtain ⟨hna, hb⟩ := eqNV_noAgg hr h1 h2
  have hq := fun w => run_eqN (P := P) hr hd hk h1 h2 w
  refine ⟨_, vbool, fun w => ?_⟩
  have hg := run_eqGuard_other (P := P) (if neg then .neq else .eql) t x y (ρ x) (ρ y) hna (.inr hy) w
  simp only [execOp, ho, Sem.run_bind, hg, Result.andThen_ok]
  cases neg
  · simp [(hb t).1, hq]
  · simp [(hb t).2, hq]

theorem s_eqa {neg : Bool} {t yt : TypeId} {l : List LK} {x y : Operand} {d : TypeDesc} (hu : P.underlying t = some d) (hst : (∃ fs, d = .struct fs) ∨ ∃ n e, d = .array n e) (hg : P.eqGuardType P.depth t = false) (hl : leaves P 8 t = some l)
    (ho : o.op = .binOp (if neg then .neq else .eql) t x y yt) (hv : VRels G vals [ρ x, ρ y]) (he : evP (.eqa neg l) vals = some v) : Yields1 P G ρ o v := by
  obtain ⟨a, b, rfl, h1, h2⟩ := two hv
  cases a <;> cases b <;> simp only [evP] at he <;> try (cases he; done)
  simp only [Option.map_eq_some_iff] at he
  obtain ⟨r, hr, rfl⟩ := he
  simp only [VRel] at h1 h2
  obtain ⟨cs, h3, h4, h5⟩ := h1
  obtain ⟨ds, h6, h7, h8⟩ := h2
  have heq := eqL_of hr h3 h6
  obtain ⟨ag, hag⟩ := leaves_len hl
  have hagt : ag = true := by
    unfold tyAgg at hag
    rw [hu] at hag
    cases hi : P.info? t with
    | none => simp [hi] at hag
    | some i =>
      simp only [hi, Option.some.injEq, Prod.mk.injEq] at hag
      rcases hst with ⟨fs, rfl⟩ | ⟨n, e, rfl⟩ <;> exact hag.1.symm
  refine ⟨_, vbool, fun w => ?_⟩
  have hrun := (equalIn_leaves (P := P) w 9992 8 t l ag hl hag).2 cs ds r heq
  have hguard : (eqGuard (if neg then .neq else .eql) t x y (ρ x) (ρ y)).run P w = .ok () w := by
    rw [h5, h8]; exact run_eqGuard_agg w _ t x y _ _ hg
  simp only [execOp, ho, Sem.run_bind, hguard, Result.andThen_ok]
  rw [h5, h8]
  subst hagt
  simp only [partOf, if_true] at hrun
  have hrun' : (Op.equalIn 10000 t (.agg cs.toArray) (.agg ds.toArray)).run P w = .ok r w := hrun
  cases neg
  · simp only [Bool.false_eq_true, if_false, run_eql_struct, hrun', Result.andThen_ok, Sem.run_pure]
  · simp only [if_true, run_neq_struct, hrun', Result.andThen_ok, Sem.run_pure]

end
end Eng
