/-
  THE ENGINE, PART N: every operation of the engine is sound.
-/
import Derived.Test.YtjfhhaaogcgkpaaEngM
namespace Eng
open Go Go.RowKit
set_option linter.unusedSimpArgs false
set_option linter.unusedVariables false

section
variable {P : Program} {G : Ghost} {M : HEnt → Prop} {fr : Nat → Prop} {w : World} {a : Act} {o : Oper} {v : AV} {vals : List AV} {r : Option Nat} {n : Nat}
  {K : Act → World → Prop} {Q : Exit → Act → World → Prop} {lk : Look}

theorem uponIn_run_value {cv : Value} {w' : World} (hd : ∀ c, o.op ≠ .defer c) (h : (execOp a.eval o).run P w = .ok (.value cv) w') (hK : K (a.put o.dst cv) w') : o.wpIn (FW r) n P a w K Q :=
  wpIn_run hd h hK

/-- the free numbers behind an operation -/
def frE : Eff → (Nat → Prop) → Nat → Prop
  | .new e, fr, t => fr t ∧ t ≠ e.id
  | .ext _ _ e, fr, t => fr t ∧ t ≠ e.id
  | _, fr, t => fr t

inductive CA (P : Program) : Op → AOp → List Operand → Prop
  | p {op p xs} (h : compP P op = some (p, xs)) : CA P op (.p p) xs
  | load {t x ag n} (h : tyAgg P t = some (ag, n)) (hn : ag = false → n = 1) : CA P (.load t x) (.load n ag) [x]
  | store {t x y ag n} (h : tyAgg P t = some (ag, n)) (hn : ag = false → n = 1) : CA P (.store t x y) (.store n ag) [x, y]
  | alloc1 {t i z zs esz k} (hi : P.info? t = some i) (hz : i.zero = some z) (hzs : absL z.cells.toList = some zs) (hl : zs.length = k * esz) : CA P (.alloc t) (.alloc t esz (if k = 1 then [.agg zs] else rowsOf esz k zs)) []
  | alloc2 {t i z zv} (hi : P.info? t = some i) (hz : i.zero = some z) (hzs : absS z = some zv) : CA P (.alloc t) (.alloc t 1 [zv]) []
  | box {t x ag esz k} : CA P (.box t x) (.box t esz k ag) [x]
  | bs {t e len parts i z} {fz : Bool} (ht : P.underlying t = some (.slice e)) (hi : P.info? e = some i) (hz : i.zero = some z) (hlen : parts.size = len) (hin : inOrder parts.toList 0 = true) (hb : len * i.size ≤ 16777216) (hzs : z.cells.size = i.size) (hs : i.size ≠ 0) :
      CA P (.buildSlice t len parts) (if fz then .fbs i.size else .bsl e i.size) (parts.toList.map (·.2))
  | call {f args argTypes} : CA P (.call { callee := .value (.func f), args, argTypes }) (.call f) args.toList
  | callv {t args argTypes} : CA P (.call { callee := .value (.tmp t), args, argTypes }) .callv (.tmp t :: args.toList)
  | app {s x t e i z} (ht : P.underlying t = some (.slice e)) (hi : P.info? e = some i) (hz : i.zero = some z) (hzs : z.cells.size = i.size) (hs : i.size ≠ 0) :
      CA P (.call { callee := .builtin .append, args := #[s, x], argTypes := #[t, t] }) (.app e i.size i.bytes) [s, x]

theorem arr1 {α : Type} {l : Array α} {xs : List α} (h : l.toList = xs) : l = xs.toArray := by rw [← h]

theorem compA_inv {fz : Bool} {op : Op} {aop : AOp} {xs : List Operand} (h : compA P fz op = some (aop, xs)) : CA P op aop xs := by
  unfold compA at h
  split at h
  · simp only [Option.bind_eq_some_iff] at h
    obtain ⟨⟨ag, n⟩, ht, h⟩ := h
    split at h
    · cases h
    · rename_i hn; cases h; exact .load ht fun e => Decidable.byContradiction fun x => hn ⟨e, x⟩
  · simp only [Option.bind_eq_some_iff] at h
    obtain ⟨⟨ag, n⟩, ht, h⟩ := h
    split at h
    · cases h
    · rename_i hn; cases h; exact .store ht fun e => Decidable.byContradiction fun x => hn ⟨e, x⟩
  · simp only [Option.bind_eq_some_iff] at h
    obtain ⟨⟨ag, n⟩, _, ⟨esz, k⟩, _, z, ⟨i, hi, hz⟩, h⟩ := h
    split at h
    · simp only [Option.bind_eq_some_iff] at h
      obtain ⟨zs, hzs, h⟩ := h
      split at h
      · rename_i hl; cases h; exact .alloc1 hi hz hzs hl
      · cases h
    · simp only [Option.bind_eq_some_iff] at h
      obtain ⟨zv, hzs, h⟩ := h
      split at h
      · cases h; exact .alloc2 hi hz hzs
      · cases h
  · simp only [Option.bind_eq_some_iff] at h
    obtain ⟨⟨ag, n⟩, _, ⟨esz, k⟩, _, h⟩ := h
    split at h
    · cases h; exact .box
    · cases h
  · split at h
    · rename_i e ht
      simp only [Option.bind_eq_some_iff] at h
      obtain ⟨i, hi, z, hz, h⟩ := h
      split at h
      · rename_i hc
        cases h
        exact .bs ht hi hz hc.1 hc.2.1 hc.2.2.1 hc.2.2.2.1 hc.2.2.2.2
      · cases h
    · cases h
  · cases h; exact .call
  · cases h; exact .callv
  · split at h
    · rename_i s x t u hargs htys
      split at h
      · rename_i htu
        subst htu
        split at h
        · rename_i e ht
          simp only [Option.bind_eq_some_iff] at h
          obtain ⟨i, hi, z, hz, h⟩ := h
          split at h
          · rename_i hc
            cases h
            have e1 := arr1 hargs
            have e2 := arr1 htys
            subst e1; subst e2
            exact .app ht hi hz hc.1 hc.2
          · cases h
        · cases h
      · cases h
    · cases h
  · simp only [Option.map_eq_some_iff] at h
    obtain ⟨⟨p', xs'⟩, h1, h2⟩ := h
    cases h2
    exact .p h1

theorem compP_noDefer {op : Op} {p : POp} {xs : List Operand} (h : compP P op = some (p, xs)) : ∀ c, op ≠ .defer c := by
  rintro c rfl
  simp [compP] at h

theorem val_sound {aop : AOp} {op : Op} {xs : List Operand} {cs : Ctx} (hcs : Good P cs) (hc : CA P op aop xs) (ho : o.op = op) (hH : HRel G M fr w) (hv : VRels G vals (xs.map a.eval))
    (hlk : ∀ t e, lk t = some e → M e ∧ e.id = t) (he : valOp cs lk aop vals = some v)
    (hK : ∀ (G' : Ghost) (cv : Value) (w' : World), G.le G' → VRel G' v cv → HRel G' M fr w' → Below w.heap.size w w' → K (a.put o.dst cv) w') : o.wpIn (FW r) n P a w K Q := by
  -- what only computes, or loads
  have quiet : (∃ cv, VRel G v cv ∧ (execOp a.eval o).run P w = .ok (.value cv) w) → (∀ c, o.op ≠ .defer c) → o.wpIn (FW r) n P a w K Q := by
    rintro ⟨cv, h1, h2⟩ hd
    exact wpIn_run hd h2 (hK G cv w .rfl h1 hH (.refl _ _))
  cases hc with
  | p hp =>
    obtain ⟨cv, h1, h2⟩ := compP_sound hp ho hv he
    exact quiet ⟨cv, h1, h2 w⟩ (ho ▸ compP_noDefer hp)
  | load ht hn =>
    obtain ⟨u, hu, _⟩ := one hv
    subst hu
    exact quiet (s_load ht hn ho hH hv hlk rfl he) (by rw [ho]; simp)
  | store => simp [valOp] at he
  | alloc1 => simp [valOp] at he
  | alloc2 => simp [valOp] at he
  | box => simp [valOp] at he
  | app => simp [valOp] at he
  | @bs t e len parts i z fz ht hi hz hlen hin hb hzs hs =>
    cases fz with
    | false => simp [valOp] at he
    | true =>
      simp only [if_true, valOp] at he
      split at he
      · rename_i hall
        cases he
        obtain ⟨cells, h1, h2, h3, h4⟩ := run_bsl (P := P) (ρ := a.eval) ht hi hz hzs hlen hin hb hs (by simpa [Function.comp_def] using hv) hall w
        have hlv := hv.length
        simp at hlv
        have hb := below_push (w := w) (.cells cells e (0, 0))
        refine wpIn_run (x := .ok (.value (.slice (some ⟨w.heap.size, 0, none⟩) len len)) { w with heap := w.heap.push (.cells cells e (0, 0)) }) (by rw [ho]; simp) ?_ ?_
        · simp only [execOp, ho, Sem.run_bind, h1, Result.andThen_ok, Sem.run_pure]
        · refine hK _ _ _ (Ghost.le_more hH.ro) ?_ (hH.more hb) hb
          have hro : (G.more w.heap.size { w with heap := w.heap.push (.cells cells e (0, 0)) }).ro w.heap.size = some (.cells cells e (0, 0)) := by
            simp [Ghost.more]
          have hrows := rows_of hro (vals := vals) (pre := []) (seg := cells.toList) (suf := []) (esz := i.size) (fun v hv => by
            have := List.all_eq_true.1 hall v hv
            simp only [Bool.and_eq_true, decide_eq_true_eq] at this
            exact this.1) (by simp) (VRels.mono (Ghost.le_more hH.ro) _ h2) h3
          simp only [VRel]
          exact .inr ⟨_, _, _, len, hrows, by rw [← hlv, hlen]; rfl, by omega⟩
      · cases he
  | @call f args argTypes =>
    simp only [valOp] at he
    refine s_callV hcs hH hv hlk he (fun hent => ?_) (by rw [ho]; simp) hK
    have e : (args.toList.map a.eval).toArray = args.map a.eval := by rw [← Array.toList_map]
    rw [e]
    simp [execOp, ho, resolve, Deferred.ofValue, invoke, Act.eval, hent]
  | @callv t args argTypes =>
    cases vals with
    | nil => simp [VRels] at hv
    | cons g vs =>
      simp only [List.map_cons, VRels] at hv
      obtain ⟨c, cvs, he0, hg, hvs⟩ := hv
      simp only [List.cons.injEq] at he0
      obtain ⟨rfl, rfl⟩ := he0
      cases g <;> simp only [valOp] at he <;> try (cases he; done)
      rename_i f first cap
      simp only [VRel] at hg
      obtain ⟨cf, cc, hf, hcap, hfn⟩ := hg
      refine s_callV hcs hH ((hf.append hvs).append hcap) hlk he (fun hent => ?_) (by rw [ho]; simp) hK
      have e : ((cf ++ args.toList.map a.eval) ++ cc).toArray = (cf.toArray ++ args.map a.eval) ++ cc.toArray := by
        rw [← Array.toList_map]; simp
      rw [e]
      simp [execOp, ho, resolve, hfn, Deferred.ofValue, invoke, hent]

end
end Eng
