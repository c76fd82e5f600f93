/-
THE ENGINE, PART N: every operation of the engine is sound.
THE ENGINE, PART O: operations that change memory are sound.
THE ENGINE, PART P: append; all operations that change memory.
-/
import Derived.Test.YtabkbhpeeefmgaaEngM
import Derived.Laws.IdiomCopy
import Derived.Laws.MakeOwn
namespace Eng
open Go Go.RowKit
set_option linter.unusedSimpArgs false
set_option linter.unusedVariables false

section
variable {P : Program} {G : Ghost} {M : HEnt → Prop} {fr : Nat → Prop} {w : World} {a : Act} {o : Oper} {v : AV} {vals : List AV} {r : Option Nat} {n : Nat}
  {K : Act → World → Prop} {Q : Exit → Act → World → Prop} {lk : Look}

theorem uponIn_run_value {cv : Value} {w' : World} (hd : ∀ c, o.op ≠ .defer c) (h : (execOp a.eval o).run P w = .ok (.value cv) w') (hK : K (a.put o.dst cv) w') : o.wpIn (FW r) n P a w K Q :=
  wpIn_run hd h hK

/-- the free numbers behind an operation -/
def frE : Eff → (Nat → Prop) → Nat → Prop
  | .new e, fr, t => fr t ∧ t ≠ e.id
  | .ext _ _ e, fr, t => fr t ∧ t ≠ e.id
  | _, fr, t => fr t

inductive CA (P : Program) : Op → AOp → List Operand → Prop
  | p {op p xs} (h : compP P op = some (p, xs)) : CA P op (.p p) xs
  | load {t x ag n} (h : tyAgg P t = some (ag, n)) (hn : ag = false → n = 1) : CA P (.load t x) (.load n ag) [x]
  | store {t x y ag n} (h : tyAgg P t = some (ag, n)) (hn : ag = false → n = 1) : CA P (.store t x y) (.store n ag) [x, y]
  | alloc1 {t i z zs esz k} (hi : P.info? t = some i) (hz : i.zero = some z) (hzs : absL z.cells.toList = some zs) (hl : zs.length = k * esz) : CA P (.alloc t) (.alloc t esz (if k = 1 then [.agg zs] else rowsOf esz k zs)) []
  | alloc2 {t i z zv} (hi : P.info? t = some i) (hz : i.zero = some z) (hzs : absS z = some zv) : CA P (.alloc t) (.alloc t 1 [zv]) []
  | box {t x ag esz k} : CA P (.box t x) (.box t esz k ag) [x]
  | bs {t e len parts i z} {fz : Bool} (ht : P.underlying t = some (.slice e)) (hi : P.info? e = some i) (hz : i.zero = some z) (hlen : parts.size = len) (hin : inOrder parts.toList 0 = true) (hb : len * i.size ≤ 16777216) (hzs : z.cells.size = i.size) (hs : i.size ≠ 0) :
      CA P (.buildSlice t len parts) (if fz then .fbs i.size else .bsl e i.size) (parts.toList.map (·.2))
  | call {f args argTypes} : CA P (.call { callee := .value (.func f), args, argTypes }) (.call f) args.toList
  | callv {t args argTypes} : CA P (.call { callee := .value (.tmp t), args, argTypes }) .callv (.tmp t :: args.toList)
  | app {s x t e i z} (ht : P.underlying t = some (.slice e)) (hi : P.info? e = some i) (hz : i.zero = some z) (hzs : z.cells.size = i.size) (hs : i.size ≠ 0) :
      CA P (.call { callee := .builtin .append, args := #[s, x], argTypes := #[t, t] }) (.app e i.size i.bytes) [s, x]
  | mks {t e l c i z zv} (ht : P.underlying t = some (.slice e)) (hi : P.info? e = some i) (hz : i.zero = some z) (hzs : absS z = some zv) (hs : i.size = 1) : CA P (.makeSlice t l c) (.mks e i.bytes zv) [l, c]
  | cpy {d s t u e i} (ht : P.underlying t = some (.slice e)) (hi : P.info? e = some i) (hs : i.size = 1) : CA P (.call { callee := .builtin .copy, args := #[d, s], argTypes := #[t, u] }) .cpy [d, s]

theorem arr1 {α : Type} {l : Array α} {xs : List α} (h : l.toList = xs) : l = xs.toArray := by rw [← h]

theorem compA_inv {fz : Bool} {op : Op} {aop : AOp} {xs : List Operand} (h : compA P fz op = some (aop, xs)) : CA P op aop xs := by
  unfold compA at h
  split at h
  · simp only [Option.bind_eq_some_iff] at h
    obtain ⟨⟨ag, n⟩, ht, h⟩ := h
    split at h
    · cases h
    · rename_i hn; cases h; exact .load ht fun e => Decidable.byContradiction fun x => hn ⟨e, x⟩
  · simp only [Option.bind_eq_some_iff] at h
    obtain ⟨⟨ag, n⟩, ht, h⟩ := h
    split at h
    · cases h
    · rename_i hn; cases h; exact .store ht fun e => Decidable.byContradiction fun x => hn ⟨e, x⟩
  · simp only [Option.bind_eq_some_iff] at h
    obtain ⟨⟨ag, n⟩, _, ⟨esz, k⟩, _, z, ⟨i, hi, hz⟩, h⟩ := h
    split at h
    · simp only [Option.bind_eq_some_iff] at h
      obtain ⟨zs, hzs, h⟩ := h
      split at h
      · rename_i hl; cases h; exact .alloc1 hi hz hzs hl
      · cases h
    · simp only [Option.bind_eq_some_iff] at h
      obtain ⟨zv, hzs, h⟩ := h
      split at h
      · cases h; exact .alloc2 hi hz hzs
      · cases h
  · simp only [Option.bind_eq_some_iff] at h
    obtain ⟨⟨ag, n⟩, _, ⟨esz, k⟩, _, h⟩ := h
    split at h
    · cases h; exact .box
    · cases h
  · split at h
    · rename_i e ht
      simp only [Option.bind_eq_some_iff] at h
      obtain ⟨i, hi, z, hz, h⟩ := h
      split at h
      · rename_i hc
        cases h
        exact .bs ht hi hz hc.1 hc.2.1 hc.2.2.1 hc.2.2.2.1 hc.2.2.2.2
      · cases h
    · cases h
  · cases h; exact .call
  · cases h; exact .callv
  · split at h
    · rename_i s x t u hargs htys
      split at h
      · rename_i htu
        subst htu
        split at h
        · rename_i e ht
          simp only [Option.bind_eq_some_iff] at h
          obtain ⟨i, hi, z, hz, h⟩ := h
          split at h
          · rename_i hc
            cases h
            have e1 := arr1 hargs
            have e2 := arr1 htys
            subst e1; subst e2
            exact .app ht hi hz hc.1 hc.2
          · cases h
        · cases h
      · cases h
    · cases h
  · split at h
    · rename_i e ht
      simp only [Option.bind_eq_some_iff] at h
      obtain ⟨⟨ag, n⟩, _, i, hi, z, hz, zv, hzs, h⟩ := h
      split at h
      · rename_i hc; cases h; exact .mks ht hi hz hzs hc.2.2
      · cases h
    · cases h
  · split at h
    · rename_i d s t u hargs htys
      split at h
      · rename_i e ht
        simp only [Option.bind_eq_some_iff] at h
        obtain ⟨i, hi, h⟩ := h
        split at h
        · rename_i hc
          cases h
          have e1 := arr1 hargs
          have e2 := arr1 htys
          subst e1; subst e2
          exact .cpy ht hi hc
        · cases h
      · cases h
    · cases h
  · simp only [Option.map_eq_some_iff] at h
    obtain ⟨⟨p', xs'⟩, h1, h2⟩ := h
    cases h2
    exact .p h1

theorem compP_noDefer {op : Op} {p : POp} {xs : List Operand} (h : compP P op = some (p, xs)) : ∀ c, op ≠ .defer c := by
  rintro c rfl
  simp [compP] at h

theorem val_sound {aop : AOp} {op : Op} {xs : List Operand} {cs : Ctx} (hcs : Good P cs) (hc : CA P op aop xs) (ho : o.op = op) (hH : HRel G M fr w) (hv : VRels G vals (xs.map a.eval))
    (hlk : ∀ t e, lk t = some e → M e ∧ e.id = t) (he : valOp cs lk aop vals = some v)
    (hK : ∀ (G' : Ghost) (cv : Value) (w' : World), G.le G' → VRel G' v cv → HRel G' M fr w' → Below w.heap.size w w' → K (a.put o.dst cv) w') : o.wpIn (FW r) n P a w K Q := by
  -- what only computes, or loads
  have quiet : (∃ cv, VRel G v cv ∧ (execOp a.eval o).run P w = .ok (.value cv) w) → (∀ c, o.op ≠ .defer c) → o.wpIn (FW r) n P a w K Q := by
    rintro ⟨cv, h1, h2⟩ hd
    exact wpIn_run hd h2 (hK G cv w .rfl h1 hH (.refl _ _))
  cases hc with
  | p hp =>
    obtain ⟨cv, h1, h2⟩ := compP_sound hp ho hv he
    exact quiet ⟨cv, h1, h2 w⟩ (ho ▸ compP_noDefer hp)
  | load ht hn =>
    obtain ⟨u, hu, _⟩ := one hv
    subst hu
    exact quiet (s_load ht hn ho hH hv hlk rfl he) (by rw [ho]; simp)
  | store => simp [valOp] at he
  | alloc1 => simp [valOp] at he
  | alloc2 => simp [valOp] at he
  | box => simp [valOp] at he
  | app => simp [valOp] at he
  | mks => simp [valOp] at he
  | cpy => simp [valOp] at he
  | @bs t e len parts i z fz ht hi hz hlen hin hb hzs hs =>
    cases fz with
    | false => simp [valOp] at he
    | true =>
      simp only [if_true, valOp] at he
      split at he
      · rename_i hall
        cases he
        obtain ⟨cells, h1, h2, h3, h4⟩ := run_bsl (P := P) (ρ := a.eval) ht hi hz hzs hlen hin hb hs (by simpa [Function.comp_def] using hv) hall w
        have hlv := hv.length
        simp at hlv
        have hb := below_push (w := w) (.cells cells e (0, 0))
        refine wpIn_run (x := .ok (.value (.slice (some ⟨w.heap.size, 0, none⟩) len len)) { w with heap := w.heap.push (.cells cells e (0, 0)) }) (by rw [ho]; simp) ?_ ?_
        · simp only [execOp, ho, Sem.run_bind, h1, Result.andThen_ok, Sem.run_pure]
        · refine hK _ _ _ (Ghost.le_more hH.ro) ?_ (hH.more hb) hb
          have hro : (G.more w.heap.size { w with heap := w.heap.push (.cells cells e (0, 0)) }).ro w.heap.size = some (.cells cells e (0, 0)) := by
            simp [Ghost.more]
          have hrows := rows_of hro (vals := vals) (pre := []) (seg := cells.toList) (suf := []) (esz := i.size) (fun v hv => by
            have := List.all_eq_true.1 hall v hv
            simp only [Bool.and_eq_true, decide_eq_true_eq] at this
            exact this.1) (by simp) (VRels.mono (Ghost.le_more hH.ro) _ h2) h3
          simp only [VRel]
          exact .inr ⟨_, _, _, len, hrows, by rw [← hlv, hlen]; rfl, by omega⟩
      · cases he
  | @call f args argTypes =>
    simp only [valOp] at he
    refine s_callV hcs hH hv hlk he (fun hent => ?_) (by rw [ho]; simp) hK
    have e : (args.toList.map a.eval).toArray = args.map a.eval := by rw [← Array.toList_map]
    rw [e]
    simp [execOp, ho, resolve, Deferred.ofValue, invoke, Act.eval, hent]
  | @callv t args argTypes =>
    cases vals with
    | nil => simp [VRels] at hv
    | cons g vs =>
      simp only [List.map_cons, VRels] at hv
      obtain ⟨c, cvs, he0, hg, hvs⟩ := hv
      simp only [List.cons.injEq] at he0
      obtain ⟨rfl, rfl⟩ := he0
      cases g <;> simp only [valOp] at he <;> try (cases he; done)
      rename_i f first cap
      simp only [VRel] at hg
      obtain ⟨cf, cc, hf, hcap, hfn⟩ := hg
      refine s_callV hcs hH ((hf.append hvs).append hcap) hlk he (fun hent => ?_) (by rw [ho]; simp) hK
      have e : ((cf ++ args.toList.map a.eval) ++ cc).toArray = (cf.toArray ++ args.map a.eval) ++ cc.toArray := by
        rw [← Array.toList_map]; simp
      rw [e]
      simp [execOp, ho, resolve, hfn, Deferred.ofValue, invoke, hent]

end
end Eng

namespace Eng
open Go Go.RowKit
set_option linter.unusedSimpArgs false
set_option linter.unusedVariables false

structure Keeps (w w' : World) : Prop where
  os : w'.os = w.os
  tape : w'.tape = w.tape
  output : w'.output = w.output
  size : w.heap.size ≤ w'.heap.size

theorem Keeps.rfl {w : World} : Keeps w w := ⟨Eq.refl _, Eq.refl _, Eq.refl _, Nat.le_refl _⟩
theorem Keeps.trans {a b c : World} (h : Keeps a b) (k : Keeps b c) : Keeps a c := ⟨k.os.trans h.os, k.tape.trans h.tape, k.output.trans h.output, Nat.le_trans h.size k.size⟩
theorem Keeps.of_below {B : Nat} {w w' : World} (h : Below B w w') : Keeps w w' := ⟨h.os, h.tape, h.output, h.size⟩

section
variable {P : Program} {G : Ghost} {M : HEnt → Prop} {fr : Nat → Prop} {w : World} {a : Act} {o : Oper} {v : AV} {vals : List AV} {r : Option Nat} {n : Nat}
  {K : Act → World → Prop} {Q : Exit → Act → World → Prop} {lk : Look}

/-- laying one block -/
theorem lay {id : Nat} (hid : fr id) (hH : HRel G M fr w) {e esz : Nat} {rows : List AV} {cells : Array Value} {cv : Value} {v : AV} (hd : ∀ c, o.op ≠ .defer c)
    (hrun : (execOp a.eval o).run P w = .ok (.value cv) { w with heap := w.heap.push (.cells cells e (0, 0)) })
    (hl : ∀ v ∈ rows, v.cells.length = esz) (hr : VRels G (flat rows) cells.toList) (h1 : ∀ c ∈ cells.toList, c.oneCell' = true)
    (hv : ∀ G' : Ghost, G'.ι id = some ⟨w.heap.size, esz, cells.size⟩ → VRel G' v cv)
    (hK : ∀ (G' : Ghost) (cv : Value) (w' : World), G.le G' → VRel G' v cv → HRel G' (effM (.new ⟨id, id, .rows e esz rows⟩) M) (frE (.new ⟨id, id, .rows e esz rows⟩) fr) w' → Keeps w w' → K (a.put o.dst cv) w') :
    o.wpIn (FW r) n P a w K Q := by
  refine wpIn_run hd hrun (hK _ _ _ (Ghost.le_put (hH.fresh id hid)) ?_ (hH.alloc id hid e esz rows cells cells.toList [] hl (by simp) hr h1) (.of_below (below_push _)))
  exact hv _ (by simp [Ghost.put])

theorem all_cells {esz : Nat} (h : (vals.all (fun v => decide (v.cells.length = esz) && v.cells.all AV.sc)) = true) : ∀ v ∈ vals, v.cells.length = esz := fun v hv => by
  have := List.all_eq_true.1 h v hv
  simp only [Bool.and_eq_true, decide_eq_true_eq] at this
  exact this.1

/-- the cells of rows, one after the other -/
theorem rows_cells (hH : HRel G M fr w) {b esz esz' : Nat} : ∀ (us : List AV) (off : Nat), (∀ v ∈ us, v.cells.length = esz) → VRows G us b off esz' → ∃ seg, VRels G (flat us) seg ∧ (∀ c ∈ seg, c.oneCell' = true) ∧ ∀ (k : Nat) (c : Value), seg[k]? = some c → w.cell? ⟨b, off + k, none⟩ = some c := by
  intro us
  induction us with
  | nil => intro off _ _; exact ⟨[], by simp [flat, VRels], by simp, by simp⟩
  | cons u us ih =>
    intro off hu hr
    simp only [VRows] at hr
    obtain ⟨⟨cv, h4, h5, h6, h7, cur, e, fr', h8, h9⟩, hrest⟩ := hr
    obtain ⟨seg, h10, h11, h12⟩ := ih _ (fun v hv => hu v (by simp [hv])) hrest
    have hcr := h4.cells' h7 (by rw [h6, h5])
    have hcl := hcr.length
    refine ⟨cv.cells.toList ++ seg, by simp only [flat]; exact hcr.append h10, fun c hc => ?_, fun k c hk => ?_⟩
    · rcases List.mem_append.1 hc with hc | hc
      · exact h7 c hc
      · exact h11 c hc
    · rw [List.getElem?_append] at hk
      split at hk
      · rw [cell_of_row w _ _ cur _ _ (hH.ro _ _ h8)]
        exact h9 k c hk
      · rename_i hge
        have := h12 _ c hk
        have e1 : off + esz' + (k - cv.cells.toList.length) = off + k := by omega
        rwa [e1] at this

theorem srcV_sound {esz : Nat} (hH : HRel G M fr w) (hlk : ∀ t e, lk t = some e → M e ∧ e.id = t) {x : AV} {xs : List AV} {c : Value} (h : srcV lk esz x = some xs) (hv : VRel G x c) :
    (∀ u ∈ xs, u.cells.length = esz) ∧ (((∃ sa sc, c = .slice sa 0 sc) ∧ xs = []) ∨ ∃ (b off cap : Nat) (seg : List Value), c = .slice (some ⟨b, off, none⟩) xs.length cap ∧ VRels G (flat xs) seg ∧ (∀ c ∈ seg, c.oneCell' = true) ∧
      ∀ (k : Nat) (c : Value), seg[k]? = some c → w.cell? ⟨b, off + k, none⟩ = some c) := by
  cases x <;> simp only [srcV] at h <;> try (cases h; done)
  · cases h
    simp only [VRel] at hv
    exact ⟨by simp, .inl ⟨⟨_, _, hv⟩, rfl⟩⟩
  · rename_i t esz' i k
    split at h
    · rename_i t0 g e0 esz'' vals' hlk'
      obtain ⟨hM, hid⟩ := hlk _ _ hlk'
      split at h
      · rename_i hc
        obtain ⟨hc1, hc2, hik⟩ := hc
        subst hc1; subst hc2
        cases h
        obtain ⟨l, h2, ⟨h3, h4, cur, h5, h6, pre, suf, h7, h8, h9⟩, h10, _⟩ := hH.ent _ hM
        simp only at hid h2
        subst hid
        simp only [VRel] at hv
        obtain ⟨l', cap, h11, h12, h13, h14, h15, h16⟩ := hv
        rw [h2] at h11; cases h11
        have hu : ∀ v ∈ (vals'.drop i).take k, v.cells.length = esz'' := fun v hv => h4 v (List.mem_of_mem_drop (List.mem_of_mem_take hv))
        have hlen : ((vals'.drop i).take k).length = k := by simp; omega
        have hmid : VRels G (flat ((vals'.drop i).take k)) ((pre.drop (i * esz'')).take (k * esz'')) := by
          have hsplit : flat vals' = flat (vals'.take i) ++ (flat ((vals'.drop i).take k) ++ flat ((vals'.drop i).drop k)) := by
            rw [← flat_append, List.take_append_drop, ← flat_append, List.take_append_drop]
          have l1 : (flat (vals'.take i)).length = i * esz'' := flat_take_length h4 (by omega)
          have l2 : (flat ((vals'.drop i).take k)).length = k * esz'' := by rw [flat_length hu, hlen]
          have := (h8.drop (i * esz'')).take (k * esz'')
          rw [hsplit, ← l1, List.drop_left' rfl, ← l2, List.take_left' rfl, l1, l2] at this
          exact this
        have hpl := h8.length
        have hfl := flat_length h4
        have hmul : i * esz'' + k * esz'' ≤ vals'.length * esz'' := by rw [← Nat.add_mul]; exact Nat.mul_le_mul_right _ hik
        refine ⟨hu, .inr ⟨_, _, cap, _, by rw [hlen]; exact h13, hmid, fun c hc => h9 c (List.mem_of_mem_drop (List.mem_of_mem_take hc)), fun j c hj => ?_⟩⟩
        rw [List.getElem?_take] at hj
        split at hj
        · rename_i hjn
          rw [List.getElem?_drop] at hj
          rw [cell_of_row w _ _ cur _ _ h5, ← Array.getElem?_toList, h7, List.getElem?_append_left (by omega)]
          exact hj
        · cases hj
      · cases h
    · cases h
  · rename_i us
    split at h
    · rename_i hall
      cases h
      have hu : ∀ v ∈ xs, v.cells.length = esz := fun v hv => by
        have := List.all_eq_true.1 hall v hv
        simpa using this
      simp only [VRel] at hv
      rcases hv with ⟨rfl, hv⟩ | ⟨b, off, esz', cap, h1, h2, h3⟩
      · exact ⟨hu, .inl ⟨hv, rfl⟩⟩
      · refine ⟨hu, .inr ⟨b, off, cap, ?_⟩⟩
        -- the cells of the rows, one after the other
        obtain ⟨seg, h4, h5, h6⟩ := rows_cells hH xs off hu h1
        exact ⟨seg, h2, h4, h5, h6⟩
    · cases h

theorem cells_uniform {esz : Nat} (hs : 0 < esz) {xs : List AV} {seg : List Value} (hu : ∀ u ∈ xs, u.cells.length = esz) (hr : VRels G (flat xs) seg) : seg.length = xs.length * esz := by
  rw [hr.length, flat_length hu]

theorem store_sound {t : TypeId} {ag : Bool} {sz : Nat} {x y : Operand} (ht : tyAgg P t = some (ag, sz)) (hn : ag = false → sz = 1) (ho : o.op = .store t x y) (hH : HRel G M fr w) {u y' : AV} {f : Eff}
    (h1 : VRel G u (a.eval x)) (h2 : VRel G y' (a.eval y)) (hlk : ∀ t e, lk t = some e → M e ∧ e.id = t) (he : storeV lk sz ag u y' = some f)
    (hK : ∀ (G' : Ghost) (cv : Value) (w' : World), G.le G' → VRel G' (.tup []) cv → HRel G' (effM f M) (frE f fr) w' → Keeps w w' → K (a.put o.dst cv) w') :
    o.wpIn (FW r) n P a w K Q := by
  cases u <;> simp only [storeV] at he <;> try (cases he; done)
  rename_i t' esz i j
  split at he
  · rename_i t0 g e0 esz' vals' hlk'
    obtain ⟨hM, hid⟩ := hlk _ _ hlk'
    split at he
    · rename_i hesz
      subst hesz
      simp only [Option.map_eq_some_iff] at he
      obtain ⟨vals'', hw, rfl⟩ := he
      obtain ⟨l, h3, ⟨h4, h5, cur, h6, h7, pre, suf, h8, h9, h10⟩, h11, _⟩ := hH.ent _ hM
      simp only at hid h3
      subst hid
      simp only [VRel] at h1
      obtain ⟨l', h12, h13, h14⟩ := h1
      rw [h3] at h12; cases h12
      obtain ⟨e1, e2, e3, e4, e5, e6, e7⟩ := wr_flat h5 hw hn
      obtain ⟨hcr, hc1⟩ := h2.cells e6
      have hcl := hcr.length
      have hpl := h9.length
      simp only [Array.length_toList] at hcl
      have hsize : cur.toList.length = cur.size := by simp
      rw [h8, List.length_append] at hsize
      have hst := run_storeCells_at P l.b (i * esz + j) e0 (a.eval y).cells.toList 0 cur w h6 (by simp only [Array.length_toList]; omega) hc1
      simp only [Nat.add_zero] at hst
      have hrun : (execOp a.eval o).run P w = .ok .skip (w.setRow l.b (cur.toList.take (i * esz + j) ++ (a.eval y).cells.toList ++ cur.toList.drop (i * esz + j + (a.eval y).cells.toList.length)).toArray) := by
        simp only [execOp, ho, h14, Instr.storeAt, Instr.sureAddr, storeVar, Sem.run_bind, Sem.run_pure, Result.andThen_ok, run_sizeOf' ht, Sem.run_ite]
        rw [if_neg (by simp; omega)]
        simp only [Sem.run_pure, Result.andThen_ok, hst]
      have hnew := setRow_heap w l.b cur (cur.toList.take (i * esz + j) ++ (a.eval y).cells.toList ++ cur.toList.drop (i * esz + j + (a.eval y).cells.toList.length)).toArray e0 (0, 0) h6
      refine wpIn_run (by rw [ho]; simp) hrun (hK G undef _ .rfl (by simp only [VRel, VRels]; exact ⟨[], rfl, rfl⟩) ?_ ⟨rfl, rfl, rfl, by simp [World.setRow]⟩)
      refine HRel.setB hH hM h3 (fun r hr => setRow_other w l.b r _ hr) (by simp [World.setRow]) ⟨h4, e2, _, hnew, ?_, pre.take (i * esz + j) ++ ((a.eval y).cells.toList ++ pre.drop (i * esz + j + sz)), suf, ?_, ?_, ?_⟩
      · simp only [List.size_toArray, List.length_append, List.length_take, List.length_drop, Array.length_toList]
        rw [← h7]
        omega
      · rw [h8]
        simp only [Array.length_toList, hcl, e5]
        rw [List.take_append_of_le_length (by omega), List.drop_append_of_le_length (by omega)]
        simp [List.append_assoc]
      · rw [e1]
        exact (h9.take _).append (hcr.append (h9.drop _))
      · intro c hc
        rcases List.mem_append.1 hc with hc | hc
        · exact h10 c (List.mem_of_mem_take hc)
        · rcases List.mem_append.1 hc with hc | hc
          · exact hc1 c hc
          · exact h10 c (List.mem_of_mem_drop hc)
    · cases he
  · cases he

end
end Eng

namespace Eng
open Go Go.RowKit
set_option linter.unusedSimpArgs false
set_option linter.unusedVariables false

section
variable {P : Program} {G : Ghost} {M : HEnt → Prop} {fr : Nat → Prop} {w : World} {a : Act} {o : Oper} {v : AV} {vals : List AV} {r : Option Nat} {n : Nat}
  {K : Act → World → Prop} {Q : Exit → Act → World → Prop} {lk : Look}

theorem put_self (G : Ghost) (id : Nat) (l : Loc) : (G.put id l).ι id = some l := by simp [Ghost.put]

theorem run_app_none {t ty e : TypeId} {i : TypeInfo} (ht : P.underlying t = some (.slice e)) (hi : P.info? e = some i) (base : Option Addr) (n cap : Nat) (hle : n ≤ cap) (sa : Option Addr) (sc : Nat) (w : World) :
    (Builtin.append_ #[t, t] ty #[.slice base n cap, .slice sa 0 sc]).run P w = .ok (.slice base n cap) w := by
  have hs : ∀ w, (Go.sizeOf e).run P w = .ok i.size w := fun w => by simp [Go.sizeOf, typeInfo, hi]
  cases base <;> cases sa <;> simp [Builtin.append_, run_underlying ht, hs, Builtin.lenOf, hle, Builtin.firstCells, storeCells, loadCells, loadCellsFrom]

theorem drew_keeps (w : World) : Below w.heap.size w w.drew := (Below.refl _ _).drew

theorem run_appOp {s x : Operand} {t : TypeId} (ho : o.op = .call { callee := .builtin .append, args := #[s, x], argTypes := #[t, t] }) {cv : Value} {w' : World}
    (h : (Builtin.append_ #[t, t] o.type #[a.eval s, a.eval x]).run P w = .ok cv w') : (execOp a.eval o).run P w = .ok (.value cv) w' := by
  obtain ⟨c, hc⟩ := run_builtin (P := P) (ρ := a.eval) ho
  rw [hc]
  simp [builtin, h]

theorem app_sound {s x : Operand} {t e id : Nat} {i : TypeInfo} {z : Value} (ht : P.underlying t = some (.slice e)) (hi : P.info? e = some i) (hz : i.zero = some z) (hzs : z.cells.size = i.size) (hs : i.size ≠ 0)
    (ho : o.op = .call { callee := .builtin .append, args := #[s, x], argTypes := #[t, t] }) (hid : fr id) (hH : HRel G M fr w) {u y : AV} {f : Eff}
    (h1 : VRel G u (a.eval s)) (h2 : VRel G y (a.eval x)) (hlk : ∀ t e, lk t = some e → M e ∧ e.id = t) (he : appV lk id e i.size i.bytes u y = some (v, f))
    (hK : ∀ (G' : Ghost) (cv : Value) (w' : World), G.le G' → VRel G' v cv → HRel G' (effM f M) (frE f fr) w' → Keeps w w' → K (a.put o.dst cv) w') :
    o.wpIn (FW r) n P a w K Q := by
  have hd : ∀ c, o.op ≠ .defer c := by rw [ho]; simp
  have hpos : 0 < i.size := Nat.pos_of_ne_zero hs
  have haddr : ∀ (b off : Nat) (seg : List Value), (∀ (k : Nat) (c : Value), seg[k]? = some c → w.cell? ⟨b, off + k, none⟩ = some c) → ∀ (j : Nat) (v : Value), seg[j]? = some v → w.cell? ((⟨b, off, none⟩ : Addr).add j) = some v :=
    fun b off seg h j v hv => by rw [Addr.add_lit]; exact h j v hv
  cases u <;> simp only [appV] at he <;> try (cases he; done)
  · -- onto nil
    simp only [Option.bind_eq_some_iff] at he
    obtain ⟨xs, hsrc, he⟩ := he
    obtain ⟨hu, hsrc⟩ := srcV_sound hH hlk hsrc h2
    simp only [VRel] at h1
    split at he
    · rename_i h0
      cases he
      rcases hsrc with ⟨⟨sa, sc, hx⟩, _⟩ | ⟨b, off, cap, seg, hx, hr, hone, hc⟩
      · refine wpIn_run hd (run_appOp ho (by rw [h1, hx]; exact run_app_none ht hi none 0 0 (Nat.le_refl _) sa sc w)) (hK G _ _ .rfl (by simp only [VRel]) hH .rfl)
      · have hx0 : xs = [] := List.eq_nil_of_length_eq_zero h0
        subst hx0
        have hseg : seg = [] := by simp only [flat, VRels] at hr; exact hr
        subst hseg
        have hrun : (Builtin.append_ #[t, t] o.type #[.slice none 0 0, .slice (some ⟨b, off, none⟩) 0 cap]).run P w = .ok (.slice none 0 0) w := by
          have hsz : ∀ w, (Go.sizeOf e).run P w = .ok i.size w := fun w => by simp [Go.sizeOf, typeInfo, hi]
          simp [Builtin.append_, run_underlying ht, hsz, Builtin.lenOf, Builtin.firstCells, loadCells, loadCellsFrom]
        exact wpIn_run hd (run_appOp ho (by rw [h1, hx]; exact hrun)) (hK G _ _ .rfl (by simp only [VRel]) hH .rfl)
    · rename_i h0
      split at he
      · rename_i hb
        obtain ⟨hb1, hb2⟩ := hb
        cases he
        rcases hsrc with ⟨hx, rfl⟩ | ⟨b, off, cap, seg, hx, hr, hone, hc⟩
        · exact absurd rfl h0
        · have hl := cells_uniform hpos hu hr
          have hmx : xs.length ≤ 9223372036854775807 := by unfold maxLen at hb2; omega
          have hrun := run_append_nil (P := P) w t o.type e i z ht hi hz ⟨b, off, none⟩ xs.length cap seg hl (haddr b off seg hc) (by omega) (by omega) (by omega)
          have hge := grownCap_ge w xs.length 0 e
          have hcm := grownCap_le_maxLen w xs.length 0 e hb2
          have hH' := (hH.world (w' := w.drew) (fun _ _ => rfl) (Nat.le_refl _)).alloc id hid e i.size xs (seg.toArray ++ Builtin.zeroCells z.cells (grownCap w xs.length 0 e - xs.length)) seg (Builtin.zeroCells z.cells (grownCap w xs.length 0 e - xs.length)).toList hu (by simp) hr hone
          refine wpIn_run hd (run_appOp ho (by rw [h1, hx]; exact hrun)) (hK _ _ _ (Ghost.le_put (hH.fresh id hid)) ?_ hH' (.of_below ((drew_keeps w).trans (below_push (w := w.drew) _))))
          simp only [VRel]
          refine ⟨_, grownCap w xs.length 0 e, put_self _ _ _, rfl, by simp, hge, hcm, ?_⟩
          simp only [Array.size_append, List.size_toArray, size_zeroCells, hzs, hl, Nat.zero_add, ← Nat.add_mul]
          congr 1; omega
      · cases he
  · -- onto a block of the call's own
    rename_i t' esz' i0 k
    split at he
    · rename_i t0 g e' esz'' vals' hlk'
      obtain ⟨hM, hid0⟩ := hlk _ _ hlk'
      simp only [Option.bind_eq_some_iff] at he
      obtain ⟨xs, hsrc, he⟩ := he
      obtain ⟨hu, hsrc⟩ := srcV_sound hH hlk hsrc h2
      split at he
      · rename_i hc
        obtain ⟨c1, c2, c3, c4, c5, c6, c7⟩ := hc
        have c3' := c3.symm
        subst c1; subst c2; subst c3'; subst c4; subst c5
        cases he
        obtain ⟨l, h3, ⟨h4, h5, cur, h6, h7, pre, suf, h8, h9, h10⟩, h11, h12⟩ := hH.ent _ hM
        simp only at hid0 h3
        subst hid0
        simp only [VRel] at h1
        obtain ⟨l', cap, h13, h14, h15, h16, h17, h18⟩ := h1
        rw [h3] at h13; cases h13
        simp only [Nat.zero_mul, Nat.zero_add] at h15 h18
        have hpl : pre.length = vals'.length * i.size := cells_uniform hpos h5 h9
        -- in the same memory
        have same : ∀ (w' : World) (cap' : Nat) (cv : Value) (cur' : Array Value) (pre' suf' : List Value), (execOp a.eval o).run P w = .ok (.value cv) w' → cv = .slice (some ⟨l.b, 0, none⟩) (vals'.length + xs.length) cap → Keeps w w' →
            (∀ r, r ≠ l.b → w'.heap[r]? = w.heap[r]?) → w'.heap[l.b]? = some (.cells cur' e (0, 0)) → cur'.size = l.size → cur'.toList = pre ++ (pre' ++ suf') → VRels G (flat xs) pre' → (∀ c ∈ pre', c.oneCell' = true) → vals'.length + xs.length ≤ cap →
            o.wpIn (FW r) n P a w K Q := by
          intro w' cap' cv cur' pre' suf' hrun hcv hk hw hcur hsize hcells hr hone hroom
          subst hcv
          refine wpIn_run hd hrun (hK (G.put id l) _ _ (Ghost.le_put (hH.fresh id hid)) ?_ ?_ hk)
          · simp only [VRel]
            exact ⟨l, cap, put_self _ _ _, h4, by simp, hroom, h17, by simpa using h18⟩
          · refine hH.ext hM h3 hid (fun r _ hr => hw r hr) ⟨h4, h5, cur', hcur, hsize, pre, pre' ++ suf', hcells, h9, h10⟩ ⟨h4, ?_, cur', hcur, hsize, pre ++ pre', suf', by rw [hcells, List.append_assoc], ?_, ?_⟩ (.inl rfl) hk.size
            · intro v hv
              rcases List.mem_append.1 hv with hv | hv
              · exact h5 v hv
              · exact hu v hv
            · rw [flat_append]; exact h9.append hr
            · intro c hc
              rcases List.mem_append.1 hc with hc | hc
              · exact h10 c hc
              · exact hone c hc
        rcases hsrc with ⟨⟨sa, sc, hx⟩, rfl⟩ | ⟨b, off, capx, seg, hx, hr, hone, hcell⟩
        · exact same w cap _ cur [] suf (run_appOp ho (by rw [h15, hx]; exact run_app_none ht hi (some ⟨l.b, 0, none⟩) vals'.length cap h16 sa sc w)) (by simp) .rfl (fun _ _ => rfl) h6 h7 (by simpa using h8) (by simp [flat, VRels]) (by simp) (by simpa using h16)
        · have hl := cells_uniform hpos hu hr
          by_cases hroom : vals'.length + xs.length ≤ cap
          · have hfit : vals'.length * i.size + seg.length ≤ cur.size := by
              rw [hl, h7, ← h18, ← Nat.add_mul]; exact Nat.mul_le_mul_right _ hroom
            have hrun := run_append_room (P := P) w t o.type e i ht hi l.b vals'.length cap cur h6 ⟨b, off, none⟩ xs.length capx seg hl (haddr b off seg hcell) hone hroom hfit
            have hpre : cur.toList.take (vals'.length * i.size) = pre := by rw [h8, ← hpl, List.take_left' rfl]
            refine same (w.setRow l.b (cur.toList.take (vals'.length * i.size) ++ seg ++ cur.toList.drop (vals'.length * i.size + seg.length)).toArray) cap _ _ seg (cur.toList.drop (vals'.length * i.size + seg.length)) (run_appOp ho (by rw [h15, hx]; exact hrun)) rfl ⟨rfl, rfl, rfl, by simp [World.setRow]⟩ (fun r hr => setRow_other w l.b r _ hr)
              (setRow_heap w l.b cur _ e (0, 0) h6) ?_ ?_ hr hone hroom
            · simp only [List.size_toArray, List.length_append, List.length_take, List.length_drop, Array.length_toList]
              omega
            · rw [hpre, List.append_assoc]
          · have holds : ∀ (j : Nat) (u : Value), pre[j]? = some u → w.cell? ((⟨l.b, 0, none⟩ : Addr).add j) = some u := fun j u hj => by
              have hjl : j < pre.length := (List.getElem?_eq_some_iff.1 hj).1
              rw [Addr.add_lit, Nat.zero_add, cell_of_row w _ _ cur _ _ h6, ← Array.getElem?_toList, h8, List.getElem?_append_left hjl]
              exact hj
            have hmx : vals'.length + xs.length ≤ 9223372036854775807 := by unfold maxLen at c7; omega
            have hrun := run_append_grow (P := P) w t o.type e i z ht hi hz ⟨l.b, 0, none⟩ vals'.length cap pre hpl holds ⟨b, off, none⟩ xs.length capx seg hl (haddr b off seg hcell) (by omega) (by omega) (growslice_fits (by omega) c6)
            have hge := grownCap_ge w (vals'.length + xs.length) cap e
            have hcm := grownCap_le_maxLen w (vals'.length + xs.length) cap e c7
            have hsize : (pre.toArray ++ seg.toArray ++ Builtin.zeroCells z.cells (grownCap w (vals'.length + xs.length) cap e - (vals'.length + xs.length))).size = grownCap w (vals'.length + xs.length) cap e * i.size := by
              simp only [Array.size_append, List.size_toArray, size_zeroCells, hzs, hl, hpl, ← Nat.add_mul]
              congr 1; omega
            have hheap : ∀ r, r < w.heap.size → (w.drew.alloc (.cells (pre.toArray ++ seg.toArray ++ Builtin.zeroCells z.cells (grownCap w (vals'.length + xs.length) cap e - (vals'.length + xs.length))) e)).heap[r]? = w.heap[r]? := fun r hr =>
              heap_alloc_old w.drew _ r hr
            have hnewb := heap_alloc_new w.drew (.cells (pre.toArray ++ seg.toArray ++ Builtin.zeroCells z.cells (grownCap w (vals'.length + xs.length) cap e - (vals'.length + xs.length))) e)
            have hlt : l.b < w.heap.size := (Array.getElem?_eq_some_iff.1 h6).1
            refine wpIn_run hd (run_appOp ho (by rw [h15, hx]; exact hrun)) (hK (G.put id ⟨w.heap.size, i.size, grownCap w (vals'.length + xs.length) cap e * i.size⟩) _ _ (Ghost.le_put (hH.fresh id hid)) ?_ ?_ (.of_below ((drew_keeps w).trans (below_push (w := w.drew) _))))
            · simp only [VRel]
              exact ⟨_, grownCap w (vals'.length + xs.length) cap e, put_self _ _ _, rfl, by simp, hge, hcm, by simp⟩
            · refine hH.ext hM h3 hid (fun r hr _ => hheap r hr) ⟨h4, h5, cur, (hheap _ hlt).trans h6, h7, pre, suf, h8, h9, h10⟩
                ⟨rfl, ?_, _, hnewb, hsize, pre ++ seg, (Builtin.zeroCells z.cells (grownCap w (vals'.length + xs.length) cap e - (vals'.length + xs.length))).toList, by simp, ?_, ?_⟩ (.inr (Nat.le_refl _)) (Keeps.of_below ((drew_keeps w).trans (below_push (w := w.drew) _))).size
              · intro v hv
                rcases List.mem_append.1 hv with hv | hv
                · exact h5 v hv
                · exact hu v hv
              · rw [flat_append]; exact h9.append hr
              · intro c hc
                rcases List.mem_append.1 hc with hc | hc
                · exact h10 c hc
                · exact hone c hc
      · cases he
    · cases he
  · -- onto what is clipped
    rename_i us
    simp only [Option.bind_eq_some_iff] at he
    obtain ⟨xs, hsrc, he⟩ := he
    obtain ⟨hu, hsrc⟩ := srcV_sound hH hlk hsrc h2
    split at he
    · rename_i hc
      obtain ⟨c1, c2, c3, c4⟩ := hc
      cases he
      have hus : ∀ v ∈ us, v.cells.length = i.size := fun v hv => by
        have := List.all_eq_true.1 c1 v hv
        simpa using this
      rcases hsrc with ⟨_, rfl⟩ | ⟨b, off, capx, seg, hx, hr, hone, hcell⟩
      · simp at c2
      · have hl := cells_uniform hpos hu hr
        have hmx : us.length + xs.length ≤ 9223372036854775807 := by unfold maxLen at c4; omega
        have fin : ∀ (cap0 : Nat) (pre : List Value), pre.length = us.length * i.size → VRels G (flat us) pre → (∀ c ∈ pre, c.oneCell' = true) →
            (Builtin.append_ #[t, t] o.type #[a.eval s, a.eval x]).run P w = .ok (.slice (some ⟨w.heap.size, 0, none⟩) (us.length + xs.length) (grownCap w (us.length + xs.length) cap0 e)) (w.drew.alloc (.cells (pre.toArray ++ seg.toArray ++ Builtin.zeroCells z.cells (grownCap w (us.length + xs.length) cap0 e - (us.length + xs.length))) e)) → o.wpIn (FW r) n P a w K Q := by
          intro cap0 pre hpl hpr hpo hrun
          have hge := grownCap_ge w (us.length + xs.length) cap0 e
          have hcm := grownCap_le_maxLen w (us.length + xs.length) cap0 e c4
          have hH' := (hH.world (w' := w.drew) (fun _ _ => rfl) (Nat.le_refl _)).alloc id hid e i.size (us ++ xs) (pre.toArray ++ seg.toArray ++ Builtin.zeroCells z.cells (grownCap w (us.length + xs.length) cap0 e - (us.length + xs.length))) (pre ++ seg) (Builtin.zeroCells z.cells (grownCap w (us.length + xs.length) cap0 e - (us.length + xs.length))).toList (fun v hv => (List.mem_append.1 hv).elim (hus v) (hu v)) (by simp) (by rw [flat_append]; exact hpr.append hr) (fun c hc => (List.mem_append.1 hc).elim (hpo c) (hone c))
          refine wpIn_run hd (run_appOp ho hrun) (hK _ _ _ (Ghost.le_put (hH.fresh id hid)) ?_ hH' (.of_below ((drew_keeps w).trans (below_push (w := w.drew) _))))
          simp only [VRel]
          refine ⟨_, grownCap w (us.length + xs.length) cap0 e, put_self _ _ _, rfl, by simp, hge, hcm, ?_⟩
          simp only [Array.size_append, List.size_toArray, size_zeroCells, hzs, hl, hpl, Nat.zero_add, ← Nat.add_mul]
          congr 1; omega
        simp only [VRel] at h1
        rcases h1 with ⟨rfl, a0, hs0⟩ | ⟨b0, o0, esz0, hr0, hs0⟩
        · simp only [List.length_nil, Nat.zero_add] at c3 c4 hmx
          cases a0 with
          | none =>
            refine fin 0 [] (by simp) (by simp [flat, VRels]) (by simp) ?_
            have hrun := run_append_nil (P := P) w t o.type e i z ht hi hz ⟨b, off, none⟩ xs.length capx seg hl (haddr b off seg hcell) (by omega) (by omega) (by omega)
            rw [hs0, hx]
            simpa using hrun
          | some a0 =>
            refine fin 0 [] (by simp) (by simp [flat, VRels]) (by simp) ?_
            have hrun := run_append_grow (P := P) w t o.type e i z ht hi hz a0 0 0 [] (by simp) (by simp) ⟨b, off, none⟩ xs.length capx seg hl (haddr b off seg hcell) (by omega) (by omega) (growslice_fits (by omega) (by simpa using c3))
            rw [hs0, hx]
            simpa using hrun
        · obtain ⟨pre, h4, h5, h6⟩ := rows_cells hH us o0 hus hr0
          have hpl := cells_uniform hpos hus h4
          refine fin us.length pre hpl h4 h5 ?_
          have hrun := run_append_grow (P := P) w t o.type e i z ht hi hz ⟨b0, o0, none⟩ us.length us.length pre hpl (haddr b0 o0 pre h6) ⟨b, off, none⟩ xs.length capx seg hl (haddr b off seg hcell) (by omega) (by omega) (growslice_fits (by omega) c3)
          rw [hs0, hx]
          exact hrun
    · cases he


theorem flat_one : ∀ {l : List AV}, (∀ v ∈ l, v.cells.length = 1) → ∀ k, flat (l.take k) = (flat l).take k
  | [], _, k => by simp [flat]
  | v :: l, h, 0 => by simp [flat]
  | v :: l, h, k + 1 => by
    have h1 := h v (by simp)
    obtain ⟨c, hc⟩ := List.length_eq_one_iff.1 h1
    have ih := flat_one (l := l) (fun u hu => h u (List.mem_cons_of_mem _ hu)) k
    simp only [List.take_succ_cons, flat, hc, List.cons_append, List.nil_append, ih]
theorem flat_one_drop : ∀ {l : List AV}, (∀ v ∈ l, v.cells.length = 1) → ∀ k, flat (l.drop k) = (flat l).drop k
  | [], _, k => by simp [flat]
  | v :: l, h, 0 => by simp [flat]
  | v :: l, h, k + 1 => by
    have h1 := h v (by simp)
    obtain ⟨c, hc⟩ := List.length_eq_one_iff.1 h1
    have ih := flat_one_drop (l := l) (fun u hu => h u (List.mem_cons_of_mem _ hu)) k
    simp only [List.drop_succ_cons, flat, hc, List.cons_append, List.nil_append, ih]

theorem cpy_sound {d s : Operand} {t u e : TypeId} {i : TypeInfo} (ht : P.underlying t = some (.slice e)) (hi : P.info? e = some i) (hs : i.size = 1)
    (ho : o.op = .call { callee := .builtin .copy, args := #[d, s], argTypes := #[t, u] }) (hH : HRel G M fr w) {x y : AV} {f : Eff}
    (h1 : VRel G x (a.eval d)) (h2 : VRel G y (a.eval s)) (hlk : ∀ t e, lk t = some e → M e ∧ e.id = t) (he : cpyV lk x y = some (v, f))
    (hK : ∀ (G' : Ghost) (cv : Value) (w' : World), G.le G' → VRel G' v cv → HRel G' (effM f M) (frE f fr) w' → Keeps w w' → K (a.put o.dst cv) w') :
    o.wpIn (FW r) n P a w K Q := by
  have hd : ∀ c, o.op ≠ .defer c := by rw [ho]; simp
  have hrunO : ∀ {cv : Value} {w' : World}, (Builtin.copy_ #[t, u] o.type #[a.eval d, a.eval s]).run P w = .ok cv w' → (execOp a.eval o).run P w = .ok (.value cv) w' := fun h => by
    obtain ⟨c, hc⟩ := run_builtin (P := P) (ρ := a.eval) ho
    rw [hc]
    simp [builtin, h]
  cases x <;> simp only [cpyV] at he <;> try (cases he; done)
  rename_i t' esz i0 k
  split at he
  · rename_i t0 g e' esz'' vals' hlk'
    obtain ⟨hM, hid0⟩ := hlk _ _ hlk'
    simp only [Option.bind_eq_some_iff] at he
    obtain ⟨xs, hsrc, he⟩ := he
    obtain ⟨hu, hsrc⟩ := srcV_sound hH hlk hsrc h2
    split at he
    · rename_i hc
      obtain ⟨c1, c2, c3⟩ := hc
      subst c1; subst c2
      cases he
      obtain ⟨l, h3, ⟨h4, h5, cur, h6, h7, pre, suf, h8, h9, h10⟩, h11, h12⟩ := hH.ent _ hM
      simp only at hid0 h3
      subst hid0
      simp only [VRel] at h1
      obtain ⟨l', cap, h13, h14, h15, h16, h17, h18⟩ := h1
      rw [h3] at h13; cases h13
      simp only [Nat.mul_one] at h15 h18
      have hpl : pre.length = vals'.length := by rw [cells_uniform (by decide) h5 h9, Nat.mul_one]
      -- nothing to copy
      have none' : xs.take k = [] → (∀ sa sc, a.eval s = .slice sa xs.length sc → (execOp a.eval o).run P w = .ok (.value (goInt 0)) w) := fun h0 sa sc hx => by
        have hn : Nat.min xs.length k = 0 := by
          have := congrArg List.length h0
          simp only [List.length_take, List.length_nil] at this
          show min xs.length k = 0
          omega
        exact hrunO (by rw [h15, hx]; exact run_copy_none (P := P) w t u o.type e _ sa k cap xs.length sc ht (by simp [hi, hs]) hn)
      have fin0 : xs.take k = [] → (∃ sa sc, a.eval s = .slice sa xs.length sc) → o.wpIn (FW r) n P a w K Q := by
        rintro h0 ⟨sa, sc, hx⟩
        refine wpIn_run hd (none' h0 sa sc hx) (hK G _ _ .rfl (by simp only [h0, List.length_nil, VRel]; rfl) ?_ .rfl)
        refine HRel.setB hH hM h3 (fun r _ => rfl) (Nat.le_refl _) ?_
        simp only [h0, List.nil_append, List.length_nil, Nat.add_zero, List.take_append_drop]
        exact ⟨h4, h5, cur, h6, h7, pre, suf, h8, h9, h10⟩
      rcases hsrc with ⟨⟨sa, sc, hx⟩, rfl⟩ | ⟨b, off, capx, seg, hx, hr, hone, hcell⟩
      · exact fin0 (by simp) ⟨sa, sc, hx⟩
      · have hl : seg.length = xs.length := by rw [cells_uniform (by decide) hu hr, Nat.mul_one]
        have hcl : (seg.take k).length = min xs.length k := by simp [hl, Nat.min_comm]
        have hxl : (xs.take k).length = min xs.length k := by simp [Nat.min_comm]
        have hsize : pre.length + suf.length = cur.size := by
          have : cur.toList.length = cur.size := by simp
          rw [h8, List.length_append] at this
          exact this
        have hrun := run_copy_row (P := P) w t u o.type e l.b i0 k cap ⟨b, off, none⟩ xs.length capx cur e' (seg.take k) ht (by simp [hi, hs]) h6 hcl
          (fun j c hj => by
            rw [Addr.add_lit]
            rw [List.getElem?_take] at hj
            split at hj
            · exact hcell j c hj
            · cases hj) (by rw [hcl]; omega) (fun c hc => hone c (List.mem_of_mem_take hc))
        have hrun2 := hrunO (cv := goInt (seg.take k).length) (w' := w.setRow l.b (cur.toList.take i0 ++ seg.take k ++ cur.toList.drop (i0 + (seg.take k).length)).toArray) (by rw [h15, hx]; exact hrun)
        refine wpIn_run hd hrun2 (hK G _ _ .rfl (by simp only [VRel]; rw [hcl, hxl]; rfl) ?_ ⟨rfl, rfl, rfl, by simp [World.setRow]⟩)
        have hnew := setRow_heap w l.b cur (cur.toList.take i0 ++ seg.take k ++ cur.toList.drop (i0 + (seg.take k).length)).toArray e' (0, 0) h6
        refine HRel.setB hH hM h3 (fun r hr => setRow_other w l.b r _ hr) (by simp [World.setRow]) ⟨h4, ?_, _, hnew, ?_, pre.take i0 ++ (seg.take k ++ pre.drop (i0 + (seg.take k).length)), suf, ?_, ?_, ?_⟩
        · intro v hv
          rcases List.mem_append.1 hv with hv | hv
          · exact h5 v (List.mem_of_mem_take hv)
          · rcases List.mem_append.1 hv with hv | hv
            · exact hu v (List.mem_of_mem_take hv)
            · exact h5 v (List.mem_of_mem_drop hv)
        · simp only [List.size_toArray, List.length_append, List.length_take, List.length_drop, Array.length_toList, ← h7]
          omega
        · rw [h8]
          rw [List.take_append_of_le_length (by omega), List.drop_append_of_le_length (by omega)]
          simp [List.append_assoc]
        · rw [flat_append, flat_append, flat_one h5, flat_one hu, flat_one_drop h5, hxl, ← hcl]
          exact (h9.take _).append ((hr.take _).append (h9.drop _))
        · intro c hc
          rcases List.mem_append.1 hc with hc | hc
          · exact h10 c (List.mem_of_mem_take hc)
          · rcases List.mem_append.1 hc with hc | hc
            · exact hone c (List.mem_of_mem_take hc)
            · exact h10 c (List.mem_of_mem_drop hc)
    · cases he
  · cases he

theorem made_one (z : Value) (hz : z.cells = #[z]) (n : Nat) : (madeCells z.cells n).toList = List.replicate n z := by
  rw [hz]
  apply List.ext_getElem
  · simp [madeCells]
  · intro i h1 h2
    simp [madeCells, Nat.mod_one]
theorem flat_rep {zv : AV} (hz : zv.cells = [zv]) : ∀ n, flat (List.replicate n zv) = List.replicate n zv
  | 0 => rfl
  | n + 1 => by rw [List.replicate_succ, flat, hz, flat_rep hz n]; rfl
theorem rep_rel {G : Ghost} {zv : AV} {z : Value} (h : VRel G zv z) : ∀ n, VRels G (List.replicate n zv) (List.replicate n z)
  | 0 => by simp only [List.replicate_zero, VRels]
  | n + 1 => by simp only [List.replicate_succ, VRels]; exact ⟨z, _, rfl, h, rep_rel h n⟩

theorem eff_sound {aop : AOp} {op : Op} {xs : List Operand} {f : Eff} {id : Nat} (hid : fr id) (hc : CA P op aop xs) (ho : o.op = op) (hH : HRel G M fr w) (hv : VRels G vals (xs.map a.eval))
    (hlk : ∀ t e, lk t = some e → M e ∧ e.id = t) (he : effOp lk id aop vals = some (v, f))
    (hK : ∀ (G' : Ghost) (cv : Value) (w' : World), G.le G' → VRel G' v cv → HRel G' (effM f M) (frE f fr) w' → Keeps w w' → K (a.put o.dst cv) w') : o.wpIn (FW r) n P a w K Q := by
  cases hc with
  | p => simp [effOp] at he
  | load => simp [effOp] at he
  | call => simp [effOp] at he
  | callv => simp [effOp] at he
  | store ht hn =>
    obtain ⟨u, y, rfl, h1, h2⟩ := two hv
    simp only [effOp, Option.map_eq_some_iff, Prod.mk.injEq] at he
    obtain ⟨f', hf, rfl, rfl⟩ := he
    exact store_sound ht hn ho hH h1 h2 hlk hf hK
  | app ht hi hz hzs hs =>
    obtain ⟨u, y, rfl, h1, h2⟩ := two hv
    exact app_sound ht hi hz hzs hs ho hid hH h1 h2 hlk he hK
  | cpy ht hi hs =>
    obtain ⟨u, y, rfl, h1, h2⟩ := two hv
    exact cpy_sound ht hi hs ho hH h1 h2 hlk (by simpa only [effOp] using he) hK
  | @mks t e l c i z zv ht hi hz hzs hs =>
    obtain ⟨u, y, rfl, h1, h2⟩ := two hv
    cases u <;> cases y <;> simp only [effOp] at he <;> try (cases he; done)
    rename_i k1 n1 k2 n2
    split at he
    · rename_i hc
      obtain ⟨rfl, hc0, hc1, hc2, hc3⟩ := hc
      cases he
      simp only [VRel] at h1 h2
      obtain ⟨g1, g2⟩ := absS_rel hzs G
      obtain ⟨hcr, hone⟩ := g1.cells (.inl g2)
      have hcs := cells_of_sc g2
      have hzc : z.cells = #[z] := by
        have := g1.oneCell g2
        cases z <;> first | rfl | simp [Value.oneCell'] at this
      have hm : n1 ≤ 9223372036854775807 := by unfold maxLen at hc2; omega
      have hby : (i.bytes : Int) * n1 ≤ 281474976710656 := by
        have e : ((n1.toNat : Nat) : Int) = n1 := by omega
        rw [← e, Int.mul_comm]
        have := Int.ofNat_le.2 hc1
        rw [Int.natCast_mul] at this
        omega
      have hrun := run_make (P := P) w t e i z ht hi hz k1 k2 n1 n1 hc0 (Int.le_refl _) hby hm
      rw [hs, Nat.mul_one] at hrun
      refine lay hid hH (cells := madeCells z.cells n1.toNat) (cv := .slice (some ⟨w.heap.size, 0, none⟩) n1.toNat n1.toNat) (by rw [ho]; simp) ?_ ?_ ?_ ?_ (fun G' hG' => ?_) hK
      · simp only [execOp, ho, h1, h2, Sem.run_bind, hrun, Result.andThen_ok, Sem.run_pure]
        rfl
      · intro v hv
        rw [List.eq_of_mem_replicate hv, hcs]; rfl
      · rw [made_one z hzc, flat_rep hcs]; exact rep_rel g1 _
      · intro v hv
        rw [made_one z hzc] at hv
        rw [List.eq_of_mem_replicate hv]; exact g1.oneCell g2
      · simp only [VRel]
        exact ⟨_, n1.toNat, hG', rfl, by simp, Nat.le_refl _, hc2, by simp [size_madeCells]⟩
    · cases he
  | @alloc1 t i z zs esz k hi hz hzs hl =>
    have : vals = [] := by cases vals with | nil => rfl | cons _ _ => simp [VRels] at hv
    subst this
    simp only [effOp, Option.some.injEq, Prod.mk.injEq] at he
    obtain ⟨rfl, rfl⟩ := he
    obtain ⟨h1, h2, h3⟩ := absL_rel hzs G
    refine lay hid hH (cells := z.cells) (cv := .pointer (some ⟨w.heap.size, 0, none⟩)) (by rw [ho]; simp) ?_ ?_ ?_ h3 (fun G' hG' => ?_) hK
    · simp only [execOp, ho, Instr.alloc, Sem.run_bind, run_zero hi hz, Result.andThen_ok, newVar, newRow, run_newObj, Sem.run_pure]
    · split
      · rename_i hk
        subst hk
        intro v hv
        simp only [List.mem_singleton] at hv
        subst hv
        simp [AV.cells, hl]
      · exact rowsOf_cells hl h2
    · split
      · simpa [flat, AV.cells] using h1
      · rw [flat_rowsOf hl h2]; exact h1
    · simp only [VRel]
      exact ⟨_, hG', rfl, by simp⟩
  | @alloc2 t i z zv hi hz hzs =>
    have : vals = [] := by cases vals with | nil => rfl | cons _ _ => simp [VRels] at hv
    subst this
    simp only [effOp, Option.some.injEq, Prod.mk.injEq] at he
    obtain ⟨rfl, rfl⟩ := he
    obtain ⟨h1, h2⟩ := absS_rel hzs G
    obtain ⟨hcr, hone⟩ := h1.cells (.inl h2)
    have hcs := cells_of_sc h2
    refine lay hid hH (cells := z.cells) (cv := .pointer (some ⟨w.heap.size, 0, none⟩)) (by rw [ho]; simp) ?_ ?_ ?_ hone (fun G' hG' => ?_) hK
    · simp only [execOp, ho, Instr.alloc, Sem.run_bind, run_zero hi hz, Result.andThen_ok, newVar, newRow, run_newObj, Sem.run_pure]
    · intro v hv
      simp only [List.mem_singleton] at hv
      subst hv
      simp [hcs]
    · simpa [flat] using hcr
    · simp only [VRel]
      exact ⟨_, hG', rfl, by simp⟩
  | @box t x ag esz k =>
    obtain ⟨u, rfl, h1⟩ := one hv
    simp only [effOp] at he
    have hrun : (execOp a.eval o).run P w = .ok (.value (.pointer (some ⟨w.heap.size, 0, none⟩))) { w with heap := w.heap.push (.cells (a.eval x).cells t (0, 0)) } := by
      simp only [execOp, ho, Instr.box, Sem.run_bind, newVar, newRow, run_newObj, Sem.run_pure, Result.andThen_ok]
    split at he
    · split at he
      · rename_i hc
        obtain ⟨hag, hl, hsc⟩ := hc
        cases he
        obtain ⟨cs, rfl⟩ := AV.isAgg_iff hag
        obtain ⟨hcr, hone⟩ := h1.cells (.inr ⟨cs, rfl⟩)
        refine lay hid hH (cells := (a.eval x).cells) (by rw [ho]; simp) hrun ?_ ?_ hone (fun G' hG' => ?_) hK
        · split
          · rename_i hk
            subst hk
            intro v hv
            simp only [List.mem_singleton] at hv
            subst hv
            simp [hl]
          · exact rowsOf_cells hl hsc
        · split
          · simpa [flat] using hcr
          · rw [flat_rowsOf hl hsc]; exact hcr
        · simp only [VRel]
          exact ⟨_, hG', rfl, by simp⟩
      · cases he
    · split at he
      · rename_i hc
        obtain ⟨hsc, rfl, rfl⟩ := hc
        cases he
        obtain ⟨hcr, hone⟩ := h1.cells (.inl hsc)
        have hcs := cells_of_sc hsc
        refine lay hid hH (cells := (a.eval x).cells) (by rw [ho]; simp) hrun ?_ ?_ hone (fun G' hG' => ?_) hK
        · intro v hv
          simp only [List.mem_singleton] at hv
          subst hv
          simp [hcs]
        · simpa [flat] using hcr
        · simp only [VRel]
          exact ⟨_, hG', rfl, by simp⟩
      · cases he
  | @bs t e len parts i z fz ht hi hz hlen hin hb hzs hs =>
    cases fz with
    | true => simp [effOp] at he
    | false =>
      simp only [Bool.false_eq_true, if_false, effOp] at he
      split at he
      · rename_i hall
        cases he
        obtain ⟨cells, h1, h2, h3, h4⟩ := run_bsl (P := P) (ρ := a.eval) ht hi hz hzs hlen hin hb hs (by simpa [Function.comp_def] using hv) hall w
        have hlv := hv.length
        simp at hlv
        refine lay hid hH (cells := cells) (cv := .slice (some ⟨w.heap.size, 0, none⟩) len len) (by rw [ho]; simp) ?_ (all_cells hall) h2 h3 (fun G' hG' => ?_) hK
        · simp only [execOp, ho, Sem.run_bind, h1, Result.andThen_ok, Sem.run_pure]
        · simp only [VRel]
          have hvl : vals.length = len := by omega
          refine ⟨_, len, hG', rfl, by rw [hvl]; simp, by omega, ?_, by simp [h4]⟩
          unfold maxLen
          have : len ≤ len * i.size := Nat.le_mul_of_pos_right _ (Nat.pos_of_ne_zero hs)
          omega
      · cases he

end
end Eng
