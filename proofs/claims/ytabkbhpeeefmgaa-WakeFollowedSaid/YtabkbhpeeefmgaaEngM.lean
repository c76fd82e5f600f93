/-
THE ENGINE, PART K: contracts; loading, calling, building a slice that is not written any more: sound.
THE ENGINE, PART L: operations that change nothing but their own slot: sound.
THE ENGINE, PART M: operations that make or write memory: sound.
-/
import Derived.Test.YtabkbhpeeefmgaaEngG
import Derived.OrdersIn
namespace Eng
open Go Go.RowKit
set_option linter.unusedSimpArgs false
set_option linter.unusedVariables false

/-- a fence that lets everything in -/
def FW (r : Option Nat) : Fence := { Fence.wide with round := r }

theorem fenced_FW (P : Program) (r : Option Nat) (m : Machine) : m.fenced P (FW r) := by
  intro g _
  refine ⟨fun h => ?_, Or.inl trivial, fun _ _ => trivial, fun _ h => ?_⟩
  · simp [FW, Fence.wide] at h
  · simp [FW, Fence.wide] at h

theorem room_FW (r : Option Nat) (n : Nat) : (FW r).room n := fun _ h => by simp [FW, Fence.wide] at h

theorem callsIn_FW {r : Option Nat} {n : Nat} {P : Program} {f : FuncId} {args : Array Value} {w : World} {R : Ending → World → Prop} (h : Calls P f args w R) : CallsIn (FW r) n P f args w R :=
  ⟨trivial, fun cs _ => by
    obtain ⟨e, w', fr, hr, s, x⟩ := h cs
    refine ⟨e, w', fr, hr, ?_, x⟩
    cases e with
    | returned v => exact (StepsIn.of_steps s).mono fun m _ => fenced_FW P r m
    | panicked c => exact (StepsIn.of_steps s).mono fun m _ => fenced_FW P r m
    | outgrown => exact s⟩

theorem calls_FW {r : Option Nat} {n : Nat} {P : Program} {f : FuncId} {args : Array Value} {w : World} {R : Ending → World → Prop} (h : CallsIn (FW r) n P f args w R) : Calls P f args w R :=
  h.calls fun k => room_FW r k

/-- what was read-only stays so; all new blocks are read-only from now on -/
def Ghost.more (G : Ghost) (B : Nat) (w : World) : Ghost := { G with ro := fun r => if r < B then G.ro r else w.heap[r]? }
def Ghost.all (G : Ghost) (w : World) : Ghost := { G with ro := fun r => w.heap[r]? }

def Ghost.ok (G : Ghost) (w : World) : Prop := ∀ r o, G.ro r = some o → w.heap[r]? = some o

theorem Ghost.ok.lt {G : Ghost} {w : World} (h : G.ok w) {r : Nat} {o : Obj} (hr : G.ro r = some o) : r < w.heap.size := (Array.getElem?_eq_some_iff.1 (h r o hr)).1

theorem Ghost.le_more {G : Ghost} {w w' : World} (h : G.ok w) : G.le (G.more w.heap.size w') :=
  ⟨⟨fun _ _ h => h, fun r o hr => by simp only [Ghost.more, h.lt hr, if_true]; exact hr⟩, rfl⟩

theorem Ghost.le_all {G : Ghost} {w : World} (h : G.ok w) : G.le (G.all w) := ⟨⟨fun _ _ h => h, fun r o hr => h r o hr⟩, rfl⟩

theorem HRel.more {G : Ghost} {M : HEnt → Prop} {fr : Nat → Prop} {w w' : World} (h : HRel G M fr w) (hb : Below w.heap.size w w') : HRel (G.more w.heap.size w') M fr w' := by
  have hle : G.le (G.more w.heap.size w') := Ghost.le_more h.ro
  refine ⟨fun r o hr => ?_, fun e he => ?_, h.sep, h.fresh, h.uniq, h.own, fun r hr => Nat.lt_of_lt_of_le (h.sz r hr) hb.size, fun r hr => ?_⟩
  · simp only [Ghost.more] at hr
    split at hr
    · rename_i hlt; rw [hb.block r hlt]; exact h.ro r o hr
    · exact hr
  · obtain ⟨l, h1, h2, h3, h4⟩ := h.ent e he
    refine ⟨l, h1, (h2.mono hle).world (hb.block _ h2.lt), ?_, h4⟩
    simp only [Ghost.more, h2.lt, if_true]; exact h3
  · have hlt : r < w.heap.size := h.sz r hr
    simp only [Ghost.more, hlt, if_true]
    exact ⟨(h.lo r hr).1, (hb.block r hlt).trans (h.lo r hr).2⟩

/-- THE CONTRACT OF A FUNCTION AT SOME VALUES: it returns v, and has turned nothing that was. -/
def FOk (P : Program) (f : FuncId) (args : List AV) (v : AV) : Prop :=
  (∀ (cargs : Array Value) (w : World), (callFunc f cargs).run P w = .ok (.enter f cargs) w) ∧
  ∀ (G : Ghost) (w : World) (cargs : List Value), G.ok w → VRels G args cargs →
    Calls P f cargs.toArray w fun e w' => ∃ cv, e = .returned cv ∧ Below w.heap.size w w' ∧ VRel (G.more w.heap.size w') v cv

def Good (P : Program) (cs : Ctx) : Prop := ∀ f args v, cs f args = some v → FOk P f args v

theorem leaf_any {G G' : Ghost} {v : AV} {c : Value} (h : v.leaf = true) (hr : VRel G v c) : VRel G' v c := by
  cases v <;> simp only [AV.leaf, Bool.false_eq_true] at h <;> simpa only [VRel] using hr

theorem leaves_any {G G' : Ghost} : ∀ {vs : List AV} {cs : List Value}, vs.all AV.leaf = true → VRels G vs cs → VRels G' vs cs
  | [], cs, _, hr => by simpa only [VRels] using hr
  | v :: vs, cs, h, hr => by
    simp only [List.all_cons, Bool.and_eq_true] at h
    simp only [VRels] at hr ⊢
    obtain ⟨c, cs', e, h1, h2⟩ := hr
    exact ⟨c, cs', e, leaf_any h.1 h1, leaves_any h.2 h2⟩

theorem tups_any {G G' : Ghost} : ∀ {vs : List AV} {cs : List Value}, (vs.all fun u => match u with | .agg cs => cs.all AV.leaf | u => u.leaf) = true → VRels G vs cs → VRels G' vs cs
  | [], cs, _, hr => by simpa only [VRels] using hr
  | v :: vs, cs, h, hr => by
    simp only [List.all_cons, Bool.and_eq_true] at h
    simp only [VRels] at hr ⊢
    obtain ⟨c, cs', e, h1, h2⟩ := hr
    refine ⟨c, cs', e, ?_, tups_any h.2 h2⟩
    cases v <;> try exact leaf_any h.1 h1
    simp only [VRel] at h1 ⊢
    obtain ⟨ccs, h3, h4⟩ := h1
    exact ⟨ccs, leaves_any h.1 h3, h4⟩

theorem flat_any {G G' : Ghost} {v : AV} {c : Value} (h : v.flatV = true) (hr : VRel G v c) : VRel G' v c := by
  cases v <;> try exact leaf_any h hr
  · simp only [VRel] at hr ⊢
    obtain ⟨ccs, h1, h2⟩ := hr
    exact ⟨ccs, leaves_any h h1, h2⟩
  · simp only [VRel] at hr ⊢
    obtain ⟨ccs, h1, h2⟩ := hr
    exact ⟨ccs, tups_any h h1, h2⟩

/-- the rows of a block, as they lie -/
theorem rows_of {G : Ghost} {b esz : Nat} {cur : Array Value} {e : TypeId} {fr : Nat × Nat} (hro : G.ro b = some (.cells cur e fr)) :
    ∀ {vals : List AV} {pre seg suf : List Value}, (∀ v ∈ vals, v.cells.length = esz) → cur.toList = pre ++ (seg ++ suf) → VRels G (flat vals) seg → (∀ c ∈ seg, c.oneCell' = true) → VRows G vals b pre.length esz
  | [], _, _, _, _, _, _, _ => by simp only [VRows]
  | v :: vs, pre, seg, suf, hl, hc, hr, h1 => by
    have hv := hl v (by simp)
    simp only [flat] at hr
    have hlen := hr.length
    simp only [List.length_append] at hlen
    have r1 := hr.take v.cells.length
    rw [List.take_left' rfl] at r1
    have r2 := hr.drop v.cells.length
    rw [List.drop_left' rfl] at r2
    have e1 : seg = seg.take esz ++ seg.drop esz := (List.take_append_drop _ _).symm
    have hl1 : (seg.take esz).length = esz := by rw [hv] at r1; have := r1.length; omega
    rw [hv] at r1 r2
    have rest := rows_of hro (vals := vs) (pre := pre ++ seg.take esz) (seg := seg.drop esz) (suf := suf) (fun u hu => hl u (by simp [hu])) (by rw [hc, List.append_assoc, ← List.append_assoc (seg.take esz), List.take_append_drop]) r2
      (fun c hc => h1 c (List.mem_of_mem_drop hc))
    simp only [VRows]
    rw [List.length_append, hl1] at rest
    refine ⟨?_, rest⟩
    have hone : ∀ c ∈ seg.take esz, c.oneCell' = true := fun c hc => h1 c (List.mem_of_mem_take hc)
    have hcells : RoCells G b pre.length (seg.take esz) := by
      refine ⟨cur, e, fr, hro, fun k c hk => ?_⟩
      have hk' : k < (seg.take esz).length := (List.getElem?_eq_some_iff.1 hk).1
      rw [← Array.getElem?_toList, hc, List.getElem?_append_right (by omega), Nat.add_sub_cancel_left, List.getElem?_append_left (by simp at hk'; omega)]
      rw [List.getElem?_take] at hk
      split at hk
      · exact hk
      · cases hk
    by_cases hag : ∃ cs, v = .agg cs
    · obtain ⟨cs, rfl⟩ := hag
      simp only [AV.cells] at r1 hv
      refine ⟨.agg (seg.take esz).toArray, ?_, by simp [AV.cells, hv], by simp only [Value.cells, List.size_toArray]; exact hl1, by simpa [Value.cells] using hone, by simpa [Value.cells] using hcells⟩
      simp only [VRel]
      exact ⟨_, r1, hone, rfl⟩
    · have hcv : v.cells = [v] := by cases v <;> first | rfl | exact (hag ⟨_, rfl⟩).elim
      rw [hcv] at r1 hv
      simp only [List.length_singleton] at hv
      obtain ⟨c, hc1, hc2⟩ := vrels1 r1
      rw [hc1] at hone hcells
      have hcc : c.cells = #[c] := by
        have := hone c (by simp)
        cases c <;> first | rfl | simp [Value.oneCell'] at this
      refine ⟨c, hc2, by simp [hcv, hv], by simp [hcc, hv], by simpa [hcc] using hone, by simpa [hcc] using hcells⟩

/-- the other way: rows read as cells -/
theorem VRel.cells' {G : Ghost} {v : AV} {c : Value} (h : VRel G v c) (h1 : ∀ x ∈ c.cells.toList, x.oneCell' = true) (hl : c.cells.size = v.cells.length) : VRels G v.cells c.cells.toList := by
  cases v
  case any =>
    obtain ⟨x, hx⟩ := List.length_eq_one_iff.1 (by simpa [AV.cells] using hl : c.cells.toList.length = 1)
    rw [hx]
    simp only [AV.cells, VRels]
    exact ⟨x, [], rfl, by simp only [VRel], rfl⟩
  case tup us =>
    simp only [VRel] at h
    obtain ⟨ccs, _, rfl⟩ := h
    have := h1 (.tuple ccs.toArray) (by simp [Value.cells])
    simp [Value.oneCell'] at this
  case agg cs => exact (h.cells (.inr ⟨cs, rfl⟩)).1
  all_goals exact (h.cells (.inl rfl)).1

end Eng

namespace Eng
open Go Go.RowKit
set_option linter.unusedSimpArgs false
set_option linter.unusedVariables false

/-- the shape of a variable: cells of an element, how many elements -/
def shapeOf (P : Program) (t : TypeId) : Option (Nat × Nat) :=
  match P.underlying t, P.info? t with
  | some (.array k e), some i => (P.info? e).map fun j => if k = 1 ∨ j.size = 0 then (i.size, 1) else (j.size, k)
  | some _, some i => some (i.size, 1)
  | _, _ => none

def inOrder : List (Nat × Operand) → Nat → Bool
  | [], _ => true
  | (i, _) :: r, k => decide (i = k) && inOrder r (k + 1)

/-- the operations of the engine out of the model's; fz: a slice that is built is not written any more -/
def compA (P : Program) (fz : Bool) : Op → Option (AOp × List Operand)
  | .load t x => (tyAgg P t).bind fun (ag, n) => if ag = false ∧ n ≠ 1 then none else some (.load n ag, [x])
  | .store t a v => (tyAgg P t).bind fun (ag, n) => if ag = false ∧ n ≠ 1 then none else some (.store n ag, [a, v])
  | .alloc t =>
    (tyAgg P t).bind fun (ag, n) => (shapeOf P t).bind fun (esz, k) => ((P.info? t).bind (·.zero)).bind fun z =>
      if ag then (absL z.cells.toList).bind fun zs => if zs.length = k * esz then some (.alloc t esz (if k = 1 then [.agg zs] else rowsOf esz k zs), []) else none
      else (absS z).bind fun zv => if esz = 1 ∧ k = 1 then some (.alloc t 1 [zv], []) else none
  | .box t x => (tyAgg P t).bind fun (ag, n) => (shapeOf P t).bind fun (esz, k) => if n = k * esz then some (.box t esz k ag, [x]) else none
  | .buildSlice t len parts =>
    match P.underlying t with
    | some (.slice e) =>
      (P.info? e).bind fun i => i.zero.bind fun z =>
        if parts.size = len ∧ inOrder parts.toList 0 = true ∧ len * i.size ≤ 16777216 ∧ z.cells.size = i.size ∧ i.size ≠ 0 then
          some (if fz then .fbs i.size else .bsl e i.size, parts.toList.map (·.2))
        else none
    | _ => none
  | .call { callee := .value (.func f), args, .. } => some (.call f, args.toList)
  | .call { callee := .value (.tmp t), args, .. } => some (.callv, .tmp t :: args.toList)
  | .call { callee := .builtin .append, args, argTypes } =>
    match args.toList, argTypes.toList with
    | [s, x], [t, u] =>
      if t = u then
        match P.underlying t with
        | some (.slice e) => (P.info? e).bind fun i => i.zero.bind fun z => if z.cells.size = i.size ∧ i.size ≠ 0 then some (.app e i.size i.bytes, [s, x]) else none
        | _ => none
      else none
    | _, _ => none
  | .makeSlice t l c =>
    match P.underlying t with
    | some (.slice e) => (tyAgg P e).bind fun (ag, n) => (P.info? e).bind fun i => i.zero.bind fun z => (absS z).bind fun zv => if ag = false ∧ n = 1 ∧ i.size = 1 then some (.mks e i.bytes zv, [l, c]) else none
    | _ => none
  | .call { callee := .builtin .copy, args, argTypes } =>
    match args.toList, argTypes.toList with
    | [d, s], [t, u] =>
      match P.underlying t with
      | some (.slice e) => (P.info? e).bind fun i => if i.size = 1 then some (.cpy, [d, s]) else none
      | _ => none
    | _, _ => none
  | op => (compP P op).map fun (p, xs) => (.p p, xs)

section
variable {P : Program} {G : Ghost} {M : HEnt → Prop} {fr : Nat → Prop} {w : World} {a : Act} {o : Oper} {v : AV} {vals : List AV} {r : Option Nat} {n : Nat}
  {K : Act → World → Prop} {Q : Exit → Act → World → Prop} {lk : Look}

theorem wpIn_run (hd : ∀ c, o.op ≠ .defer c) {x : Result Next} (h : (execOp a.eval o).run P w = x) (hK : o.uponIn (FW r) n P a K Q x) : o.wpIn (FW r) n P a w K Q :=
  ⟨fun _ _ => trivial, by rw [Oper.semAt_eq _ _ _ hd, h]; exact hK⟩

/-- one cell, or an aggregate, out of memory -/
theorem run_loadVar' {t : TypeId} {ag : Bool} {n : Nat} (ht : tyAgg P t = some (ag, n)) (hn : ag = false → n = 1) {b off : Nat} {seg : List Value} (hl : seg.length = n)
    (hc : ∀ (k : Nat) (c : Value), seg[k]? = some c → w.cell? ⟨b, off + k, none⟩ = some c) :
    (loadVar t ⟨b, off, none⟩).run P w = .ok (partOf ag seg) w := by
  unfold loadVar
  simp only [Sem.run_bind, run_isAgg' ht, Result.andThen_ok, Sem.run_ite]
  cases ag with
  | true =>
    have := run_loadCells_list (P := P) w ⟨b, off, none⟩ seg (fun j v hv => by rw [Addr.add_lit]; exact hc j v hv)
    simp only [if_true, Sem.run_bind, run_sizeOf' ht, Result.andThen_ok, ← hl, this, Sem.run_pure, partOf]
  | false =>
    have := hn rfl
    subst this
    obtain ⟨c, rfl⟩ := List.length_eq_one_iff.1 hl
    have h0 := hc 0 c (by simp)
    simp only [Nat.add_zero] at h0
    simp [h0, partOf]

theorem s_loadVar {t : TypeId} {ag : Bool} {n : Nat} {cx : Value} (ht : tyAgg P t = some (ag, n)) (hn : ag = false → n = 1) (hH : HRel G M fr w) (hv : VRels G vals [cx])
    (hlk : ∀ t e, lk t = some e → M e ∧ e.id = t) {u : AV} (hu : vals = [u]) (he : loadV lk n ag u = some v) :
    ∃ (b off : Nat) (cv : Value), cx = .pointer (some ⟨b, off, none⟩) ∧ VRel G v cv ∧ (loadVar t ⟨b, off, none⟩).run P w = .ok cv w := by
  subst hu
  obtain ⟨c, hc0, h1⟩ := vrels1 hv
  cases hc0
  -- out of cells
  have fin : ∀ (b off : Nat) (seg : List Value) (cs : List AV), cx = .pointer (some ⟨b, off, none⟩) → VRels G cs seg → (∀ c ∈ seg, c.oneCell' = true) → cs.length = n →
      (∀ (k : Nat) (c : Value), seg[k]? = some c → w.cell? ⟨b, off + k, none⟩ = some c) → (if ag then v = .agg cs else cs = [v]) → ∃ (b off : Nat) (cv : Value), cx = .pointer (some ⟨b, off, none⟩) ∧ VRel G v cv ∧ (loadVar t ⟨b, off, none⟩).run P w = .ok cv w := by
    intro b off seg cs hx hr hone hl hc hv'
    have hrun := run_loadVar' (P := P) ht hn (by rw [hr.length]; exact hl) hc
    refine ⟨b, off, partOf ag seg, hx, ?_, ?_⟩
    · cases ag with
      | true =>
        simp only [if_true] at hv'
        subst hv'
        simp only [partOf, if_true, VRel]
        exact ⟨seg, hr, hone, rfl⟩
      | false =>
        simp only [Bool.false_eq_true, if_false] at hv'
        subst hv'
        obtain ⟨c, hc1, hc2⟩ := vrels1 hr
        subst hc1
        simpa [partOf] using hc2
    · exact hrun
  cases u <;> simp only [loadV] at he <;> try (cases he; done)
  · rename_i t' esz i j
    split at he
    · rename_i t0 g e0 esz' vals' hlk'
      obtain ⟨hM, hid⟩ := hlk _ _ hlk'
      split at he
      · rename_i hesz
        subst hesz
        obtain ⟨l, h2, ⟨h3, h4, cur, h5, h6, pre, suf, h7, h8, h9⟩, h10, _⟩ := hH.ent _ hM
        simp only at hid h2
        subst hid
        simp only [VRel] at h1
        obtain ⟨l', h11, h12, h13⟩ := h1
        rw [h2] at h11; cases h11
        obtain ⟨hf, hle⟩ := rd_flat h4 he hn
        have hpl := h8.length
        refine fin _ _ ((pre.drop (i * esz + j)).take n) (((flat vals').drop (i * esz + j)).take n) h13 ((h8.drop _).take _) (fun c hc => h9 c (List.mem_of_mem_drop (List.mem_of_mem_take hc))) (by simp; omega) (fun k c hk => ?_) hf
        rw [cell_of_row w _ _ cur _ _ h5, ← Array.getElem?_toList, h7]
        rw [List.getElem?_take] at hk
        split at hk
        · rename_i hkn
          rw [List.getElem?_drop] at hk
          rw [List.getElem?_append_left (by omega)]
          exact hk
        · cases hk
      · cases he
    · cases he
  · rename_i vs i j
    simp only [VRel] at h1
    obtain ⟨b, off, esz, h2, h3⟩ := h1
    unfold rdV at he
    cases hvi : vs[i]? with
    | none => simp [hvi] at he
    | some u =>
      simp only [hvi, Option.bind_some] at he
      obtain ⟨cv, h4, h5, h6, h7, cur, e, fr', h8, h9⟩ := h2.get i u hvi
      have hcr := h4.cells' h7 (by rw [h6, h5])
      have hcell : ∀ (k : Nat) (c : Value), cv.cells.toList[k]? = some c → w.cell? ⟨b, off + i * esz + k, none⟩ = some c := fun k c hk => by
        rw [cell_of_row w _ _ cur _ _ (hH.ro _ _ h8)]
        exact h9 k c hk
      have hl := hcr.length
      have fin' : ∀ m, j + n ≤ u.cells.length → (if ag then v = .agg ((u.cells.drop j).take n) else (u.cells.drop j).take n = [v]) → m = 0 → ∃ (b off : Nat) (cv : Value), cx = .pointer (some ⟨b, off, none⟩) ∧ VRel G v cv ∧ (loadVar t ⟨b, off, none⟩).run P w = .ok cv w := by
        intro m hle hv' _
        refine fin _ _ ((cv.cells.toList.drop j).take n) ((u.cells.drop j).take n) h3 ((hcr.drop _).take _) (fun c hc => h7 c (List.mem_of_mem_drop (List.mem_of_mem_take hc))) (by simp; omega) (fun k c hk => ?_) hv'
        rw [List.getElem?_take] at hk
        split at hk
        · rw [List.getElem?_drop] at hk
          rw [Nat.add_assoc]
          exact hcell _ _ hk
        · cases hk
      cases ag with
      | true =>
        simp only [if_true] at he
        split at he
        · rename_i hc
          obtain ⟨rfl, hc2⟩ := hc
          split at he
          · rename_i hag
            cases he
            obtain ⟨cs, rfl⟩ := AV.isAgg_iff hag
            exact fin' 0 (by omega) (by simp [hc2, AV.cells]) rfl
          · cases he
        · split at he
          · rename_i hle
            cases he
            exact fin' 0 hle (by simp) rfl
          · cases he
      | false =>
        have := hn rfl
        subst this
        simp only [Bool.false_eq_true, if_false] at he
        obtain ⟨hlt, hj⟩ := List.getElem?_eq_some_iff.1 he
        refine fin' 0 hlt ?_ rfl
        simp only [Bool.false_eq_true, if_false]
        rw [List.drop_eq_getElem_cons hlt, hj]
        rfl

theorem s_load {t : TypeId} {ag : Bool} {n : Nat} {x : Operand} (ht : tyAgg P t = some (ag, n)) (hn : ag = false → n = 1) (ho : o.op = .load t x) (hH : HRel G M fr w) (hv : VRels G vals [a.eval x])
    (hlk : ∀ t e, lk t = some e → M e ∧ e.id = t) {u : AV} (hu : vals = [u]) (he : loadV lk n ag u = some v) :
    ∃ cv, VRel G v cv ∧ (execOp a.eval o).run P w = .ok (.value cv) w := by
  obtain ⟨b, off, cv, hx, hr, hrun⟩ := s_loadVar ht hn hH hv hlk hu he
  exact ⟨cv, hr, by simp only [execOp, ho, hx, Instr.loadAt, Instr.sureAddr, Sem.run_bind, Sem.run_pure, Result.andThen_ok, hrun]⟩

theorem pur_sound {G' : Ghost} (hle : G.le G') (hro : ∀ x, M x → ∀ l, G.ι x.id = some l → ∀ cur e, w.heap[l.b]? = some (.cells cur e (0, 0)) → G'.ro l.b = some (.cells cur e (0, 0))) (hH : HRel G M fr w) (hlk : ∀ t e, lk t = some e → M e ∧ e.id = t) {u u' : AV} {c : Value}
    (h : pur lk u = some u') (hv : VRel G u c) : VRel G' u' c := by
  have other : (some u = some u') → VRel G' u' c := fun e => by cases e; exact hv.mono hle
  cases u <;> simp only [pur] at h <;> try exact other h
  · cases h
    simp only [VRel] at hv ⊢
    exact .inl ⟨trivial, _, _, hv⟩
  · rename_i t esz i k
    split at h
    · rename_i t0 g e0 esz' vals' hlk'
      obtain ⟨hM, hid⟩ := hlk _ _ hlk'
      split at h
      · rename_i hc
        obtain ⟨hesz, hik⟩ := hc
        subst hesz
        cases h
        obtain ⟨l, h2, ⟨h3, h4, cur, h5, h6, pre, suf, h7, h8, h9⟩, h10, _⟩ := hH.ent _ hM
        simp only at hid h2
        subst hid
        simp only [VRel] at hv
        obtain ⟨l', cap, h11, h12, h13, h14, h15, h16⟩ := hv
        rw [h2] at h11; cases h11
        have hro' := hro _ hM _ h2 _ _ h5
        have hmid : VRels G (flat ((vals'.drop i).take k)) ((pre.drop (i * esz)).take (k * esz)) := by
          have hsplit : flat vals' = flat (vals'.take i) ++ (flat ((vals'.drop i).take k) ++ flat ((vals'.drop i).drop k)) := by
            rw [← flat_append, List.take_append_drop, ← flat_append, List.take_append_drop]
          have l1 : (flat (vals'.take i)).length = i * esz := flat_take_length h4 (by omega)
          have l2 : (flat ((vals'.drop i).take k)).length = k * esz := by
            rw [flat_length fun v hv => h4 v (List.mem_of_mem_drop (List.mem_of_mem_take hv))]
            simp only [List.length_take, List.length_drop]; rw [Nat.min_eq_left (by omega)]
          have := (h8.drop (i * esz)).take (k * esz)
          rw [hsplit, ← l1, List.drop_left' rfl, ← l2, List.take_left' rfl, l1, l2] at this
          exact this
        have hpl := h8.length
        have hfl := flat_length h4
        have hmul : i * esz + k * esz ≤ vals'.length * esz := by rw [← Nat.add_mul]; exact Nat.mul_le_mul_right _ hik
        have hrows := rows_of hro' (vals := (vals'.drop i).take k) (pre := pre.take (i * esz)) (seg := (pre.drop (i * esz)).take (k * esz)) (suf := (pre.drop (i * esz)).drop (k * esz) ++ suf) (esz := esz)
          (fun v hv => h4 v (List.mem_of_mem_drop (List.mem_of_mem_take hv)))
          (by rw [h7, ← List.append_assoc (List.take (k * esz) _), List.take_append_drop, ← List.append_assoc, List.take_append_drop]) (VRels.mono hle _ hmid) (fun c hc => h9 c (List.mem_of_mem_drop (List.mem_of_mem_take hc)))
        have e1 : (pre.take (i * esz)).length = i * esz := by simp; omega
        rw [e1] at hrows
        simp only [VRel]
        have hlen : ((vals'.drop i).take k).length = k := by simp; omega
        exact .inr ⟨_, _, _, cap, hrows, by rw [hlen]; exact h13, by rw [hlen]; exact h14⟩
      · cases h
    · cases h

theorem purs_sound {G' : Ghost} (hle : G.le G') (hro : ∀ x, M x → ∀ l, G.ι x.id = some l → ∀ cur e, w.heap[l.b]? = some (.cells cur e (0, 0)) → G'.ro l.b = some (.cells cur e (0, 0))) (hH : HRel G M fr w) (hlk : ∀ t e, lk t = some e → M e ∧ e.id = t) :
    ∀ {us us' : List AV} {cs : List Value}, purs lk us = some us' → VRels G us cs → VRels G' us' cs
  | [], us', cs, h, hv => by simp only [purs, Option.some.injEq] at h; subst h; simpa only [VRels] using hv
  | u :: us, us', cs, h, hv => by
    simp only [purs, Option.bind_eq_some_iff, Option.map_eq_some_iff] at h
    obtain ⟨u', h1, r, h2, rfl⟩ := h
    simp only [VRels] at hv ⊢
    obtain ⟨c, cs', rfl, h3, h4⟩ := hv
    exact ⟨c, cs', rfl, pur_sound hle hro hH hlk h1 h3, purs_sound hle hro hH hlk h2 h4⟩

theorem purs_same : ∀ {us us' : List AV} {cs : List Value}, us.any isSl = false → purs lk us = some us' → VRels G us cs → VRels G us' cs
  | [], us', cs, _, h, hv => by simp only [purs, Option.some.injEq] at h; subst h; simpa only [VRels] using hv
  | u :: us, us', cs, hs, h, hv => by
    simp only [List.any_cons, Bool.or_eq_false_iff] at hs
    simp only [purs, Option.bind_eq_some_iff, Option.map_eq_some_iff] at h
    obtain ⟨u', h1, r, h2, rfl⟩ := h
    simp only [VRels] at hv ⊢
    obtain ⟨c, cs', rfl, h3, h4⟩ := hv
    refine ⟨c, cs', rfl, ?_, purs_same hs.2 h2 h4⟩
    have other : (some u = some u') → VRel G u' c := fun e => by cases e; exact h3
    cases u <;> simp only [pur] at h1 <;> try exact other h1
    · cases h1
      simp only [VRel] at h3 ⊢
      exact .inl ⟨trivial, _, _, h3⟩
    · simp [isSl] at hs

theorem s_callV {cs : Ctx} (hcs : Good P cs) {f : Nat} {cvals : List Value} (hH : HRel G M fr w) (hv : VRels G vals cvals) (hlk : ∀ t e, lk t = some e → M e ∧ e.id = t) (he : callV cs lk f vals = some v)
    (hrun : (∀ (cargs : Array Value) (w : World), (callFunc f cargs).run P w = .ok (.enter f cargs) w) → (execOp a.eval o).run P w = .ok (.enter f cvals.toArray) w) (hd : ∀ c, o.op ≠ .defer c)
    (hK : ∀ (G' : Ghost) (cv : Value) (w' : World), G.le G' → VRel G' v cv → HRel G' M fr w' → Below w.heap.size w w' → K (a.put o.dst cv) w') : o.wpIn (FW r) n P a w K Q := by
  unfold callV at he
  simp only [Option.bind_eq_some_iff] at he
  obtain ⟨as, h1, v', h2, h3⟩ := he
  split at h3
  · rename_i hcond
    cases h3
    obtain ⟨hent, hok⟩ := hcs _ _ _ h2
    have fin : ∀ (G0 : Ghost), G0.ok w → VRels G0 as cvals → (∀ (cv : Value) (w' : World), VRel (G0.more w.heap.size w') v cv → VRel (G.more w.heap.size w') v cv) → o.wpIn (FW r) n P a w K Q := by
      intro G0 hG0 hargs hres
      refine wpIn_run hd (hrun hent) ⟨fun h => by simp [FW, Fence.wide] at h, callsIn_FW ((hok G0 w cvals hG0 hargs).mono ?_)⟩
      rintro e w' ⟨cv, rfl, hb, hr⟩
      exact hK (G.more w.heap.size w') cv w' (Ghost.le_more hH.ro) (hres cv w' hr) (hH.more hb) hb
    rcases hcond with hs | hf
    · exact fin G hH.ro (purs_same hs h1 hv) fun _ _ h => h
    · refine fin (G.all w) (fun r o h => h) (purs_sound (Ghost.le_all hH.ro) (fun _ _ _ _ _ _ h => h) hH hlk h1 hv) fun cv w' h => flat_any hf h
  · cases h3

end
end Eng

namespace Eng
open Go Go.RowKit
set_option linter.unusedSimpArgs false
set_option linter.unusedVariables false

section
variable {P : Program} {G : Ghost} {M : HEnt → Prop} {fr : Nat → Prop} {w : World} {a : Act} {o : Oper} {v : AV} {vals : List AV} {r : Option Nat} {n : Nat}
  {K : Act → World → Prop} {Q : Exit → Act → World → Prop} {lk : Look}

/-- rows laid one after the other -/
theorem fill_rows {ρ : Operand → Value} (s : Nat) : ∀ {parts : List (Nat × Operand)} {k : Nat} {vals : List AV} {cells : Array Value} {pre rest : List Value},
    inOrder parts k = true → VRels G vals (parts.map fun p => ρ p.2) → (vals.all (fun v => decide (v.cells.length = s) && v.cells.all AV.sc)) = true → cells.toList = pre ++ rest → pre.length = k * s → rest.length = parts.length * s →
    ∃ cells' seg, Instr.fill (fun i => some (i * s, s)) cells (parts.map fun p => (p.1, ρ p.2)) = some cells' ∧ cells'.toList = pre ++ seg ∧ VRels G (flat vals) seg ∧ ∀ c ∈ seg, c.oneCell' = true
  | [], k, vals, cells, pre, rest, _, hv, _, hc, hp, hr => by
    simp only [List.map_nil] at hv
    have hr0 : rest = [] := by simpa using hr
    subst hr0
    cases vals with
    | nil => exact ⟨cells, [], rfl, by simpa using hc, by simp [flat, VRels], by simp⟩
    | cons v vs => simp [VRels] at hv
  | (i, x) :: parts, k, vals, cells, pre, rest, hi, hv, hall, hc, hp, hr => by
    simp only [inOrder, Bool.and_eq_true, decide_eq_true_eq] at hi
    obtain ⟨rfl, hi⟩ := hi
    cases vals with
    | nil => simp [VRels] at hv
    | cons v vs =>
      simp only [List.map_cons, VRels] at hv
      obtain ⟨c, cs, he, h1, h2⟩ := hv
      simp only [List.cons.injEq] at he
      obtain ⟨rfl, rfl⟩ := he
      simp only [List.all_cons, Bool.and_eq_true, decide_eq_true_eq] at hall
      obtain ⟨⟨hvl, hvs⟩, hall⟩ := hall
      have hag : v.sc = true ∨ ∃ cs, v = .agg cs := by
        cases v <;> first | exact .inr ⟨_, rfl⟩ | exact .inl rfl | (simp [AV.cells, AV.sc] at hvs)
      obtain ⟨hcr, hc1⟩ := h1.cells hag
      have hcl := hcr.length
      simp only [Array.length_toList] at hcl
      simp only [List.length_cons, Nat.add_mul, Nat.one_mul] at hr
      have hsz : cells.size = i * s + rest.length := by
        have := congrArg List.length hc
        simp only [Array.length_toList, List.length_append] at this
        omega
      have hfold := foldl_put (ρ x).cells.toList 0 (i * s) cells (by simp; omega)
      simp only [Nat.add_zero] at hfold
      have hnew : (((ρ x).cells.toList.zipIdx 0).foldl (fun cs (p : Value × Nat) => cs.setIfInBounds (i * s + p.2) p.1) cells).toList = (pre ++ (ρ x).cells.toList) ++ rest.drop s := by
        rw [hfold, hc]
        rw [← hp, List.take_left' rfl, List.drop_append, List.drop_eq_nil_of_le (by omega), List.nil_append, Nat.add_sub_cancel_left]
        rw [Array.length_toList, hcl, hvl, List.append_assoc]
      obtain ⟨cells', seg, e1, e2, e3, e4⟩ := fill_rows s hi h2 hall hnew (by simp only [List.length_append, Array.length_toList]; rw [hp, hcl, hvl, Nat.add_mul, Nat.one_mul]) (by simp; omega)
      refine ⟨cells', (ρ x).cells.toList ++ seg, ?_, by rw [e2, List.append_assoc], by simp only [flat]; exact hcr.append e3, fun c hc => ?_⟩
      · simp only [List.map_cons, Instr.fill]
        rw [if_neg (by simp; omega)]
        have hz : (ρ x).cells.zipIdx.foldl (fun cs x => match x with | (c, j) => cs.setIfInBounds (i * s + j) c) cells = (((ρ x).cells.toList.zipIdx 0).foldl (fun cs (p : Value × Nat) => cs.setIfInBounds (i * s + p.2) p.1) cells) := by
          rw [← Array.foldl_toList]
          simp
        rw [← hz] at e1
        exact e1
      · rcases List.mem_append.1 hc with hc | hc
        · exact hc1 c hc
        · exact e4 c hc

theorem run_bsl {t e : TypeId} {len : Nat} {parts : Array (Nat × Operand)} {i : TypeInfo} {z : Value} {ρ : Operand → Value} (ht : P.underlying t = some (.slice e)) (hi : P.info? e = some i) (hz : i.zero = some z) (hzs : z.cells.size = i.size)
    (hlen : parts.size = len) (hin : inOrder parts.toList 0 = true) (hb : len * i.size ≤ 16777216) (hs : i.size ≠ 0)
    (hv : VRels G vals (parts.toList.map fun p => ρ p.2)) (hall : (vals.all (fun v => decide (v.cells.length = i.size) && v.cells.all AV.sc)) = true) (w : World) :
    ∃ cells : Array Value, (Instr.buildSlice t len (parts.map fun (i, x) => (i, ρ x))).run P w = .ok (.slice (some ⟨w.heap.size, 0, none⟩) len len) { w with heap := w.heap.push (.cells cells e (0, 0)) } ∧
      VRels G (flat vals) cells.toList ∧ (∀ c ∈ cells.toList, c.oneCell' = true) ∧ cells.size = len * i.size := by
  have hsz : ∀ w, (Go.sizeOf e).run P w = .ok i.size w := fun w => by simp [Go.sizeOf, typeInfo, hi]
  have hzero : ∀ w, (zeroValue e).run P w = .ok z w := fun w => by simp [zeroValue, typeInfo, hi, hz]
  have hpm : (parts.map fun (x : Nat × Operand) => match x with | (i, x) => (i, ρ x)).toList = parts.toList.map fun p => (p.1, ρ p.2) := by simp
  obtain ⟨cells', seg, e1, e2, e3, e4⟩ := fill_rows (G := G) (ρ := ρ) i.size (parts := parts.toList) (k := 0) (cells := (Array.range (len * i.size)).map (fun j => (if len * i.size = 0 then #[] else z.cells)[j % (if len * i.size = 0 then #[] else z.cells).size]!)) (pre := []) (rest := ((Array.range (len * i.size)).map (fun j => (if len * i.size = 0 then #[] else z.cells)[j % (if len * i.size = 0 then #[] else z.cells).size]!)).toList)
    hin hv hall (by simp) (by simp) (by simp [hlen])
  simp only [List.nil_append] at e2
  refine ⟨cells', ?_, e2 ▸ e3, e2 ▸ e4, ?_⟩
  · unfold Instr.buildSlice
    simp only [Sem.run_bind, run_underlying ht, Result.andThen_ok, hsz, Sem.run_ite]
    rw [if_neg (by simp; omega)]
    by_cases h0 : len * i.size = 0
    · simp only [h0, if_true] at e1
      simp only [h0, if_true, Sem.run_pure, Result.andThen_ok, hpm, e1, newRow, Sem.run_bind, run_newObj]
    · simp only [h0, if_false] at e1
      simp only [h0, if_false, Sem.run_bind, hzero, Sem.run_pure, Result.andThen_ok, hpm, e1, newRow, run_newObj]
  · have hl := e3.length
    rw [← Array.length_toList, e2, hl]
    have : ∀ v ∈ vals, v.cells.length = i.size := fun v hv => by
      have := List.all_eq_true.1 hall v hv
      simp only [Bool.and_eq_true, decide_eq_true_eq] at this
      exact this.1
    rw [flat_length this]
    have := hv.length
    simp at this
    rw [← this, hlen]

theorem below_push (o : Obj) : Below w.heap.size w { w with heap := w.heap.push o } :=
  ⟨rfl, rfl, rfl, by simp, fun k hk => by show (w.heap.push o)[k]? = _; rw [Array.getElem?_push, if_neg (Nat.ne_of_lt hk)]⟩

end
end Eng
