/-
  THE ENGINE, PART K: contracts; loading, calling, building a slice that is not written any more: sound.
-/
import Derived.Test.YtjfhhaaogcgkpaaEngG
import Derived.OrdersIn
namespace Eng
open Go Go.RowKit
set_option linter.unusedSimpArgs false
set_option linter.unusedVariables false

/-- a fence that lets everything in -/
def FW (r : Option Nat) : Fence := { Fence.wide with round := r }

theorem fenced_FW (P : Program) (r : Option Nat) (m : Machine) : m.fenced P (FW r) := by
  intro g _
  refine ⟨fun h => ?_, Or.inl trivial, fun _ _ => trivial, fun _ h => ?_⟩
  · simp [FW, Fence.wide] at h
  · simp [FW, Fence.wide] at h

theorem room_FW (r : Option Nat) (n : Nat) : (FW r).room n := fun _ h => by simp [FW, Fence.wide] at h

theorem callsIn_FW {r : Option Nat} {n : Nat} {P : Program} {f : FuncId} {args : Array Value} {w : World} {R : Ending → World → Prop} (h : Calls P f args w R) : CallsIn (FW r) n P f args w R :=
  ⟨trivial, fun cs _ => by
    obtain ⟨e, w', fr, hr, s, x⟩ := h cs
    refine ⟨e, w', fr, hr, ?_, x⟩
    cases e with
    | returned v => exact (StepsIn.of_steps s).mono fun m _ => fenced_FW P r m
    | panicked c => exact (StepsIn.of_steps s).mono fun m _ => fenced_FW P r m
    | outgrown => exact s⟩

theorem calls_FW {r : Option Nat} {n : Nat} {P : Program} {f : FuncId} {args : Array Value} {w : World} {R : Ending → World → Prop} (h : CallsIn (FW r) n P f args w R) : Calls P f args w R :=
  h.calls fun k => room_FW r k

/-- what was read-only stays so; all new blocks are read-only from now on -/
def Ghost.more (G : Ghost) (B : Nat) (w : World) : Ghost := { G with ro := fun r => if r < B then G.ro r else w.heap[r]? }
def Ghost.all (G : Ghost) (w : World) : Ghost := { G with ro := fun r => w.heap[r]? }

def Ghost.ok (G : Ghost) (w : World) : Prop := ∀ r o, G.ro r = some o → w.heap[r]? = some o

theorem Ghost.ok.lt {G : Ghost} {w : World} (h : G.ok w) {r : Nat} {o : Obj} (hr : G.ro r = some o) : r < w.heap.size := (Array.getElem?_eq_some_iff.1 (h r o hr)).1

theorem Ghost.le_more {G : Ghost} {w w' : World} (h : G.ok w) : G.le (G.more w.heap.size w') :=
  ⟨⟨fun _ _ h => h, fun r o hr => by simp only [Ghost.more, h.lt hr, if_true]; exact hr⟩, rfl⟩

theorem Ghost.le_all {G : Ghost} {w : World} (h : G.ok w) : G.le (G.all w) := ⟨⟨fun _ _ h => h, fun r o hr => h r o hr⟩, rfl⟩

theorem HRel.more {G : Ghost} {M : HEnt → Prop} {fr : Nat → Prop} {w w' : World} (h : HRel G M fr w) (hb : Below w.heap.size w w') : HRel (G.more w.heap.size w') M fr w' := by
  have hle : G.le (G.more w.heap.size w') := Ghost.le_more h.ro
  refine ⟨fun r o hr => ?_, fun e he => ?_, h.sep, h.fresh, h.uniq, h.own, fun r hr => Nat.lt_of_lt_of_le (h.sz r hr) hb.size, fun r hr => ?_⟩
  · simp only [Ghost.more] at hr
    split at hr
    · rename_i hlt; rw [hb.block r hlt]; exact h.ro r o hr
    · exact hr
  · obtain ⟨l, h1, h2, h3, h4⟩ := h.ent e he
    refine ⟨l, h1, (h2.mono hle).world (hb.block _ h2.lt), ?_, h4⟩
    simp only [Ghost.more, h2.lt, if_true]; exact h3
  · have hlt : r < w.heap.size := h.sz r hr
    simp only [Ghost.more, hlt, if_true]
    exact ⟨(h.lo r hr).1, (hb.block r hlt).trans (h.lo r hr).2⟩

/-- THE CONTRACT OF A FUNCTION AT SOME VALUES: it returns v, and has turned nothing that was. -/
def FOk (P : Program) (f : FuncId) (args : List AV) (v : AV) : Prop :=
  (∀ (cargs : Array Value) (w : World), (callFunc f cargs).run P w = .ok (.enter f cargs) w) ∧
  ∀ (G : Ghost) (w : World) (cargs : List Value), G.ok w → VRels G args cargs →
    Calls P f cargs.toArray w fun e w' => ∃ cv, e = .returned cv ∧ Below w.heap.size w w' ∧ VRel (G.more w.heap.size w') v cv

def Good (P : Program) (cs : Ctx) : Prop := ∀ f args v, cs f args = some v → FOk P f args v

theorem leaf_any {G G' : Ghost} {v : AV} {c : Value} (h : v.leaf = true) (hr : VRel G v c) : VRel G' v c := by
  cases v <;> simp only [AV.leaf, Bool.false_eq_true] at h <;> simpa only [VRel] using hr

theorem leaves_any {G G' : Ghost} : ∀ {vs : List AV} {cs : List Value}, vs.all AV.leaf = true → VRels G vs cs → VRels G' vs cs
  | [], cs, _, hr => by simpa only [VRels] using hr
  | v :: vs, cs, h, hr => by
    simp only [List.all_cons, Bool.and_eq_true] at h
    simp only [VRels] at hr ⊢
    obtain ⟨c, cs', e, h1, h2⟩ := hr
    exact ⟨c, cs', e, leaf_any h.1 h1, leaves_any h.2 h2⟩

theorem tups_any {G G' : Ghost} : ∀ {vs : List AV} {cs : List Value}, (vs.all fun u => match u with | .agg cs => cs.all AV.leaf | u => u.leaf) = true → VRels G vs cs → VRels G' vs cs
  | [], cs, _, hr => by simpa only [VRels] using hr
  | v :: vs, cs, h, hr => by
    simp only [List.all_cons, Bool.and_eq_true] at h
    simp only [VRels] at hr ⊢
    obtain ⟨c, cs', e, h1, h2⟩ := hr
    refine ⟨c, cs', e, ?_, tups_any h.2 h2⟩
    cases v <;> try exact leaf_any h.1 h1
    simp only [VRel] at h1 ⊢
    obtain ⟨ccs, h3, h4⟩ := h1
    exact ⟨ccs, leaves_any h.1 h3, h4⟩

theorem flat_any {G G' : Ghost} {v : AV} {c : Value} (h : v.flatV = true) (hr : VRel G v c) : VRel G' v c := by
  cases v <;> try exact leaf_any h hr
  · simp only [VRel] at hr ⊢
    obtain ⟨ccs, h1, h2⟩ := hr
    exact ⟨ccs, leaves_any h h1, h2⟩
  · simp only [VRel] at hr ⊢
    obtain ⟨ccs, h1, h2⟩ := hr
    exact ⟨ccs, tups_any h h1, h2⟩

/-- the rows of a block, as they lie -/
theorem rows_of {G : Ghost} {b esz : Nat} {cur : Array Value} {e : TypeId} {fr : Nat × Nat} (hro : G.ro b = some (.cells cur e fr)) :
    ∀ {vals : List AV} {pre seg suf : List Value}, (∀ v ∈ vals, v.cells.length = esz) → cur.toList = pre ++ (seg ++ suf) → VRels G (flat vals) seg → (∀ c ∈ seg, c.oneCell' = true) → VRows G vals b pre.length esz
  | [], _, _, _, _, _, _, _ => by simp only [VRows]
  | v :: vs, pre, seg, suf, hl, hc, hr, h1 => by
    have hv := hl v (by simp)
    simp only [flat] at hr
    have hlen := hr.length
    simp only [List.length_append] at hlen
    have r1 := hr.take v.cells.length
    rw [List.take_left' rfl] at r1
    have r2 := hr.drop v.cells.length
    rw [List.drop_left' rfl] at r2
    have e1 : seg = seg.take esz ++ seg.drop esz := (List.take_append_drop _ _).symm
    have hl1 : (seg.take esz).length = esz := by rw [hv] at r1; have := r1.length; omega
    rw [hv] at r1 r2
    have rest := rows_of hro (vals := vs) (pre := pre ++ seg.take esz) (seg := seg.drop esz) (suf := suf) (fun u hu => hl u (by simp [hu])) (by rw [hc, List.append_assoc, ← List.append_assoc (seg.take esz), List.take_append_drop]) r2
      (fun c hc => h1 c (List.mem_of_mem_drop hc))
    simp only [VRows]
    rw [List.length_append, hl1] at rest
    refine ⟨?_, rest⟩
    have hone : ∀ c ∈ seg.take esz, c.oneCell' = true := fun c hc => h1 c (List.mem_of_mem_take hc)
    have hcells : RoCells G b pre.length (seg.take esz) := by
      refine ⟨cur, e, fr, hro, fun k c hk => ?_⟩
      have hk' : k < (seg.take esz).length := (List.getElem?_eq_some_iff.1 hk).1
      rw [← Array.getElem?_toList, hc, List.getElem?_append_right (by omega), Nat.add_sub_cancel_left, List.getElem?_append_left (by simp at hk'; omega)]
      rw [List.getElem?_take] at hk
      split at hk
      · exact hk
      · cases hk
    by_cases hag : ∃ cs, v = .agg cs
    · obtain ⟨cs, rfl⟩ := hag
      simp only [AV.cells] at r1 hv
      refine ⟨.agg (seg.take esz).toArray, ?_, by simp [AV.cells, hv], by simp only [Value.cells, List.size_toArray]; exact hl1, by simpa [Value.cells] using hone, by simpa [Value.cells] using hcells⟩
      simp only [VRel]
      exact ⟨_, r1, hone, rfl⟩
    · have hcv : v.cells = [v] := by cases v <;> first | rfl | exact (hag ⟨_, rfl⟩).elim
      rw [hcv] at r1 hv
      simp only [List.length_singleton] at hv
      obtain ⟨c, hc1, hc2⟩ := vrels1 r1
      rw [hc1] at hone hcells
      have hcc : c.cells = #[c] := by
        have := hone c (by simp)
        cases c <;> first | rfl | simp [Value.oneCell'] at this
      refine ⟨c, hc2, by simp [hcv, hv], by simp [hcc, hv], by simpa [hcc] using hone, by simpa [hcc] using hcells⟩

/-- the other way: rows read as cells -/
theorem VRel.cells' {G : Ghost} {v : AV} {c : Value} (h : VRel G v c) (h1 : ∀ x ∈ c.cells.toList, x.oneCell' = true) (hl : c.cells.size = v.cells.length) : VRels G v.cells c.cells.toList := by
  cases v
  case any =>
    obtain ⟨x, hx⟩ := List.length_eq_one_iff.1 (by simpa [AV.cells] using hl : c.cells.toList.length = 1)
    rw [hx]
    simp only [AV.cells, VRels]
    exact ⟨x, [], rfl, by simp only [VRel], rfl⟩
  case tup us =>
    simp only [VRel] at h
    obtain ⟨ccs, _, rfl⟩ := h
    have := h1 (.tuple ccs.toArray) (by simp [Value.cells])
    simp [Value.oneCell'] at this
  case agg cs => exact (h.cells (.inr ⟨cs, rfl⟩)).1
  all_goals exact (h.cells (.inl rfl)).1

end Eng
