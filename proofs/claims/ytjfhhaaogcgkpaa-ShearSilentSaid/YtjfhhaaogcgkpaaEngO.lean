/-
  THE ENGINE, PART O: operations that change memory are sound.
-/
import Derived.Test.YtjfhhaaogcgkpaaEngN
namespace Eng
open Go Go.RowKit
set_option linter.unusedSimpArgs false
set_option linter.unusedVariables false

structure Keeps (w w' : World) : Prop where
  os : w'.os = w.os
  tape : w'.tape = w.tape
  output : w'.output = w.output
  size : w.heap.size ≤ w'.heap.size

theorem Keeps.rfl {w : World} : Keeps w w := ⟨Eq.refl _, Eq.refl _, Eq.refl _, Nat.le_refl _⟩
theorem Keeps.trans {a b c : World} (h : Keeps a b) (k : Keeps b c) : Keeps a c := ⟨k.os.trans h.os, k.tape.trans h.tape, k.output.trans h.output, Nat.le_trans h.size k.size⟩
theorem Keeps.of_below {B : Nat} {w w' : World} (h : Below B w w') : Keeps w w' := ⟨h.os, h.tape, h.output, h.size⟩

section
variable {P : Program} {G : Ghost} {M : HEnt → Prop} {fr : Nat → Prop} {w : World} {a : Act} {o : Oper} {v : AV} {vals : List AV} {r : Option Nat} {n : Nat}
  {K : Act → World → Prop} {Q : Exit → Act → World → Prop} {lk : Look}

/-- laying one block -/
theorem lay {id : Nat} (hid : fr id) (hH : HRel G M fr w) {e esz : Nat} {rows : List AV} {cells : Array Value} {cv : Value} {v : AV} (hd : ∀ c, o.op ≠ .defer c)
    (hrun : (execOp a.eval o).run P w = .ok (.value cv) { w with heap := w.heap.push (.cells cells e (0, 0)) })
    (hl : ∀ v ∈ rows, v.cells.length = esz) (hr : VRels G (flat rows) cells.toList) (h1 : ∀ c ∈ cells.toList, c.oneCell' = true)
    (hv : ∀ G' : Ghost, G'.ι id = some ⟨w.heap.size, esz, cells.size⟩ → VRel G' v cv)
    (hK : ∀ (G' : Ghost) (cv : Value) (w' : World), G.le G' → VRel G' v cv → HRel G' (effM (.new ⟨id, id, .rows e esz rows⟩) M) (frE (.new ⟨id, id, .rows e esz rows⟩) fr) w' → Keeps w w' → K (a.put o.dst cv) w') :
    o.wpIn (FW r) n P a w K Q := by
  refine wpIn_run hd hrun (hK _ _ _ (Ghost.le_put (hH.fresh id hid)) ?_ (hH.alloc id hid e esz rows cells cells.toList [] hl (by simp) hr h1) (.of_below (below_push _)))
  exact hv _ (by simp [Ghost.put])

theorem all_cells {esz : Nat} (h : (vals.all (fun v => decide (v.cells.length = esz) && v.cells.all AV.sc)) = true) : ∀ v ∈ vals, v.cells.length = esz := fun v hv => by
  have := List.all_eq_true.1 h v hv
  simp only [Bool.and_eq_true, decide_eq_true_eq] at this
  exact this.1

theorem srcV_sound {esz : Nat} (hH : HRel G M fr w) (hlk : ∀ t e, lk t = some e → M e ∧ e.id = t) {x : AV} {xs : List AV} {c : Value} (h : srcV lk esz x = some xs) (hv : VRel G x c) :
    (∀ u ∈ xs, u.cells.length = esz) ∧ ((c = .slice none 0 0 ∧ xs = []) ∨ ∃ (b off cap : Nat) (seg : List Value), c = .slice (some ⟨b, off, none⟩) xs.length cap ∧ VRels G (flat xs) seg ∧ (∀ c ∈ seg, c.oneCell' = true) ∧
      ∀ (k : Nat) (c : Value), seg[k]? = some c → w.cell? ⟨b, off + k, none⟩ = some c) := by
  cases x <;> simp only [srcV] at h <;> try (cases h; done)
  · cases h
    simp only [VRel] at hv
    exact ⟨by simp, .inl ⟨hv, rfl⟩⟩
  · rename_i t esz' i k
    split at h
    · rename_i t0 g e0 esz'' vals' hlk'
      obtain ⟨hM, hid⟩ := hlk _ _ hlk'
      split at h
      · rename_i hc
        obtain ⟨hc1, hc2, hik⟩ := hc
        subst hc1; subst hc2
        cases h
        obtain ⟨l, h2, ⟨h3, h4, cur, h5, h6, pre, suf, h7, h8, h9⟩, h10, _⟩ := hH.ent _ hM
        simp only at hid h2
        subst hid
        simp only [VRel] at hv
        obtain ⟨l', cap, h11, h12, h13, h14, h15, h16⟩ := hv
        rw [h2] at h11; cases h11
        have hu : ∀ v ∈ (vals'.drop i).take k, v.cells.length = esz'' := fun v hv => h4 v (List.mem_of_mem_drop (List.mem_of_mem_take hv))
        have hlen : ((vals'.drop i).take k).length = k := by simp; omega
        have hmid : VRels G (flat ((vals'.drop i).take k)) ((pre.drop (i * esz'')).take (k * esz'')) := by
          have hsplit : flat vals' = flat (vals'.take i) ++ (flat ((vals'.drop i).take k) ++ flat ((vals'.drop i).drop k)) := by
            rw [← flat_append, List.take_append_drop, ← flat_append, List.take_append_drop]
          have l1 : (flat (vals'.take i)).length = i * esz'' := flat_take_length h4 (by omega)
          have l2 : (flat ((vals'.drop i).take k)).length = k * esz'' := by rw [flat_length hu, hlen]
          have := (h8.drop (i * esz'')).take (k * esz'')
          rw [hsplit, ← l1, List.drop_left' rfl, ← l2, List.take_left' rfl, l1, l2] at this
          exact this
        have hpl := h8.length
        have hfl := flat_length h4
        have hmul : i * esz'' + k * esz'' ≤ vals'.length * esz'' := by rw [← Nat.add_mul]; exact Nat.mul_le_mul_right _ hik
        refine ⟨hu, .inr ⟨_, _, cap, _, by rw [hlen]; exact h13, hmid, fun c hc => h9 c (List.mem_of_mem_drop (List.mem_of_mem_take hc)), fun j c hj => ?_⟩⟩
        rw [List.getElem?_take] at hj
        split at hj
        · rename_i hjn
          rw [List.getElem?_drop] at hj
          rw [cell_of_row w _ _ cur _ _ h5, ← Array.getElem?_toList, h7, List.getElem?_append_left (by omega)]
          exact hj
        · cases hj
      · cases h
    · cases h
  · rename_i us
    split at h
    · rename_i hall
      cases h
      have hu : ∀ v ∈ xs, v.cells.length = esz := fun v hv => by
        have := List.all_eq_true.1 hall v hv
        simpa using this
      simp only [VRel] at hv
      rcases hv with ⟨rfl, hv⟩ | ⟨b, off, esz', cap, h1, h2, h3⟩
      · exact ⟨hu, .inl ⟨hv, rfl⟩⟩
      · refine ⟨hu, .inr ⟨b, off, cap, ?_⟩⟩
        -- the cells of the rows, one after the other
        have rows : ∀ (us : List AV) (off : Nat), (∀ v ∈ us, v.cells.length = esz) → VRows G us b off esz' → ∃ seg, VRels G (flat us) seg ∧ (∀ c ∈ seg, c.oneCell' = true) ∧ ∀ (k : Nat) (c : Value), seg[k]? = some c → w.cell? ⟨b, off + k, none⟩ = some c := by
          intro us
          induction us with
          | nil => intro off _ _; exact ⟨[], by simp [flat, VRels], by simp, by simp⟩
          | cons u us ih =>
            intro off hu hr
            simp only [VRows] at hr
            obtain ⟨⟨cv, h4, h5, h6, h7, cur, e, fr', h8, h9⟩, hrest⟩ := hr
            obtain ⟨seg, h10, h11, h12⟩ := ih _ (fun v hv => hu v (by simp [hv])) hrest
            have hcr := h4.cells' h7 (by rw [h6, h5])
            have hcl := hcr.length
            refine ⟨cv.cells.toList ++ seg, by simp only [flat]; exact hcr.append h10, fun c hc => ?_, fun k c hk => ?_⟩
            · rcases List.mem_append.1 hc with hc | hc
              · exact h7 c hc
              · exact h11 c hc
            · rw [List.getElem?_append] at hk
              split at hk
              · rw [cell_of_row w _ _ cur _ _ (hH.ro _ _ h8)]
                exact h9 k c hk
              · rename_i hge
                have := h12 _ c hk
                have e1 : off + esz' + (k - cv.cells.toList.length) = off + k := by omega
                rwa [e1] at this
        obtain ⟨seg, h4, h5, h6⟩ := rows xs off hu h1
        exact ⟨seg, h2, h4, h5, h6⟩
    · cases h

theorem cells_uniform {esz : Nat} (hs : 0 < esz) {xs : List AV} {seg : List Value} (hu : ∀ u ∈ xs, u.cells.length = esz) (hr : VRels G (flat xs) seg) : seg.length = xs.length * esz := by
  rw [hr.length, flat_length hu]

theorem store_sound {t : TypeId} {ag : Bool} {sz : Nat} {x y : Operand} (ht : tyAgg P t = some (ag, sz)) (hn : ag = false → sz = 1) (ho : o.op = .store t x y) (hH : HRel G M fr w) {u y' : AV} {f : Eff}
    (h1 : VRel G u (a.eval x)) (h2 : VRel G y' (a.eval y)) (hlk : ∀ t e, lk t = some e → M e ∧ e.id = t) (he : storeV lk sz ag u y' = some f)
    (hK : ∀ (G' : Ghost) (cv : Value) (w' : World), G.le G' → VRel G' (.tup []) cv → HRel G' (effM f M) (frE f fr) w' → Keeps w w' → K (a.put o.dst cv) w') :
    o.wpIn (FW r) n P a w K Q := by
  cases u <;> simp only [storeV] at he <;> try (cases he; done)
  rename_i t' esz i j
  split at he
  · rename_i t0 g e0 esz' vals' hlk'
    obtain ⟨hM, hid⟩ := hlk _ _ hlk'
    split at he
    · rename_i hesz
      subst hesz
      simp only [Option.map_eq_some_iff] at he
      obtain ⟨vals'', hw, rfl⟩ := he
      obtain ⟨l, h3, ⟨h4, h5, cur, h6, h7, pre, suf, h8, h9, h10⟩, h11, _⟩ := hH.ent _ hM
      simp only at hid h3
      subst hid
      simp only [VRel] at h1
      obtain ⟨l', h12, h13, h14⟩ := h1
      rw [h3] at h12; cases h12
      obtain ⟨e1, e2, e3, e4, e5, e6, e7⟩ := wr_flat h5 hw hn
      obtain ⟨hcr, hc1⟩ := h2.cells e6
      have hcl := hcr.length
      have hpl := h9.length
      simp only [Array.length_toList] at hcl
      have hsize : cur.toList.length = cur.size := by simp
      rw [h8, List.length_append] at hsize
      have hst := run_storeCells_at P l.b (i * esz + j) e0 (a.eval y).cells.toList 0 cur w h6 (by simp only [Array.length_toList]; omega) hc1
      simp only [Nat.add_zero] at hst
      have hrun : (execOp a.eval o).run P w = .ok .skip (w.setRow l.b (cur.toList.take (i * esz + j) ++ (a.eval y).cells.toList ++ cur.toList.drop (i * esz + j + (a.eval y).cells.toList.length)).toArray) := by
        simp only [execOp, ho, h14, Instr.storeAt, Instr.sureAddr, storeVar, Sem.run_bind, Sem.run_pure, Result.andThen_ok, run_sizeOf' ht, Sem.run_ite]
        rw [if_neg (by simp; omega)]
        simp only [Sem.run_pure, Result.andThen_ok, hst]
      have hnew := setRow_heap w l.b cur (cur.toList.take (i * esz + j) ++ (a.eval y).cells.toList ++ cur.toList.drop (i * esz + j + (a.eval y).cells.toList.length)).toArray e0 (0, 0) h6
      refine wpIn_run (by rw [ho]; simp) hrun (hK G undef _ .rfl (by simp only [VRel, VRels]; exact ⟨[], rfl, rfl⟩) ?_ ⟨rfl, rfl, rfl, by simp [World.setRow]⟩)
      refine HRel.setB hH hM h3 (fun r hr => setRow_other w l.b r _ hr) (by simp [World.setRow]) ⟨h4, e2, _, hnew, ?_, pre.take (i * esz + j) ++ ((a.eval y).cells.toList ++ pre.drop (i * esz + j + sz)), suf, ?_, ?_, ?_⟩
      · simp only [List.size_toArray, List.length_append, List.length_take, List.length_drop, Array.length_toList]
        rw [← h7]
        omega
      · rw [h8]
        simp only [Array.length_toList, hcl, e5]
        rw [List.take_append_of_le_length (by omega), List.drop_append_of_le_length (by omega)]
        simp [List.append_assoc]
      · rw [e1]
        exact (h9.take _).append (hcr.append (h9.drop _))
      · intro c hc
        rcases List.mem_append.1 hc with hc | hc
        · exact h10 c (List.mem_of_mem_take hc)
        · rcases List.mem_append.1 hc with hc | hc
          · exact hc1 c hc
          · exact h10 c (List.mem_of_mem_drop hc)
    · cases he
  · cases he

end
end Eng
