/-
  THE ENGINE, PART P: append; all operations that change memory.
-/
import Derived.Test.YtjfhhaaogcgkpaaEngO
namespace Eng
open Go Go.RowKit
set_option linter.unusedSimpArgs false
set_option linter.unusedVariables false

section
variable {P : Program} {G : Ghost} {M : HEnt → Prop} {fr : Nat → Prop} {w : World} {a : Act} {o : Oper} {v : AV} {vals : List AV} {r : Option Nat} {n : Nat}
  {K : Act → World → Prop} {Q : Exit → Act → World → Prop} {lk : Look}

theorem put_self (G : Ghost) (id : Nat) (l : Loc) : (G.put id l).ι id = some l := by simp [Ghost.put]

theorem run_app_none {t ty e : TypeId} {i : TypeInfo} (ht : P.underlying t = some (.slice e)) (hi : P.info? e = some i) (base : Option Addr) (n cap : Nat) (hle : n ≤ cap) (w : World) :
    (Builtin.append_ #[t, t] ty #[.slice base n cap, .slice none 0 0]).run P w = .ok (.slice base n cap) w := by
  have hs : ∀ w, (Go.sizeOf e).run P w = .ok i.size w := fun w => by simp [Go.sizeOf, typeInfo, hi]
  cases base <;> simp [Builtin.append_, run_underlying ht, hs, Builtin.lenOf, hle, Builtin.firstCells, storeCells]

theorem drew_keeps (w : World) : Below w.heap.size w w.drew := (Below.refl _ _).drew

theorem run_appOp {s x : Operand} {t : TypeId} (ho : o.op = .call { callee := .builtin .append, args := #[s, x], argTypes := #[t, t] }) {cv : Value} {w' : World}
    (h : (Builtin.append_ #[t, t] o.type #[a.eval s, a.eval x]).run P w = .ok cv w') : (execOp a.eval o).run P w = .ok (.value cv) w' := by
  obtain ⟨c, hc⟩ := run_builtin (P := P) (ρ := a.eval) ho
  rw [hc]
  simp [builtin, h]

theorem app_sound {s x : Operand} {t e id : Nat} {i : TypeInfo} {z : Value} (ht : P.underlying t = some (.slice e)) (hi : P.info? e = some i) (hz : i.zero = some z) (hzs : z.cells.size = i.size) (hs : i.size ≠ 0)
    (ho : o.op = .call { callee := .builtin .append, args := #[s, x], argTypes := #[t, t] }) (hid : fr id) (hH : HRel G M fr w) {u y : AV} {f : Eff}
    (h1 : VRel G u (a.eval s)) (h2 : VRel G y (a.eval x)) (hlk : ∀ t e, lk t = some e → M e ∧ e.id = t) (he : appV lk id e i.size i.bytes u y = some (v, f))
    (hK : ∀ (G' : Ghost) (cv : Value) (w' : World), G.le G' → VRel G' v cv → HRel G' (effM f M) (frE f fr) w' → Keeps w w' → K (a.put o.dst cv) w') :
    o.wpIn (FW r) n P a w K Q := by
  have hd : ∀ c, o.op ≠ .defer c := by rw [ho]; simp
  have hpos : 0 < i.size := Nat.pos_of_ne_zero hs
  have haddr : ∀ (b off : Nat) (seg : List Value), (∀ (k : Nat) (c : Value), seg[k]? = some c → w.cell? ⟨b, off + k, none⟩ = some c) → ∀ (j : Nat) (v : Value), seg[j]? = some v → w.cell? ((⟨b, off, none⟩ : Addr).add j) = some v :=
    fun b off seg h j v hv => by rw [Addr.add_lit]; exact h j v hv
  cases u <;> simp only [appV] at he <;> try (cases he; done)
  · -- onto nil
    simp only [Option.bind_eq_some_iff] at he
    obtain ⟨xs, hsrc, he⟩ := he
    obtain ⟨hu, hsrc⟩ := srcV_sound hH hlk hsrc h2
    simp only [VRel] at h1
    split at he
    · rename_i h0
      cases he
      rcases hsrc with ⟨hx, _⟩ | ⟨b, off, cap, seg, hx, hr, hone, hc⟩
      · refine wpIn_run hd (run_appOp ho (by rw [h1, hx]; exact run_app_none ht hi none 0 0 (Nat.le_refl _) w)) (hK G _ _ .rfl (by simp only [VRel]) hH .rfl)
      · have hx0 : xs = [] := List.eq_nil_of_length_eq_zero h0
        subst hx0
        have hseg : seg = [] := by simp only [flat, VRels] at hr; exact hr
        subst hseg
        have hrun : (Builtin.append_ #[t, t] o.type #[.slice none 0 0, .slice (some ⟨b, off, none⟩) 0 cap]).run P w = .ok (.slice none 0 0) w := by
          have hsz : ∀ w, (Go.sizeOf e).run P w = .ok i.size w := fun w => by simp [Go.sizeOf, typeInfo, hi]
          simp [Builtin.append_, run_underlying ht, hsz, Builtin.lenOf, Builtin.firstCells, loadCells, loadCellsFrom]
        exact wpIn_run hd (run_appOp ho (by rw [h1, hx]; exact hrun)) (hK G _ _ .rfl (by simp only [VRel]) hH .rfl)
    · rename_i h0
      split at he
      · rename_i hb
        obtain ⟨hb1, hb2⟩ := hb
        cases he
        rcases hsrc with ⟨hx, rfl⟩ | ⟨b, off, cap, seg, hx, hr, hone, hc⟩
        · exact absurd rfl h0
        · have hl := cells_uniform hpos hu hr
          have hmx : xs.length ≤ 9223372036854775807 := by unfold maxLen at hb2; omega
          have hrun := run_append_nil (P := P) w t o.type e i z ht hi hz ⟨b, off, none⟩ xs.length cap seg hl (haddr b off seg hc) (by omega) (by omega) (by omega)
          have hge := grownCap_ge w xs.length 0 e
          have hcm := grownCap_le_maxLen w xs.length 0 e hb2
          have hH' := (hH.world (w' := w.drew) (fun _ _ => rfl) (Nat.le_refl _)).alloc id hid e i.size xs (seg.toArray ++ Builtin.zeroCells z.cells (grownCap w xs.length 0 e - xs.length)) seg (Builtin.zeroCells z.cells (grownCap w xs.length 0 e - xs.length)).toList hu (by simp) hr hone
          refine wpIn_run hd (run_appOp ho (by rw [h1, hx]; exact hrun)) (hK _ _ _ (Ghost.le_put (hH.fresh id hid)) ?_ hH' (.of_below ((drew_keeps w).trans (below_push (w := w.drew) _))))
          simp only [VRel]
          refine ⟨_, grownCap w xs.length 0 e, put_self _ _ _, rfl, by simp, hge, hcm, ?_⟩
          simp only [Array.size_append, List.size_toArray, size_zeroCells, hzs, hl, Nat.zero_add, ← Nat.add_mul]
          congr 1; omega
      · cases he
  · -- onto a block of the call's own
    rename_i t' esz' i0 k
    split at he
    · rename_i t0 g e' esz'' vals' hlk'
      obtain ⟨hM, hid0⟩ := hlk _ _ hlk'
      simp only [Option.bind_eq_some_iff] at he
      obtain ⟨xs, hsrc, he⟩ := he
      obtain ⟨hu, hsrc⟩ := srcV_sound hH hlk hsrc h2
      split at he
      · rename_i hc
        obtain ⟨c1, c2, c3, c4, c5, c6, c7⟩ := hc
        have c3' := c3.symm
        subst c1; subst c2; subst c3'; subst c4; subst c5
        cases he
        obtain ⟨l, h3, ⟨h4, h5, cur, h6, h7, pre, suf, h8, h9, h10⟩, h11, h12⟩ := hH.ent _ hM
        simp only at hid0 h3
        subst hid0
        simp only [VRel] at h1
        obtain ⟨l', cap, h13, h14, h15, h16, h17, h18⟩ := h1
        rw [h3] at h13; cases h13
        simp only [Nat.zero_mul, Nat.zero_add] at h15 h18
        have hpl : pre.length = vals'.length * i.size := cells_uniform hpos h5 h9
        -- in the same memory
        have same : ∀ (w' : World) (cap' : Nat) (cv : Value) (cur' : Array Value) (pre' suf' : List Value), (execOp a.eval o).run P w = .ok (.value cv) w' → cv = .slice (some ⟨l.b, 0, none⟩) (vals'.length + xs.length) cap → Keeps w w' →
            (∀ r, r ≠ l.b → w'.heap[r]? = w.heap[r]?) → w'.heap[l.b]? = some (.cells cur' e (0, 0)) → cur'.size = l.size → cur'.toList = pre ++ (pre' ++ suf') → VRels G (flat xs) pre' → (∀ c ∈ pre', c.oneCell' = true) → vals'.length + xs.length ≤ cap →
            o.wpIn (FW r) n P a w K Q := by
          intro w' cap' cv cur' pre' suf' hrun hcv hk hw hcur hsize hcells hr hone hroom
          subst hcv
          refine wpIn_run hd hrun (hK (G.put id l) _ _ (Ghost.le_put (hH.fresh id hid)) ?_ ?_ hk)
          · simp only [VRel]
            exact ⟨l, cap, put_self _ _ _, h4, by simp, hroom, h17, by simpa using h18⟩
          · refine hH.ext hM h3 hid (fun r _ hr => hw r hr) ⟨h4, h5, cur', hcur, hsize, pre, pre' ++ suf', hcells, h9, h10⟩ ⟨h4, ?_, cur', hcur, hsize, pre ++ pre', suf', by rw [hcells, List.append_assoc], ?_, ?_⟩ (.inl rfl) hk.size
            · intro v hv
              rcases List.mem_append.1 hv with hv | hv
              · exact h5 v hv
              · exact hu v hv
            · rw [flat_append]; exact h9.append hr
            · intro c hc
              rcases List.mem_append.1 hc with hc | hc
              · exact h10 c hc
              · exact hone c hc
        rcases hsrc with ⟨hx, rfl⟩ | ⟨b, off, capx, seg, hx, hr, hone, hcell⟩
        · exact same w cap _ cur [] suf (run_appOp ho (by rw [h15, hx]; exact run_app_none ht hi (some ⟨l.b, 0, none⟩) vals'.length cap h16 w)) (by simp) .rfl (fun _ _ => rfl) h6 h7 (by simpa using h8) (by simp [flat, VRels]) (by simp) (by simpa using h16)
        · have hl := cells_uniform hpos hu hr
          by_cases hroom : vals'.length + xs.length ≤ cap
          · have hfit : vals'.length * i.size + seg.length ≤ cur.size := by
              rw [hl, h7, ← h18, ← Nat.add_mul]; exact Nat.mul_le_mul_right _ hroom
            have hrun := run_append_room (P := P) w t o.type e i ht hi l.b vals'.length cap cur h6 ⟨b, off, none⟩ xs.length capx seg hl (haddr b off seg hcell) hone hroom hfit
            have hpre : cur.toList.take (vals'.length * i.size) = pre := by rw [h8, ← hpl, List.take_left' rfl]
            refine same (w.setRow l.b (cur.toList.take (vals'.length * i.size) ++ seg ++ cur.toList.drop (vals'.length * i.size + seg.length)).toArray) cap _ _ seg (cur.toList.drop (vals'.length * i.size + seg.length)) (run_appOp ho (by rw [h15, hx]; exact hrun)) rfl ⟨rfl, rfl, rfl, by simp [World.setRow]⟩ (fun r hr => setRow_other w l.b r _ hr)
              (setRow_heap w l.b cur _ e (0, 0) h6) ?_ ?_ hr hone hroom
            · simp only [List.size_toArray, List.length_append, List.length_take, List.length_drop, Array.length_toList]
              omega
            · rw [hpre, List.append_assoc]
          · have holds : ∀ (j : Nat) (u : Value), pre[j]? = some u → w.cell? ((⟨l.b, 0, none⟩ : Addr).add j) = some u := fun j u hj => by
              have hjl : j < pre.length := (List.getElem?_eq_some_iff.1 hj).1
              rw [Addr.add_lit, Nat.zero_add, cell_of_row w _ _ cur _ _ h6, ← Array.getElem?_toList, h8, List.getElem?_append_left hjl]
              exact hj
            have hmx : vals'.length + xs.length ≤ 9223372036854775807 := by unfold maxLen at c7; omega
            have hrun := run_append_grow (P := P) w t o.type e i z ht hi hz ⟨l.b, 0, none⟩ vals'.length cap pre hpl holds ⟨b, off, none⟩ xs.length capx seg hl (haddr b off seg hcell) (by omega) (by omega) (growslice_fits (by omega) c6)
            have hge := grownCap_ge w (vals'.length + xs.length) cap e
            have hcm := grownCap_le_maxLen w (vals'.length + xs.length) cap e c7
            have hsize : (pre.toArray ++ seg.toArray ++ Builtin.zeroCells z.cells (grownCap w (vals'.length + xs.length) cap e - (vals'.length + xs.length))).size = grownCap w (vals'.length + xs.length) cap e * i.size := by
              simp only [Array.size_append, List.size_toArray, size_zeroCells, hzs, hl, hpl, ← Nat.add_mul]
              congr 1; omega
            have hheap : ∀ r, r < w.heap.size → (w.drew.alloc (.cells (pre.toArray ++ seg.toArray ++ Builtin.zeroCells z.cells (grownCap w (vals'.length + xs.length) cap e - (vals'.length + xs.length))) e)).heap[r]? = w.heap[r]? := fun r hr =>
              heap_alloc_old w.drew _ r hr
            have hnewb := heap_alloc_new w.drew (.cells (pre.toArray ++ seg.toArray ++ Builtin.zeroCells z.cells (grownCap w (vals'.length + xs.length) cap e - (vals'.length + xs.length))) e)
            have hlt : l.b < w.heap.size := (Array.getElem?_eq_some_iff.1 h6).1
            refine wpIn_run hd (run_appOp ho (by rw [h15, hx]; exact hrun)) (hK (G.put id ⟨w.heap.size, i.size, grownCap w (vals'.length + xs.length) cap e * i.size⟩) _ _ (Ghost.le_put (hH.fresh id hid)) ?_ ?_ (.of_below ((drew_keeps w).trans (below_push (w := w.drew) _))))
            · simp only [VRel]
              exact ⟨_, grownCap w (vals'.length + xs.length) cap e, put_self _ _ _, rfl, by simp, hge, hcm, by simp⟩
            · refine hH.ext hM h3 hid (fun r hr _ => hheap r hr) ⟨h4, h5, cur, (hheap _ hlt).trans h6, h7, pre, suf, h8, h9, h10⟩
                ⟨rfl, ?_, _, hnewb, hsize, pre ++ seg, (Builtin.zeroCells z.cells (grownCap w (vals'.length + xs.length) cap e - (vals'.length + xs.length))).toList, by simp, ?_, ?_⟩ (.inr (Nat.le_refl _)) (Keeps.of_below ((drew_keeps w).trans (below_push (w := w.drew) _))).size
              · intro v hv
                rcases List.mem_append.1 hv with hv | hv
                · exact h5 v hv
                · exact hu v hv
              · rw [flat_append]; exact h9.append hr
              · intro c hc
                rcases List.mem_append.1 hc with hc | hc
                · exact h10 c hc
                · exact hone c hc
      · cases he
    · cases he

theorem eff_sound {aop : AOp} {op : Op} {xs : List Operand} {f : Eff} {id : Nat} (hid : fr id) (hc : CA P op aop xs) (ho : o.op = op) (hH : HRel G M fr w) (hv : VRels G vals (xs.map a.eval))
    (hlk : ∀ t e, lk t = some e → M e ∧ e.id = t) (he : effOp lk id aop vals = some (v, f))
    (hK : ∀ (G' : Ghost) (cv : Value) (w' : World), G.le G' → VRel G' v cv → HRel G' (effM f M) (frE f fr) w' → Keeps w w' → K (a.put o.dst cv) w') : o.wpIn (FW r) n P a w K Q := by
  cases hc with
  | p => simp [effOp] at he
  | load => simp [effOp] at he
  | call => simp [effOp] at he
  | callv => simp [effOp] at he
  | store ht hn =>
    obtain ⟨u, y, rfl, h1, h2⟩ := two hv
    simp only [effOp, Option.map_eq_some_iff, Prod.mk.injEq] at he
    obtain ⟨f', hf, rfl, rfl⟩ := he
    exact store_sound ht hn ho hH h1 h2 hlk hf hK
  | app ht hi hz hzs hs =>
    obtain ⟨u, y, rfl, h1, h2⟩ := two hv
    exact app_sound ht hi hz hzs hs ho hid hH h1 h2 hlk he hK
  | @alloc1 t i z zs esz k hi hz hzs hl =>
    have : vals = [] := by cases vals with | nil => rfl | cons _ _ => simp [VRels] at hv
    subst this
    simp only [effOp, Option.some.injEq, Prod.mk.injEq] at he
    obtain ⟨rfl, rfl⟩ := he
    obtain ⟨h1, h2, h3⟩ := absL_rel hzs G
    refine lay hid hH (cells := z.cells) (cv := .pointer (some ⟨w.heap.size, 0, none⟩)) (by rw [ho]; simp) ?_ ?_ ?_ h3 (fun G' hG' => ?_) hK
    · simp only [execOp, ho, Instr.alloc, Sem.run_bind, run_zero hi hz, Result.andThen_ok, newVar, newRow, run_newObj, Sem.run_pure]
    · split
      · rename_i hk
        subst hk
        intro v hv
        simp only [List.mem_singleton] at hv
        subst hv
        simp [AV.cells, hl]
      · exact rowsOf_cells hl h2
    · split
      · simpa [flat, AV.cells] using h1
      · rw [flat_rowsOf hl h2]; exact h1
    · simp only [VRel]
      exact ⟨_, hG', rfl, by simp⟩
  | @alloc2 t i z zv hi hz hzs =>
    have : vals = [] := by cases vals with | nil => rfl | cons _ _ => simp [VRels] at hv
    subst this
    simp only [effOp, Option.some.injEq, Prod.mk.injEq] at he
    obtain ⟨rfl, rfl⟩ := he
    obtain ⟨h1, h2⟩ := absS_rel hzs G
    obtain ⟨hcr, hone⟩ := h1.cells (.inl h2)
    have hcs := cells_of_sc h2
    refine lay hid hH (cells := z.cells) (cv := .pointer (some ⟨w.heap.size, 0, none⟩)) (by rw [ho]; simp) ?_ ?_ ?_ hone (fun G' hG' => ?_) hK
    · simp only [execOp, ho, Instr.alloc, Sem.run_bind, run_zero hi hz, Result.andThen_ok, newVar, newRow, run_newObj, Sem.run_pure]
    · intro v hv
      simp only [List.mem_singleton] at hv
      subst hv
      simp [hcs]
    · simpa [flat] using hcr
    · simp only [VRel]
      exact ⟨_, hG', rfl, by simp⟩
  | @box t x ag esz k =>
    obtain ⟨u, rfl, h1⟩ := one hv
    simp only [effOp] at he
    have hrun : (execOp a.eval o).run P w = .ok (.value (.pointer (some ⟨w.heap.size, 0, none⟩))) { w with heap := w.heap.push (.cells (a.eval x).cells t (0, 0)) } := by
      simp only [execOp, ho, Instr.box, Sem.run_bind, newVar, newRow, run_newObj, Sem.run_pure, Result.andThen_ok]
    split at he
    · split at he
      · rename_i hc
        obtain ⟨hag, hl, hsc⟩ := hc
        cases he
        obtain ⟨cs, rfl⟩ := AV.isAgg_iff hag
        obtain ⟨hcr, hone⟩ := h1.cells (.inr ⟨cs, rfl⟩)
        refine lay hid hH (cells := (a.eval x).cells) (by rw [ho]; simp) hrun ?_ ?_ hone (fun G' hG' => ?_) hK
        · split
          · rename_i hk
            subst hk
            intro v hv
            simp only [List.mem_singleton] at hv
            subst hv
            simp [hl]
          · exact rowsOf_cells hl hsc
        · split
          · simpa [flat] using hcr
          · rw [flat_rowsOf hl hsc]; exact hcr
        · simp only [VRel]
          exact ⟨_, hG', rfl, by simp⟩
      · cases he
    · split at he
      · rename_i hc
        obtain ⟨hsc, rfl, rfl⟩ := hc
        cases he
        obtain ⟨hcr, hone⟩ := h1.cells (.inl hsc)
        have hcs := cells_of_sc hsc
        refine lay hid hH (cells := (a.eval x).cells) (by rw [ho]; simp) hrun ?_ ?_ hone (fun G' hG' => ?_) hK
        · intro v hv
          simp only [List.mem_singleton] at hv
          subst hv
          simp [hcs]
        · simpa [flat] using hcr
        · simp only [VRel]
          exact ⟨_, hG', rfl, by simp⟩
      · cases he
  | @bs t e len parts i z fz ht hi hz hlen hin hb hzs hs =>
    cases fz with
    | true => simp [effOp] at he
    | false =>
      simp only [Bool.false_eq_true, if_false, effOp] at he
      split at he
      · rename_i hall
        cases he
        obtain ⟨cells, h1, h2, h3, h4⟩ := run_bsl (P := P) (ρ := a.eval) ht hi hz hzs hlen hin hb hs (by simpa [Function.comp_def] using hv) hall w
        have hlv := hv.length
        simp at hlv
        refine lay hid hH (cells := cells) (cv := .slice (some ⟨w.heap.size, 0, none⟩) len len) (by rw [ho]; simp) ?_ (all_cells hall) h2 h3 (fun G' hG' => ?_) hK
        · simp only [execOp, ho, Sem.run_bind, h1, Result.andThen_ok, Sem.run_pure]
        · simp only [VRel]
          have hvl : vals.length = len := by omega
          refine ⟨_, len, hG', rfl, by rw [hvl]; simp, by omega, ?_, by simp [h4]⟩
          unfold maxLen
          have : len ≤ len * i.size := Nat.le_mul_of_pos_right _ (Nat.pos_of_ne_zero hs)
          omega
      · cases he

end
end Eng
