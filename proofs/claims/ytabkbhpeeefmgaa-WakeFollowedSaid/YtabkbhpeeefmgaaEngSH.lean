/-
THE ENGINE, PART S8: the arguments of a statement's call, as abstract values.
THE ENGINE, PART SB: the arguments of a statement's call, of any plain type: structs, arrays and slices within each other.
THE ENGINE, PART SC: functions that lay one block, loops whose bodies are weakened midway, loops over functions that keep a state in blocks of their own.
THE ENGINE, PART SD: regions whose last operations come after all others: a call with effects may stand there.
THE ENGINE, PART SE: the arguments of a statement's call by shapes: the cells of a type, one after the other.
THE ENGINE, PART SF: rules for slices that are made, copied into, and cut while they are written; shifts.
THE ENGINE, PART SG: ranges over functions that lay boxes of their own between two calls of yield.
THE ENGINE, PART SH: drawn regions whose last operations are tried in each order.
-/
import Derived.Test.YtabkbhpeeefmgaaEngS9
import Derived.OpenShut
import Derived.WideShapes
import Derived.ChangeArms
import Derived.Carry
import Derived.ChangeOld
namespace Eng
open Go Go.RowKit Go.WideShapes
set_option linter.unusedSimpArgs false
set_option linter.unusedVariables false

/-- what a cell of plain data holds -/
inductive Lf where
  | i | b | s

def repL (l : List Lf) : Nat → List Lf
  | 0 => []
  | n + 1 => l ++ repL l n
def leafFs (g : TypeId → Option (List Lf)) (sz : TypeId → Nat) : List Field → Nat → Option (List Lf)
  | [], _ => some []
  | f :: fs, off => if f.offset = off then (g f.type).bind fun l => if sz f.type = l.length then (leafFs g sz fs (off + l.length)).map fun m => l ++ m else none else none
def leafK (P : Program) : Nat → TypeId → Option (List Lf)
  | 0, _ => none
  | d + 1, t => match P.underlying t with
    | some (.int .i64) => some [.i]
    | some .bool => some [.b]
    | some .string => some [.s]
    | some (.struct fs) => (leafFs (leafK P d) P.cellsOf fs.toList 0).bind fun l => if P.cellsOf t = l.length then some l else none
    | some (.array n e) => (leafK P d e).bind fun l => if P.cellsOf e = l.length ∧ P.cellsOf t = (repL l n).length then some (repL l n) else none
    | _ => none

/-- 64 bits hold it -/
abbrev w64 (n : Int) : Prop := -9223372036854775808 ≤ n ∧ n ≤ 9223372036854775807

def LfV : Lf → AV → Prop
  | .i, u => ∃ n, u = .int .i64 n ∧ w64 n
  | .b, u => ∃ b, u = .bool b
  | .s, u => ∃ s, u = .str s ∧ s.size ≤ maxLen
def Typ : List Lf → List AV → Prop
  | [], us => us = []
  | k :: ks, us => ∃ u r, us = u :: r ∧ LfV k u ∧ Typ ks r
/-- a plain value, and the same in the model -/
def toV : AV → Value
  | .int k n => .int k n
  | .bool b => .bool b
  | .str s => .string s
  | _ => undef

theorem Typ.append : ∀ {ks ls : List Lf} {us vs : List AV}, Typ ks us → Typ ls vs → Typ (ks ++ ls) (us ++ vs)
  | [], ls, us, vs, h, h' => by simp only [Typ] at h; subst h; simpa using h'
  | k :: ks, ls, us, vs, h, h' => by
    obtain ⟨u, r, rfl, h1, h2⟩ := h
    exact ⟨u, r ++ vs, rfl, h1, Typ.append h2 h'⟩
theorem Typ.length : ∀ {ks : List Lf} {us : List AV}, Typ ks us → us.length = ks.length
  | [], us, h => by simp only [Typ] at h; simp [h]
  | k :: ks, us, h => by obtain ⟨u, r, rfl, _, h2⟩ := h; simp [Typ.length h2]
theorem Typ.rel : ∀ {ks : List Lf} {us : List AV}, Typ ks us → ∀ G, VRels G us (us.map toV) ∧ (∀ c ∈ us.map toV, c.oneCell' = true) ∧ us.all AV.sc = true
  | [], us, h, G => by simp only [Typ] at h; subst h; simp [VRels]
  | k :: ks, us, h, G => by
    obtain ⟨u, r, rfl, h1, h2⟩ := h
    obtain ⟨h3, h4, h5⟩ := Typ.rel h2 G
    have h6 : VRel G u (toV u) ∧ (toV u).oneCell' = true ∧ u.sc = true := by
      cases k with
      | i => obtain ⟨n, rfl, _⟩ := h1; simp [VRel, toV, Value.oneCell', AV.sc]
      | b => obtain ⟨n, rfl⟩ := h1; simp [VRel, toV, Value.oneCell', AV.sc]
      | s => obtain ⟨n, rfl, _⟩ := h1; simp [VRel, toV, Value.oneCell', AV.sc]
    refine ⟨?_, ?_, ?_⟩
    · simp only [List.map_cons, VRels]; exact ⟨_, _, rfl, h6.1, h3⟩
    · intro c hc
      rcases List.mem_cons.1 hc with rfl | hc
      · exact h6.2.1
      · exact h4 c hc
    · simp [h6.2.2, h5]
theorem Typ.free : ∀ {ks : List Lf} {us : List AV}, Typ ks us → ∀ φ, subs φ us = us
  | [], us, h, φ => by simp only [Typ] at h; subst h; rfl
  | k :: ks, us, h, φ => by
    obtain ⟨u, r, rfl, h1, h2⟩ := h
    have : sub1 φ u = u := by
      cases k with
      | i => obtain ⟨n, rfl, _⟩ := h1; rfl
      | b => obtain ⟨n, rfl⟩ := h1; rfl
      | s => obtain ⟨n, rfl, _⟩ := h1; rfl
    simp only [subs, this, Typ.free h2 φ]

section
variable {H : Type} {enc : TypeId × Value → H} {P : Program} {w : World} {base : Nat} {sp : Nat → Bool} {held : Bool}

theorem leaf_fs {n : Nat} {g : TypeId → Option (List Lf)} {cs : List Value} (ih : ∀ {t : TypeId} {ks : List Lf} {cs : List Value} {x : DataW H × List MemPlace}, g t = some ks → DataW.trod enc P w base sp held n t cs = some x → ∃ us, Typ ks us ∧ cs = us.map toV) :
    ∀ (fs : List Field) (off : Nat) (l : List Lf), leafFs g P.cellsOf fs off = some l → (∀ f ∈ fs, ∃ x, DataW.trod enc P w base sp held n f.type ((cs.drop f.offset).take (P.cellsOf f.type)) = some x) → cs.length = off + l.length →
      ∃ us, Typ l us ∧ cs.drop off = us.map toV
  | [], off, l, hl, hf, hlen => by
    simp only [leafFs, Option.some.injEq] at hl
    subst hl
    exact ⟨[], rfl, by simp [List.drop_eq_nil_of_le, hlen]⟩
  | f :: fs, off, l, hl, hf, hlen => by
    simp only [leafFs] at hl
    split at hl
    · rename_i ho
      simp only [Option.bind_eq_some_iff] at hl
      obtain ⟨l1, h1, hl⟩ := hl
      split at hl
      · rename_i hsz
        simp only [Option.map_eq_some_iff] at hl
        obtain ⟨l2, h2, rfl⟩ := hl
        obtain ⟨x, hx⟩ := hf f (by simp)
        obtain ⟨us1, t1, e1⟩ := ih h1 hx
        obtain ⟨us2, t2, e2⟩ := leaf_fs ih fs (off + l1.length) l2 h2 (fun f' hf' => hf f' (by simp [hf'])) (by rw [hlen, List.length_append]; omega)
        refine ⟨us1 ++ us2, t1.append t2, ?_⟩
        rw [List.map_append, ← e1, ← e2, ho, hsz]
        conv => lhs; rw [← List.take_append_drop l1.length (cs.drop off), List.drop_drop]
      · cases hl
    · cases hl

theorem leaf_arr {n : Nat} {cs : List Value} {e : TypeId} {l : List Lf} (hsz : P.cellsOf e = l.length) (ih : ∀ {cs : List Value} {x : DataW H × List MemPlace}, DataW.trod enc P w base sp held n e cs = some x → ∃ us, Typ l us ∧ cs = us.map toV) :
    ∀ (k i : Nat), (∀ j, i ≤ j → j < i + k → ∃ x, DataW.trod enc P w base sp held n e ((cs.drop (j * P.cellsOf e)).take (P.cellsOf e)) = some x) → cs.length = i * l.length + (repL l k).length →
      ∃ us, Typ (repL l k) us ∧ cs.drop (i * l.length) = us.map toV
  | 0, i, hf, hlen => ⟨[], rfl, by simp [List.drop_eq_nil_of_le, hlen, repL]⟩
  | k + 1, i, hf, hlen => by
    obtain ⟨x, hx⟩ := hf i (Nat.le_refl _) (by omega)
    obtain ⟨us1, t1, e1⟩ := ih hx
    have hi : (i + 1) * l.length = i * l.length + l.length := by rw [Nat.add_mul]; omega
    obtain ⟨us2, t2, e2⟩ := leaf_arr hsz ih k (i + 1) (fun j h1 h2 => hf j (by omega) (by omega)) (by rw [hlen, repL, List.length_append, hi]; omega)
    refine ⟨us1 ++ us2, t1.append t2, ?_⟩
    rw [List.map_append, ← e1, ← e2, hsz, hi]
    conv => lhs; rw [← List.take_append_drop l.length (cs.drop (i * l.length)), List.drop_drop]

theorem trod_leaf : ∀ {d : Nat} {n : Nat} {t : TypeId} {ks : List Lf} {cs : List Value} {x : DataW H × List MemPlace}, leafK P d t = some ks → DataW.trod enc P w base sp held n t cs = some x → ∃ us, Typ ks us ∧ cs = us.map toV
  | 0, n, t, ks, cs, x, hk, h => by simp [leafK] at hk
  | d + 1, n, t, ks, cs, x, hk, h => by
    simp only [leafK] at hk
    split at hk
    · rename_i ht
      cases hk
      obtain ⟨m, rfl, _, hw⟩ := DataW.trod_int ht h
      have hw : w64 m := by
        simp [Lit.wf, IntKind.min, IntKind.max, IntKind.signed, IntKind.bits] at hw
        exact hw
      exact ⟨[.int .i64 m], ⟨_, [], rfl, ⟨m, rfl, hw⟩, rfl⟩, rfl⟩
    · rename_i ht
      cases hk
      obtain ⟨b, rfl, _⟩ := DataW.trod_bool ht h
      exact ⟨[.bool b], ⟨_, [], rfl, ⟨b, rfl⟩, rfl⟩, rfl⟩
    · rename_i ht
      cases hk
      obtain ⟨s, rfl, _, hs⟩ := DataW.trod_string ht h
      exact ⟨[.str s], ⟨_, [], rfl, ⟨s, rfl, hs⟩, rfl⟩, rfl⟩
    · rename_i fs ht
      simp only [Option.bind_eq_some_iff] at hk
      obtain ⟨l, hl, hk⟩ := hk
      split at hk
      · rename_i hsz
        cases hk
        obtain ⟨xs, m, rfl, _, hlen, hxl, hf⟩ := DataW.trod_struct ht h
        have := leaf_fs (cs := cs) (n := m) (fun hk hx => trod_leaf (d := d) hk hx) fs.toList 0 ks hl (fun f hf' => by
          obtain ⟨i, hi, hfi⟩ := List.getElem_of_mem hf'
          have hi' : i < fs.size := by simpa using hi
          have h1 := hf i f (by rw [← hfi]; simp [hi'])
          rw [h1]
          exact ⟨xs[i]'(by omega), List.getElem?_eq_getElem _⟩) (by rw [hlen, hsz]; simp)
        simpa using this
      · cases hk
    · rename_i k e ht
      simp only [Option.bind_eq_some_iff] at hk
      obtain ⟨l, hl, hk⟩ := hk
      split at hk
      · rename_i hsz
        cases hk
        obtain ⟨xs, m, rfl, _, hlen, hxl, hf⟩ := DataW.trod_array ht h
        have := leaf_arr (cs := cs) (n := m) hsz.1 (fun hx => trod_leaf (d := d) hl hx) k 0 (fun j _ hj => by
          rw [hf j (by omega)]
          exact ⟨xs[j]'(by omega), List.getElem?_eq_getElem _⟩) (by rw [hlen, hsz.2]; simp)
        simpa using this
      · cases hk
    · cases hk
end

/-! ### arguments -/
inductive Ar where
  | one (k : Lf)
  | agg (ks : List Lf)
  | sl (ag : Bool) (ks : List Lf)

def isAggT (P : Program) (t : TypeId) : Option Bool :=
  match P.underlying t with
  | some (.struct _) | some (.array _ _) => some true
  | some (.int .i64) | some .bool | some .string => some false
  | _ => none
def argK (P : Program) (t : TypeId) : Option Ar :=
  match P.underlying t with
  | some (.slice e) => match isAggT P e, leafK P 8 e with
    | some true, some ks => if ks.length = P.cellsOf e ∧ 0 < ks.length then some (.sl true ks) else none
    | some false, some [k] => if P.cellsOf e = 1 then some (.sl false [k]) else none
    | _, _ => none
  | some (.struct _) | some (.array _ _) => (leafK P 8 t).map .agg
  | _ => match leafK P 8 t with
    | some [k] => some (.one k)
    | _ => none

def mkA (ag : Bool) (us : List AV) : AV := if ag then .agg us else us.headD .any
def ArV : Ar → AV → Prop
  | .one k, u => LfV k u
  | .agg ks, u => ∃ us, u = .agg us ∧ Typ ks us
  | .sl ag ks, u => ∃ l : List (List AV), u = .vs (l.map (mkA ag)) ∧ (∀ us ∈ l, Typ ks us) ∧ l.length ≤ maxLen

/-- all that lies in the world is never written any more -/
def gh (W : World) : Ghost := { ι := fun _ => none, ro := fun r => W.heap[r]?, an := ⟨fun _ => False, fun _ => none, fun _ => none⟩ }
theorem gh_ok (W : World) : (gh W).ok W := fun _ _ h => h

theorem mkA_cells {ag : Bool} {us : List AV} (h : us.all AV.sc = true) (h1 : ag = false → us.length = 1) : (mkA ag us).cells = us := by
  cases ag with
  | true => rfl
  | false =>
    match us, h1 rfl with
    | [u], _ =>
      simp only [List.all_cons, List.all_nil, Bool.and_true] at h
      exact cells_of_sc h

theorem open_arg {H : Type} {enc : TypeId × Value → H} {P : Program} {W : World} {t : TypeId} {k : Ar} (hk : argK P t = some k) {b0 : Nat} {r : Reach} {v : Value} {d : DataW H} {p : List MemPlace} (hval : Value.okWide P W r b0 t v) (h : DataW.Trod enc P W 0 (fun _ => true) true t v d p) :
    ∃ u, ArV k u ∧ VRel (gh W) u v := by
  obtain ⟨fuel, hf⟩ := h
  unfold argK at hk
  split at hk
  · rename_i e ht
    obtain ⟨a, len, cap, rfl⟩ := okWide_slice ht hval
    have hspot : ∀ x, a = some x → x.spot = none := by
      rintro x rfl
      unfold Value.okWide at hval
      rw [ht] at hval
      simp only [Cell.okWide, ht, Cell.ok] at hval
      exact hval.2.2.2.1
    have fin : ∀ (ag : Bool) (ks : List Lf), leafK P 8 e = some ks → ks.length = P.cellsOf e → 0 < ks.length → (ag = false → ks.length = 1) → ∃ u, ArV (.sl ag ks) u ∧ VRel (gh W) u (.slice a len cap) := by
      intro ag ks hks hlen hpos h1
      rcases DataW.trod_slice ht hf with ⟨h0, _⟩ | ⟨x, len', cap', elems, rest, m, _, hcs, _, _, hlc, hcm, hel, hget, _⟩
      · simp only [Value.cells, List.cons.injEq, Value.slice.injEq, and_true] at h0
        have h0 : a = none ∧ len = 0 ∧ cap = 0 := by simpa using h0
        obtain ⟨rfl, rfl, rfl⟩ := h0
        exact ⟨.vs [], ⟨[], rfl, by simp, by simp⟩, by simp [VRel]⟩
      · have hcs : a = some x ∧ len = len' ∧ cap = cap' := by simpa [Value.cells] using hcs
        obtain ⟨rfl, rfl, rfl⟩ := hcs
        have hsp := hspot x rfl
        obtain ⟨b, off, spot⟩ := x
        simp only at hsp
        subst hsp
        have each : ∀ i, i < len → ∃ us, Typ ks us ∧ RoCells (gh W) b (off + i * ks.length) (us.map toV) := by
          intro i hi
          have hi' : i < elems.length := by omega
          have hg := hget i hi
          rw [List.getElem?_eq_getElem hi'] at hg
          simp only [Option.bind_eq_some_iff] at hg
          obtain ⟨cs', hc, hx⟩ := hg
          obtain ⟨us, hty, rfl⟩ := trod_leaf hks hx
          refine ⟨us, hty, ?_⟩
          obtain ⟨_, hl, hcell⟩ := World.cells?_some hc
          have hcell' : ∀ j c, (us.map toV)[j]? = some c → W.cell? ⟨b, off + i * ks.length + j, none⟩ = some c := by
            intro j c hj
            have hj' : j < P.cellsOf e := by
              have := (List.getElem?_eq_some_iff.1 hj).1
              rw [hl] at this; exact this
            have := hcell j hj'
            rw [hj] at this
            have e1 : ((⟨b, off, none⟩ : Addr).add (i * P.cellsOf e)).add j = ⟨b, off + i * ks.length + j, none⟩ := by
              rw [← hlen]
              unfold Addr.add
              split <;> split <;> simp_all
            rwa [e1] at this
          have h0 : 0 < (us.map toV).length := by rw [List.length_map, hty.length]; exact hpos
          have hc0 := hcell' 0 _ (List.getElem?_eq_getElem h0)
          unfold World.cell? at hc0
          simp only at hc0
          cases ho : W.heap[b]? with
          | none => rw [ho] at hc0; cases hc0
          | some o =>
            cases o with
            | cells cur ty fr =>
              refine ⟨cur, ty, fr, ho, fun j c hj => ?_⟩
              have := hcell' j c hj
              unfold World.cell? at this
              simp only [ho] at this
              simpa using this
            | _ => rw [ho] at hc0; cases hc0
        have rows : ∀ (k i : Nat), i + k = len → ∃ l : List (List AV), l.length = k ∧ (∀ us ∈ l, Typ ks us) ∧ VRows (gh W) (l.map (mkA ag)) b (off + i * ks.length) ks.length := by
          intro k
          induction k with
          | zero => intro i _; exact ⟨[], rfl, by simp, by simp [VRows]⟩
          | succ k ih =>
            intro i hi
            obtain ⟨us, hty, hro⟩ := each i (by omega)
            obtain ⟨l, hl1, hl2, hl3⟩ := ih (i + 1) (by omega)
            obtain ⟨h2, h3, h4⟩ := hty.rel (gh W)
            have h5 : (mkA ag us).cells = us := mkA_cells h4 (fun e => by rw [hty.length]; exact h1 e)
            refine ⟨us :: l, by simp [hl1], fun us' hus => ?_, ?_⟩
            · rcases List.mem_cons.1 hus with rfl | hus
              · exact hty
              · exact hl2 _ hus
            · simp only [List.map_cons, VRows]
              refine ⟨?_, by have : off + i * ks.length + ks.length = off + (i + 1) * ks.length := by rw [Nat.add_mul]; omega
                             rw [this]; exact hl3⟩
              cases ag with
              | true =>
                refine ⟨.agg (us.map toV).toArray, by simp only [mkA, if_true, VRel]; exact ⟨_, h2, h3, rfl⟩, by rw [h5, hty.length], by simp [Value.cells, hty.length], by simpa [Value.cells] using h3, by simpa [Value.cells] using hro⟩
              | false =>
                have hl1 : us.length = 1 := by rw [hty.length]; exact h1 rfl
                match us, hl1 with
                | [u], _ =>
                  have hu : VRel (gh W) u (toV u) ∧ (toV u).oneCell' = true := by
                    refine ⟨?_, h3 _ (by simp)⟩
                    simp only [List.map_cons, List.map_nil, VRels] at h2
                    obtain ⟨c, cs, e1, h6, _⟩ := h2
                    simp only [List.cons.injEq] at e1
                    exact e1.1 ▸ h6
                  have hcel : (toV u).cells = #[toV u] := by
                    have := hu.2
                    cases hv : toV u <;> first | rfl | (rw [hv] at this; simp [Value.oneCell'] at this)
                  refine ⟨toV u, hu.1, by rw [h5, hty.length], by rw [hcel, h1 rfl]; rfl, by rw [hcel]; simpa using hu.2, by rw [hcel]; simpa using hro⟩
        obtain ⟨l, hl1, hl2, hl3⟩ := rows len 0 (by omega)
        refine ⟨.vs (l.map (mkA ag)), ⟨l, rfl, hl2, by omega⟩, ?_⟩
        simp only [VRel]
        refine .inr ⟨b, off, ks.length, cap, by simpa using hl3, by simp [hl1], by simp [hl1, hlc]⟩
    split at hk
    · rename_i ks _ hks
      split at hk
      · rename_i hc
        cases hk
        exact fin true ks hks hc.1 hc.2 (by simp)
      · cases hk
    · rename_i k' _ hks
      split at hk
      · rename_i hc
        cases hk
        exact fin false [k'] hks (by simp [hc]) (by simp) (fun _ => rfl)
      · cases hk
    · cases hk
  · rename_i fs hs
    simp only [Option.map_eq_some_iff] at hk
    obtain ⟨ks, hks, rfl⟩ := hk
    unfold Value.okWide at hval
    rw [hs] at hval
    obtain ⟨cs, rfl, _⟩ := hval
    obtain ⟨us, hty, e1⟩ := trod_leaf hks hf
    have e1 : cs.toList = us.map toV := by simpa [Value.cells] using e1
    obtain ⟨h2, h3, _⟩ := hty.rel (gh W)
    refine ⟨.agg us, ⟨us, rfl, hty⟩, ?_⟩
    simp only [VRel]
    exact ⟨us.map toV, h2, h3, by rw [← e1]⟩
  · rename_i n e hs
    simp only [Option.map_eq_some_iff] at hk
    obtain ⟨ks, hks, rfl⟩ := hk
    unfold Value.okWide at hval
    rw [hs] at hval
    obtain ⟨cs, rfl, _⟩ := hval
    obtain ⟨us, hty, e1⟩ := trod_leaf hks hf
    have e1 : cs.toList = us.map toV := by simpa [Value.cells] using e1
    obtain ⟨h2, h3, _⟩ := hty.rel (gh W)
    refine ⟨.agg us, ⟨us, rfl, hty⟩, ?_⟩
    simp only [VRel]
    exact ⟨us.map toV, h2, h3, by rw [← e1]⟩
  · rename_i ho1 ho2 ho3
    split at hk
    · rename_i k' hks
      cases hk
      obtain ⟨us, ⟨u, r, rfl, hty, hr⟩, e1⟩ := trod_leaf hks hf
      simp only [Typ] at hr
      subst hr
      have hleaf : v.cells = #[v] := by
        cases v with
        | agg cs =>
          unfold Value.okWide at hval
          split at hval
          · rename_i hs; exact absurd hs (ho2 _)
          · rename_i hs; exact absurd hs (ho3 _ _)
          · simp only [leafK] at hks
            split at hks
            · rename_i hs; simp [Cell.okWide, hs, Cell.ok] at hval
            · rename_i hs; simp [Cell.okWide, hs, Cell.ok] at hval
            · rename_i hs; simp [Cell.okWide, hs, Cell.ok] at hval
            · rename_i hs; exact absurd hs (ho2 _)
            · rename_i hs; exact absurd hs (ho3 _ _)
            · cases hks
        | _ => rfl
      rw [hleaf] at e1
      simp only [List.map_cons, List.map_nil, List.cons.injEq, and_true] at e1
      refine ⟨u, hty, ?_⟩
      rw [show v = toV u by simpa using e1]
      have := (Typ.rel (ks := [k']) ⟨u, [], rfl, hty, rfl⟩ (gh W)).1
      simp only [List.map_cons, List.map_nil, VRels] at this
      obtain ⟨c, cs, e2, h6, _⟩ := this
      simp only [List.cons.injEq] at e2
      exact e2.1 ▸ h6
    · cases hk
end Eng

namespace Eng
open Go Go.RowKit Go.WideShapes
set_option linter.unusedSimpArgs false
set_option linter.unusedVariables false

/-- the cells of the fields, one field after the other -/
def VFs (g : TypeId → List AV → Prop) : List Field → List AV → Prop
  | [], us => us = []
  | f :: fs, us => ∃ a r, us = a ++ r ∧ g f.type a ∧ VFs g fs r
def VAs (g : List AV → Prop) : Nat → List AV → Prop
  | 0, us => us = []
  | k + 1, us => ∃ a r, us = a ++ r ∧ g a ∧ VAs g k r
def isAggE (P : Program) (t : TypeId) : Bool := match P.underlying t with
  | some (.struct _) | some (.array _ _) => true
  | _ => false
/-- the abstract cells of a value of a type -/
def VT (P : Program) : Nat → TypeId → List AV → Prop
  | 0, _, _ => False
  | n + 1, t, us => match P.underlying t with
    | some (.int .i64) => ∃ m, us = [.int .i64 m] ∧ w64 m
    | some .bool => ∃ b, us = [.bool b]
    | some .string => ∃ s, us = [.str s] ∧ s.size ≤ maxLen
    | some (.struct fs) => VFs (VT P n) fs.toList us
    | some (.array k e) => VAs (VT P n e) k us
    | some (.slice e) => ∃ l : List (List AV), us = [.vs (l.map (mkA (isAggE P e)))] ∧ (∀ p ∈ l, VT P n e p) ∧ l.length ≤ maxLen
    | _ => False
/-- an argument of a type -/
def ArG (P : Program) (n : Nat) (t : TypeId) (u : AV) : Prop := if isAggE P t = true then ∃ us, u = .agg us ∧ VT P n t us else VT P n t [u]

def offs (P : Program) : List Field → Nat → Option Nat
  | [], o => some o
  | f :: fs, o => if f.offset = o then offs P fs (o + P.cellsOf f.type) else none
def okT1 (P : Program) (S : List TypeId) (t : TypeId) : Bool := match P.underlying t with
  | some (.int .i64) | some .bool | some .string => decide (P.cellsOf t = 1)
  | some (.struct fs) => (fs.toList.all fun f => decide (f.type ∈ S)) && decide (offs P fs.toList 0 = some (P.cellsOf t))
  | some (.array k e) => decide (e ∈ S) && decide (P.cellsOf t = k * P.cellsOf e)
  | some (.slice e) => decide (e ∈ S) && decide (0 < P.cellsOf e) && decide (P.cellsOf t = 1) && (isAggE P e || decide (P.cellsOf e = 1))
  | _ => false
def okTs (P : Program) (S : List TypeId) : Bool := S.all fun t => okT1 P S t

/-- abstract cells and cells -/
def RC (G : Ghost) (us : List AV) (cs : List Value) : Prop := VRels G us cs ∧ (∀ c ∈ cs, c.oneCell' = true) ∧ us.all AV.sc = true
theorem RC.nil {G : Ghost} : RC G [] [] := ⟨by simp [VRels], by simp, by simp⟩
theorem RC.app {G : Ghost} {us vs : List AV} {cs ds : List Value} (h : RC G us cs) (h' : RC G vs ds) : RC G (us ++ vs) (cs ++ ds) :=
  ⟨h.1.append h'.1, fun c hc => (List.mem_append.1 hc).elim (h.2.1 c) (h'.2.1 c), by simp [h.2.2, h'.2.2]⟩
theorem RC.len {G : Ghost} {us : List AV} {cs : List Value} (h : RC G us cs) : us.length = cs.length := h.1.length.symm

theorem VFs_of {P : Program} {G : Ghost} {g : TypeId → List AV → Prop} {cs : List Value} : ∀ (fs : List Field) (o : Nat), offs P fs o = some cs.length → (∀ f ∈ fs, ∃ us, g f.type us ∧ RC G us ((cs.drop f.offset).take (P.cellsOf f.type))) → ∃ us, VFs g fs us ∧ RC G us (cs.drop o)
  | [], o, ho, _ => by
    simp only [offs, Option.some.injEq] at ho
    subst ho
    exact ⟨[], rfl, by rw [List.drop_eq_nil_of_le (Nat.le_refl _)]; exact RC.nil⟩
  | f :: fs, o, ho, hf => by
    simp only [offs] at ho
    split at ho
    · rename_i he
      obtain ⟨us1, h1, h2⟩ := hf f (by simp)
      obtain ⟨us2, h3, h4⟩ := VFs_of fs _ ho fun f' hf' => hf f' (by simp [hf'])
      refine ⟨us1 ++ us2, ⟨us1, us2, rfl, h1, h3⟩, ?_⟩
      have : cs.drop o = (cs.drop o).take (P.cellsOf f.type) ++ cs.drop (o + P.cellsOf f.type) := by
        conv => lhs; rw [← List.take_append_drop (P.cellsOf f.type) (cs.drop o), List.drop_drop]
      rw [this, ← he] at *
      exact h2.app h4
    · cases ho
theorem VAs_of {G : Ghost} {g : List AV → Prop} {cs : List Value} {sz : Nat} : ∀ (k i : Nat), cs.length = (i + k) * sz → (∀ j, i ≤ j → j < i + k → ∃ us, g us ∧ RC G us ((cs.drop (j * sz)).take sz)) → ∃ us, VAs g k us ∧ RC G us (cs.drop (i * sz))
  | 0, i, hl, _ => ⟨[], rfl, by rw [List.drop_eq_nil_of_le (by rw [hl]; simp)]; exact RC.nil⟩
  | k + 1, i, hl, hf => by
    obtain ⟨us1, h1, h2⟩ := hf i (Nat.le_refl _) (by omega)
    obtain ⟨us2, h3, h4⟩ := VAs_of k (i + 1) (by rw [hl]; congr 1; omega) fun j h1 h2 => hf j (by omega) (by omega)
    refine ⟨us1 ++ us2, ⟨us1, us2, rfl, h1, h3⟩, ?_⟩
    have : cs.drop (i * sz) = (cs.drop (i * sz)).take sz ++ cs.drop ((i + 1) * sz) := by
      rw [Nat.add_mul, Nat.one_mul]
      conv => lhs; rw [← List.take_append_drop sz (cs.drop (i * sz)), List.drop_drop]
    rw [this]
    exact h2.app h4

section
variable {H : Type} {enc : TypeId × Value → H} {P : Program} {w : World} {base : Nat} {sp : Nat → Bool} {held : Bool}

theorem trod_VT {S : List TypeId} (hS : okTs P S = true) : ∀ (n : Nat) {t : TypeId} {cs : List Value} {x : DataW H × List MemPlace}, t ∈ S → DataW.trod enc P w base sp held n t cs = some x → ∃ us, VT P n t us ∧ RC (gh w) us cs
  | 0, t, cs, x, _, h => by simp [DataW.trod] at h
  | n + 1, t, cs, x, ht, h => by
    have hk := List.all_eq_true.1 hS t ht
    unfold okT1 at hk
    unfold VT
    split at hk
    · rename_i hu
      obtain ⟨m, rfl, _, hw⟩ := DataW.trod_int hu h
      have hw : w64 m := by
        simp [Lit.wf, IntKind.min, IntKind.max, IntKind.signed, IntKind.bits] at hw
        exact hw
      exact ⟨[.int .i64 m], ⟨m, rfl, hw⟩, by simp [VRels, VRel], by simp [Value.oneCell'], by simp [AV.sc]⟩
    · rename_i hu
      obtain ⟨b, rfl, _⟩ := DataW.trod_bool hu h
      exact ⟨[.bool b], ⟨b, rfl⟩, by simp [VRels, VRel], by simp [Value.oneCell'], by simp [AV.sc]⟩
    · rename_i hu
      obtain ⟨s, rfl, _, hs⟩ := DataW.trod_string hu h
      exact ⟨[.str s], ⟨s, rfl, hs⟩, by simp [VRels, VRel], by simp [Value.oneCell'], by simp [AV.sc]⟩
    · rename_i fs hu
      simp only [Bool.and_eq_true, decide_eq_true_eq] at hk
      obtain ⟨hk1, hk2⟩ := hk
      obtain ⟨xs, m, hm, _, hlen, hxl, hf⟩ := DataW.trod_struct hu h
      obtain rfl : n = m := by omega
      have := VFs_of (G := gh w) (g := VT P n) (cs := cs) fs.toList 0 (by rw [hk2, hlen]) fun f hf' => by
        obtain ⟨i, hi, hfi⟩ := List.getElem_of_mem hf'
        have hi' : i < fs.size := by simpa using hi
        have h1 := hf i f (by rw [← hfi]; simp [hi'])
        have hi2 : i < xs.length := by omega
        rw [List.getElem?_eq_getElem hi2] at h1
        exact trod_VT hS n (of_decide_eq_true (List.all_eq_true.1 hk1 f hf')) h1
      simpa using this
    · rename_i k e hu
      simp only [Bool.and_eq_true, decide_eq_true_eq] at hk
      obtain ⟨xs, m, hm, _, hlen, hxl, hf⟩ := DataW.trod_array hu h
      obtain rfl : n = m := by omega
      have := VAs_of (G := gh w) (g := VT P n e) (cs := cs) (sz := P.cellsOf e) k 0 (by rw [hlen, hk.2]; simp) fun j _ hj => by
        have hj2 : j < xs.length := by omega
        have h1 := hf j (by omega)
        rw [List.getElem?_eq_getElem hj2] at h1
        exact trod_VT hS n hk.1 h1
      simpa using this
    · rename_i e hu
      simp only [Bool.and_eq_true, decide_eq_true_eq, Bool.or_eq_true] at hk
      obtain ⟨⟨⟨he, hpos⟩, _⟩, hag⟩ := hk
      rcases DataW.trod_slice hu h with ⟨rfl, _⟩ | ⟨a, len, cap, elems, rest, m, hm, rfl, _, hba, hlc, hcm, hel, hget, _⟩
      · exact ⟨[.vs []], ⟨[], rfl, by simp, by simp⟩, by simp [VRels, VRel], by simp [Value.oneCell'], by simp [AV.sc]⟩
      · obtain rfl : n = m := by omega
        cases len with
        | zero => exact ⟨[.vs []], ⟨[], rfl, by simp, by simp⟩, by simp [VRels, VRel], by simp [Value.oneCell'], by simp [AV.sc]⟩
        | succ len =>
        obtain ⟨b, off, spot⟩ := a
        have each : ∀ i, i < len + 1 → ∃ us cs, VT P n e us ∧ RC (gh w) us cs ∧ cs.length = P.cellsOf e ∧ ∀ j c, cs[j]? = some c → w.cell? (((⟨b, off, spot⟩ : Addr).add (i * P.cellsOf e)).add j) = some c := by
          intro i hi
          have hi' : i < elems.length := by omega
          have hg := hget i hi
          rw [List.getElem?_eq_getElem hi'] at hg
          simp only [Option.bind_eq_some_iff] at hg
          obtain ⟨cs', hc, hx⟩ := hg
          obtain ⟨us, h1, h2⟩ := trod_VT hS n he hx
          obtain ⟨_, hl, hcell⟩ := World.cells?_some hc
          refine ⟨us, cs', h1, h2, hl, fun j c hj => ?_⟩
          have hj' : j < P.cellsOf e := by
            have := (List.getElem?_eq_some_iff.1 hj).1
            rw [hl] at this; exact this
          rw [hcell j hj', hj]
        have hsp : spot = none := by
          obtain ⟨us, cs, _, _, hl, hc⟩ := each 0 (by omega)
          have h0 : 0 < cs.length := by omega
          have := hc 0 _ (List.getElem?_eq_getElem h0)
          simpa [Addr.add] using World.cell?_spot this
        subst hsp
        have ro : ∀ i, i < len + 1 → ∃ us cs, VT P n e us ∧ RC (gh w) us cs ∧ cs.length = P.cellsOf e ∧ RoCells (gh w) b (off + i * P.cellsOf e) cs := by
          intro i hi
          obtain ⟨us, cs, h1, h2, hl, hc⟩ := each i hi
          refine ⟨us, cs, h1, h2, hl, ?_⟩
          have hcell' : ∀ j c, cs[j]? = some c → w.cell? ⟨b, off + i * P.cellsOf e + j, none⟩ = some c := by
            intro j c hj
            have := hc j c hj
            have e1 : ((⟨b, off, none⟩ : Addr).add (i * P.cellsOf e)).add j = ⟨b, off + i * P.cellsOf e + j, none⟩ := by
              unfold Addr.add
              split <;> split <;> simp_all
            rwa [e1] at this
          have h0 : 0 < cs.length := by omega
          have hc0 := hcell' 0 _ (List.getElem?_eq_getElem h0)
          unfold World.cell? at hc0
          simp only at hc0
          cases ho : w.heap[b]? with
          | none => rw [ho] at hc0; cases hc0
          | some o =>
            cases o with
            | cells cur ty fr =>
              refine ⟨cur, ty, fr, ho, fun j c hj => ?_⟩
              have := hcell' j c hj
              unfold World.cell? at this
              simp only [ho] at this
              simpa using this
            | _ => rw [ho] at hc0; cases hc0
        have rows : ∀ (k i : Nat), i + k = len + 1 → ∃ l : List (List AV), l.length = k ∧ (∀ us ∈ l, VT P n e us) ∧ VRows (gh w) (l.map (mkA (isAggE P e))) b (off + i * P.cellsOf e) (P.cellsOf e) := by
          intro k
          induction k with
          | zero => intro i _; exact ⟨[], rfl, by simp, by simp [VRows]⟩
          | succ k ih =>
            intro i hi
            obtain ⟨us, cs, h1, h2, hl, hro⟩ := ro i (by omega)
            obtain ⟨l, hl1, hl2, hl3⟩ := ih (i + 1) (by omega)
            have hul : us.length = P.cellsOf e := by rw [h2.len, hl]
            refine ⟨us :: l, by simp [hl1], fun us' hus => ?_, ?_⟩
            · rcases List.mem_cons.1 hus with rfl | hus
              · exact h1
              · exact hl2 _ hus
            · simp only [List.map_cons, VRows]
              refine ⟨?_, by have : off + i * P.cellsOf e + P.cellsOf e = off + (i + 1) * P.cellsOf e := by rw [Nat.add_mul]; omega
                             rw [this]; exact hl3⟩
              cases hagg : isAggE P e with
              | true =>
                refine ⟨.agg cs.toArray, by simp only [mkA, if_true, VRel]; exact ⟨_, h2.1, h2.2.1, rfl⟩, by simpa [mkA, AV.cells] using hul, by simp [Value.cells, hl], by simpa [Value.cells] using h2.2.1, by simpa [Value.cells] using hro⟩
              | false =>
                have h1c : P.cellsOf e = 1 := by rcases hag with x | x; (· rw [hagg] at x; cases x); exact x
                obtain ⟨hv, ho, hs⟩ := h2
                match us, cs, hul.trans h1c, hl.trans h1c with
                | [u], [c], _, _ =>
                  obtain ⟨c', hc', hu⟩ := vrels1 hv
                  cases hc'
                  have hcc : c.cells = #[c] := by
                    have := ho c (by simp)
                    cases c <;> first | rfl | simp [Value.oneCell'] at this
                  have huc : u.cells = [u] := cells_of_sc (by simpa using hs)
                  exact ⟨c, by simpa [mkA] using hu, by simp [mkA, huc, h1c], by rw [hcc, h1c]; rfl, by rw [hcc]; simpa using ho, by rw [hcc]; simpa using hro⟩
        obtain ⟨l, hl1, hl2, hl3⟩ := rows (len + 1) 0 (by omega)
        refine ⟨[.vs (l.map (mkA (isAggE P e)))], ⟨l, rfl, hl2, by omega⟩, ?_, by simp [Value.oneCell'], by simp [AV.sc]⟩
        simp only [VRels, VRel]
        exact ⟨_, [], rfl, .inr ⟨b, off, P.cellsOf e, cap, by simpa using hl3, by simp [hl1], by simp [hl1, hlc]⟩, rfl⟩
    · cases hk
end

theorem open_argV {H : Type} {enc : TypeId × Value → H} {P : Program} {W : World} {t : TypeId} {S : List TypeId} (hS : okTs P S = true) (ht : t ∈ S) {b0 : Nat} {r : Reach} {v : Value} {d : DataW H} {p : List MemPlace} (hval : Value.okWide P W r b0 t v) (h : DataW.Trod enc P W 0 (fun _ => true) true t v d p) :
    ∃ n u, ArG P n t u ∧ VRel (gh W) u v := by
  obtain ⟨fuel, hf⟩ := h
  obtain ⟨us, h1, h2, h3, h4⟩ := trod_VT hS fuel ht hf
  unfold ArG
  by_cases hag : isAggE P t = true
  · have : ∃ cs, v = .agg cs := by
      unfold isAggE at hag
      unfold Value.okWide at hval
      split at hag
      · rename_i hu; rw [hu] at hval; obtain ⟨cs, rfl, _⟩ := hval; exact ⟨cs, rfl⟩
      · rename_i hu; rw [hu] at hval; obtain ⟨cs, rfl, _⟩ := hval; exact ⟨cs, rfl⟩
      · cases hag
    obtain ⟨cs, rfl⟩ := this
    refine ⟨fuel, .agg us, by rw [if_pos hag]; exact ⟨us, rfl, h1⟩, ?_⟩
    simp only [VRel]
    exact ⟨cs.toList, h2, h3, by simp⟩
  · have hcell : v.cells = #[v] := by
      have hk := List.all_eq_true.1 hS t ht
      unfold okT1 at hk
      cases v with
      | agg cs =>
        unfold isAggE at hag
        unfold Value.okWide at hval
        split at hag
        · exact absurd rfl hag
        · exact absurd rfl hag
        · rename_i n1 n2
          split at hval
          · rename_i hu; exact absurd hu (n1 _)
          · rename_i hu; exact absurd hu (n2 _ _)
          · split at hk
            · rename_i hu; simp [Cell.okWide, hu, Cell.ok] at hval
            · rename_i hu; simp [Cell.okWide, hu, Cell.ok] at hval
            · rename_i hu; simp [Cell.okWide, hu, Cell.ok] at hval
            · rename_i hu; exact absurd hu (n1 _)
            · rename_i hu; exact absurd hu (n2 _ _)
            · rename_i hu; simp [Cell.okWide, hu, Cell.ok] at hval
            · cases hk
      | _ => rfl
    rw [hcell] at h2
    obtain ⟨c, hc, hu⟩ : ∃ u, us = [u] ∧ VRel (gh W) u v := one h2
    subst hc
    exact ⟨fuel, c, by rw [if_neg hag]; exact h1, hu⟩
end Eng

namespace Eng
open Go Go.RowKit
set_option linter.unusedSimpArgs false
set_option linter.unusedVariables false

def one1 (nx : Nat) : Nat → Fate := fun u => if u = 0 then .as nx else .gone
/-- A function that lays one block of rows, in whatever heap. -/
theorem LOk.lay1 {P : Program} {f : Nat} {args : List AV} {H : List HEnt} {nx n' ty n : Nat} {v v' : AV} {xs : List AV}
    (h : LOk P f args [] 0 v [⟨0, 0, .rows ty n xs⟩] n') (ha : subs noId args = args) (hx : subs (one1 nx) xs = xs) (hvv : sub1 (one1 nx) v = v') :
    LOk P f args H nx v' (⟨nx, nx, .rows ty n xs⟩ :: H) (nx + 1) := by
  refine ⟨h.1, fun G w cargs hH hr => ?_⟩
  let G0 : Ghost := { ι := fun u => none, ro := G.ro, an := ⟨fun r => r < w.heap.size, G.ro, fun r => w.heap[r]?⟩ }
  have hsn : Subst G G0 noId := ⟨fun _ _ _ _ h => h, fun u u' l' hu => by simp [noId] at hu, fun u esz vals l' hu => by simp [noId] at hu⟩
  have hr0 : VRels G0 args cargs := by
    have := VRels.subst hsn _ hr
    rwa [ha] at this
  have hH0 : HRel G0 (· ∈ []) (0 ≤ ·) w := ⟨hH.ro, fun e he => absurd he (by simp), fun e _ he => absurd he (by simp), fun _ _ => rfl, fun e _ he => absurd he (by simp), fun e he => absurd he (by simp), fun _ hr => hr, fun _ _ => ⟨rfl, rfl⟩⟩
  refine (h.2 G0 w cargs hH0 hr0).mono ?_
  rintro e w' ⟨v0, hp0, nx0, G', cv, ⟨e1, e2, e3⟩, rfl, hle, hH', hcv, hk⟩
  rw [e2] at hH'
  rw [e1] at hcv
  obtain ⟨l, hl1, hb', hro', _⟩ := hH'.ent ⟨0, 0, .rows ty n xs⟩ (by simp)
  simp only at hl1 hb'
  have hlo : ∀ r, r < w.heap.size → G'.ro r = G.ro r ∧ w'.heap[r]? = w.heap[r]? := fun r h1 => by
    have := hH'.lo r (by rw [hle.an]; exact h1)
    rw [hle.an] at this
    exact this
  have hlb : ¬ l.b < w.heap.size := fun x => by
    have h0 := hH'.own _ (List.mem_singleton.2 rfl) l hl1
    rw [hle.an] at h0
    exact h0 x
  have hGlt : ∀ r o, G.ro r = some o → r < w.heap.size := fun r o hr => (Array.getElem?_eq_some_iff.1 (hH.ro r o hr)).1
  let G1 : Ghost := { ι := G.ι, ro := fun r => if r < w.heap.size then G.ro r else if r = l.b then none else w'.heap[r]?, an := G.an }
  let G2 : Ghost := G1.put nx l
  have hn : G1.ι nx = none := hH.fresh nx (Nat.le_refl nx)
  have hle1 : G.le G1 := ⟨⟨fun _ _ h => h, fun r o hr => by simp only [G1, hGlt r o hr, if_true]; exact hr⟩, rfl⟩
  have hle2 : G.le G2 := hle1.trans (Ghost.le_put hn)
  have hs2 : Subst G' G2 (one1 nx) := by
    refine ⟨fun r cur e fr hr => ?_, fun u u' l' hu hl' => ?_, fun u esz vals l' hu => ?_⟩
    · simp only [G2, Ghost.put, G1]
      split
      · rename_i hlt'
        rw [← (hlo r hlt').1]; exact hr
      · split
        · rename_i e; rw [e, hro'] at hr; cases hr
        · exact hH'.ro _ _ hr
    · by_cases h0 : u = 0
      · rw [one1, if_pos h0] at hu
        cases hu
        rw [h0, hl1] at hl'; cases hl'
        simp [G2, Ghost.put]
      · rw [one1, if_neg h0] at hu; cases hu
    · by_cases h0 : u = 0
      · rw [one1, if_pos h0] at hu; cases hu
      · rw [one1, if_neg h0] at hu; cases hu
  have hb2 : BRel G2 l w' (.rows ty n xs) := by
    have := BRel.subst hs2 hb'
    simpa only [ABlk.sub, hx] using this
  have hput : ∀ e ∈ H, e.id ≠ nx := fun e he hx => by
    obtain ⟨l3, h3, _⟩ := hH.ent e he
    rw [hx] at h3
    exact absurd h3 (by have := hH.fresh nx (Nat.le_refl nx); rw [this]; simp)
  have hιe : ∀ e ∈ H, G2.ι e.id = G.ι e.id := fun e he => by simp [G2, G1, Ghost.put, hput e he]
  have hnew : G2.ι nx = some l := by simp [G2, Ghost.put]
  have hv2 : VRel G2 v' cv := by
    have := VRel.subst hs2 _ hcv
    rwa [hvv] at this
  refine ⟨_, _, _, G2, cv, ⟨rfl, rfl, rfl⟩, rfl, hle2, ?_, hv2, hk⟩
  have h1 := hH.world (w' := w') (fun r hr => (hlo r hr).2) hk.size
  have hgrp : ∀ e ∈ H, e.grp < nx := fun e he => by
    obtain ⟨_, _, _, _, h6⟩ := hH.ent e he
    exact Nat.lt_of_not_le h6
  refine ⟨fun r o hr => ?_, fun e he => ?_, fun e e' he he' hne l1 l2 h3 h4 => ?_, fun u hu => ?_, fun e e' he he' hid => ?_, fun e he l1 h3 => ?_, h1.sz, fun r hr => ?_⟩
  · simp only [G2, G1, Ghost.put] at hr
    split at hr
    · exact h1.ro r o hr
    · split at hr
      · cases hr
      · exact hr
  · rcases List.mem_cons.1 he with rfl | he
    · refine ⟨l, hnew, hb2, ?_, by simp⟩
      simp [G2, G1, Ghost.put, hlb]
    · obtain ⟨l3, h3, h4, h5, h6⟩ := h1.ent e he
      obtain ⟨l4, h7, h8, _⟩ := hH.ent e he
      rw [h3] at h7; cases h7
      refine ⟨l3, by rw [hιe e he]; exact h3, h4.mono hle2, ?_, fun x => h6 (Nat.le_of_succ_le x)⟩
      simp only [G2, G1, Ghost.put, h8.lt, if_true]; exact h5
  · have old : ∀ e ∈ H, ∀ l1, G2.ι e.id = some l1 → l1.b < w.heap.size := fun e he l1 hl => by
      rw [hιe e he] at hl
      obtain ⟨l4, h7, h8, _⟩ := hH.ent e he
      rw [hl] at h7; cases h7
      exact h8.lt
    rcases List.mem_cons.1 he with rfl | he <;> rcases List.mem_cons.1 he' with rfl | he'
    · exact absurd rfl hne
    · rw [hnew] at h3; cases h3
      exact fun x => hlb (x ▸ old e' he' l2 h4)
    · rw [hnew] at h4; cases h4
      exact fun x => hlb (x ▸ old e he l1 h3)
    · rw [hιe e he] at h3; rw [hιe e' he'] at h4
      exact hH.sep e e' he he' hne l1 l2 h3 h4
  · have : u ≠ nx := by omega
    simp only [G2, Ghost.put, this, if_false]
    exact hH.fresh u (by omega)
  · rcases List.mem_cons.1 he with rfl | he <;> rcases List.mem_cons.1 he' with rfl | he'
    · rfl
    · exact absurd hid.symm (hput e' he')
    · exact absurd hid (hput e he)
    · exact hH.uniq e e' he he' hid
  · rcases List.mem_cons.1 he with rfl | he
    · rw [hnew] at h3; cases h3
      exact fun x => hlb (hH.sz _ x)
    · rw [hιe e he] at h3; exact hH.own e he l1 h3
  · have hr' := hH.sz r hr
    refine ⟨?_, (h1.lo r hr).2⟩
    simp only [G2, G1, Ghost.put, hr', if_true]; exact (h1.lo r hr).1



theorem Cor.loopC {P : Program} {y : Ghost → Prop} {b : Nat} {x : AC} {K : Post} {α : Type} (S : α → AState) (I : α → Prop) (μ : α → Nat)
    (step : ∀ a, I a → Cor P y b x (eThen (fun s' => ∃ a', I a' ∧ μ a' < μ a ∧ Wkn b s' (S a')) K) (S a)) {a : α} (h0 : I a) {s : AState} (hw : Wkn b s (S a)) : Cor P y b (.loop x) K s := fun c hc => by
  obtain ⟨d, rfl, hd⟩ := compC_loop hc
  exact Awp.loop S I μ (fun a ha => step a ha d hd) h0 hw

theorem compC_block {P : Program} {c : Code} {id : Nat} {x : AC} (h : compC P c = some (.block id x)) : ∃ d, c = .block id d ∧ compC P d = some x := by
  cases c with
  | block i d =>
    simp only [compC, Option.map_eq_some_iff] at h
    obtain ⟨x1, h1, h3⟩ := h
    cases h3
    exact ⟨d, rfl, h1⟩
  | region id ops dr =>
    simp only [compC] at h
    split at h
    · cases h
    · split at h
      · split at h <;> cases h
      · cases h
  | seq d e =>
    simp only [compC, Option.bind_eq_some_iff, Option.map_eq_some_iff] at h
    obtain ⟨_, _, _, _, h⟩ := h
    cases h
  | cond c d e =>
    simp only [compC, Option.bind_eq_some_iff, Option.map_eq_some_iff] at h
    obtain ⟨_, _, _, _, _, _, h⟩ := h
    cases h
  | rangeFunc g ps d e =>
    simp only [compC, Option.bind_eq_some_iff, Option.map_eq_some_iff] at h
    obtain ⟨_, _, _, _, _, _, h⟩ := h
    cases h
  | _ => simp [compC] at h
theorem Cor.block {P : Program} {y : Ghost → Prop} {b : Nat} {id : Nat} {x : AC} {K : Post} {s : AState} (h : Cor P y b x (eBlk id K) s) : Cor P y b (.block id x) K s := fun c hc => by
  obtain ⟨d, rfl, hd⟩ := compC_block hc
  exact Awp.block (h d hd)

theorem unw_R {P : Program} {cs : Ctx} {hx : HCtx} {b : Nat} (st : List Fr) (K : Post) (e : Exit) (s : AState) : unw P cs hx b st K e s = R P cs hx b e st K s := rfl
/-- blocks of numbers below b, which name no others -/
def Low (b : Nat) (H : List HEnt) : Prop := ∀ e ∈ H, (e.id < b ∧ e.grp < b) ∧ ∀ φ : Nat → Fate, (∀ t, t < b → φ t = .as t) → e.blk.sub φ = e.blk
theorem fate_low (k : Wk) (hp : List HEnt) (t : Nat) (h : t < k.b) : k.fate hp t = .as t := if_pos h
theorem hp_low {k : Wk} {φ : Nat → Fate} : ∀ {H : List HEnt}, Low k.b H → (∀ t, t < k.b → φ t = .as t) → k.hp φ H = H
  | [], _, _ => rfl
  | e :: r, h, hφ => by
    have h1 := h e (by simp)
    rw [Wk.hp, if_pos h1.1.1, h1.2 φ hφ, hp_low (fun e he => h e (by simp [he])) hφ]
theorem hp_own {k : Wk} {φ : Nat → Fate} (hr : k.ren = []) : ∀ {A H : List HEnt}, (∀ e ∈ A, k.b ≤ e.id ∧ k.b ≤ e.grp) → k.hp φ (A ++ H) = k.hp φ H
  | [], _, _ => rfl
  | e :: r, H, h => by
    have h1 := h e (by simp)
    rw [List.cons_append, Wk.hp, if_neg (by omega)]
    split
    · exact hp_own hr fun e he => h e (by simp [he])
    · rw [hr]; exact hp_own hr fun e he => h e (by simp [he])
theorem ok_low (b : Nat) (frz keep : List Nat) {A H : List HEnt} (hA : ∀ e ∈ A, b ≤ e.id ∧ b ≤ e.grp) (hH : Low b H) : (⟨b, [], frz, b, keep⟩ : Wk).ok (idg (A ++ H)) = true := by
  simp only [Wk.ok, Nat.le_refl, decide_true, List.all_nil, List.map_nil, nodupN, Bool.and_self, Bool.true_and, List.all_eq_true]
  intro p hp
  obtain ⟨e, he, rfl⟩ := List.mem_map.1 hp
  rcases List.mem_append.1 he with he | he
  · have := hA e he
    have h1 : ¬ e.id < b := by omega
    simp [Wk.isK, h1, assoc]
  · have h1 := (hH e he).1
    simp only [Wk.isK, h1.1, decide_true, Bool.true_or, Bool.not_true, Bool.false_or, h1.2, Bool.or_true, Bool.true_or, Bool.and_true, Bool.true_and, List.all_eq_true]
    intro q hq
    obtain ⟨e', he', rfl⟩ := List.mem_map.1 hq
    rcases List.mem_append.1 he' with he' | he'
    · have := hA e' he'
      have h2 : ¬ e'.grp = e.grp := by omega
      simp [h2]
    · have h2 := (hH e' he').1
      simp [Wk.isF, h2.1]
theorem Wkn.ofle (k : Wk) {b : Nat} (hb : b ≤ k.b) {s : AState} (hk : k.ok (idg s.hp) = true) : Wkn b s (k.st s) := fun E hE G a w hs => by
  have hko := Wk.ok_iff hk
  obtain ⟨h1, h2⟩ := wk_sound hko hs.hp
  refine ⟨k.ghost s.hp G w, keepT_sound h1 _ 0 hs.tm, h2, hs.df.ro (wk_ro hs.hp), ⟨⟨fun t l ht => ?_, fun r o hr => wk_ro hs.hp _ _ (hs.le.ro _ _ hr)⟩, hs.le.an⟩, hs.kp⟩
  have hlt : t < k.b := Nat.lt_of_not_le fun x => by rw [E.nw t (Nat.le_trans (hE ▸ hb) x)] at ht; cases ht
  simp only [Wk.ghost, hlt, if_true]
  exact hs.le.ι t l ht
theorem Wkn.lowle {b0 b : Nat} (hb : b0 ≤ b) {A H : List HEnt} {tm tm2 : List AV} {nx : Nat} (frz keep : List Nat) (hA : ∀ e ∈ A, b ≤ e.id ∧ b ≤ e.grp) (hH : Low b H) (ht : keepT keep ((⟨b, [], frz, b, keep⟩ : Wk).fate (A ++ H)) 0 tm = tm2) :
    Wkn b0 ⟨tm, A ++ H, nx⟩ ⟨tm2, H, b⟩ := by
  have h := Wkn.ofle ⟨b, [], frz, b, keep⟩ hb (s := ⟨tm, A ++ H, nx⟩) (ok_low b frz keep hA hH)
  simp only [Wk.st] at h
  rw [ht, hp_own (k := ⟨b, [], frz, b, keep⟩) (Eq.refl _) hA, hp_low (k := ⟨b, [], frz, b, keep⟩) hH (fun t ht => fate_low _ _ t ht)] at h
  exact h
theorem Wkn.low {b : Nat} {A H : List HEnt} {tm tm2 : List AV} {nx : Nat} (frz keep : List Nat) (hA : ∀ e ∈ A, b ≤ e.id ∧ b ≤ e.grp) (hH : Low b H) (ht : keepT keep ((⟨b, [], frz, b, keep⟩ : Wk).fate (A ++ H)) 0 tm = tm2) :
    Wkn b ⟨tm, A ++ H, nx⟩ ⟨tm2, H, b⟩ := by
  refine Wkn.to ⟨b, [], frz, b, keep⟩ (Eq.refl _) (ok_low b frz keep hA hH) ?_
  simp only [Wk.st]
  rw [ht, hp_own (k := ⟨b, [], frz, b, keep⟩) (Eq.refl _) hA, hp_low (k := ⟨b, [], frz, b, keep⟩) hH]
  intro t ht
  exact if_pos ht

/-- blocks apart from each other -/
def Dj (O : Nat → List HEnt) (hp : List HEnt) : Prop := ∀ j, ∀ e ∈ O j, ∀ e' ∈ hp, e'.grp ≠ e.grp ∧ e'.id ≠ e.id
/-- the calls of yield, one after the other, until one says false; the iterator's own blocks are O j at the j-th one -/
def DrvO (O : Nat → List HEnt) (Fin : List HEnt → Nat → Prop) (hx : HCtx) (t : Nat) : Nat → List HEnt → Nat → List (List AV) → Prop
  | j, hp, N, [] => Dj O hp ∧ ∀ m, m ≤ N → Fin (O j ++ hp) m
  | j, hp, N, v :: vs => Dj O hp ∧ ∃ b hp' N', hx 987654321 (.yield t :: v) (O j ++ hp) N = some (.bool b, O j ++ hp', N') ∧ (b = true → DrvO O Fin hx t (j + 1) hp' (N' + 1) vs) ∧ (b = false → Dj O hp' ∧ Fin (O j ++ hp') N')
def SeqO (P : Program) (f : Nat) (first cap : List AV) (O : Nat → List HEnt) (seq : List (List AV)) : Prop :=
  ∀ (hx : HCtx) (t N : Nat) (hp : List HEnt) (Fin : List HEnt → Nat → Prop), t < N → (∀ g vals h n, (g = 987654321) = False → hx g vals h n = none) → DrvO O Fin hx t 0 hp N seq →
    LOkY (YH P hx) P f (first ++ [.yield t] ++ cap) (O 0 ++ hp) N fun v h n => Fin h n

section
variable {P : Program} {cs : Ctx} {hx : HCtx} (hcs : Good P cs) (hh : HGood P hx) (hm : P.follows .mixedOrders = true) (hn : ∀ t vals hp nx, hx yld (.yield t :: vals) hp nx = none)
include hcs hh hm hn
/-- THE LOOP OVER A FUNCTION that keeps a state: at the head of round j the heap is O j and J a. -/
theorem Cor.rangeO {y : Ghost → Prop} {b : Nat} {g : Opd} {ps : List Nat} {x z : AC} {K : Post} {tm : List AV} {hp : List HEnt} {t : Nat} {f : Nat} {first cap : List AV} {seq : List (List AV)} {β : Type} (O : Nat → List HEnt) (J : β → List HEnt) (Nn Mn : Nat → β → Nat) (Me : Nat) (st : β → List AV → β × Jk) (Iv : Nat → β → Prop) {x0 : β}
    (hg : evO tm g = .fn f first cap) (hseq : SeqO P f first cap O seq) (hp0 : ∀ e ∈ O 0 ++ J x0, e ∈ hp) (hO : ∀ j j', (O j).length = (O j').length) (hfo : ∀ j, ∀ e ∈ O j, e.grp ≠ t ∧ e.id ≠ t) (hdj : ∀ a, Dj O (J a)) (hN0 : Nn 0 x0 = t + 1) (hNM : ∀ j a, Nn (j + 1) a = Mn j a + 1) (hMe : ∀ j a, j ≤ seq.length → Nn j a ≤ Me) (h0 : Iv 0 x0)
    (hJ : ∀ a b, J a = J b → a = b) (hMj : ∀ j j' a v, Iv j a → Iv j' a → O j = O j' → Nn j a = Nn j' a → Mn j (st a v).1 = Mn j' (st a v).1) (hfree : ∀ a, ∀ e ∈ J a, e.grp ≠ t) (hlx : x.noLp = true) (hlz : z.noLp = true) (hlen : ∀ v ∈ seq, v.length = ps.length)
    (hstep : ∀ j v a, seq[j]? = some v → Iv j a → (st a v).2 = .nx → Iv (j + 1) (st a v).1)
    (hround : ∀ j v a, seq[j]? = some v → Iv j a → RoundOk P cs hx (Nn j a) (Mn j (st a v).1) t x z ps tm (O j ++ J a) (O j ++ J (st a v).1) v (st a v).2)
    (hend : K (foldS st x0 seq).2.exit ⟨tm, J (foldS st x0 seq).1, Me⟩) : Cor P y b (.rf g ps x z) K ⟨tm, hp, t⟩ := by
  intro c hc
  obtain ⟨g', ps', c1, c2, rfl, hg', rfl, h1, h2⟩ := compC_rf hc
  intro r n E hE hr hyy G a w hs
  obtain rfl := hr rfl
  refine wpIn_rangeFunc (fun fn _ => ?_)
  obtain ⟨hH1, hle1⟩ := hs.hp.lay (.deferred (some []))
  let rc : Loop := { state := .ready, pending := none, fn, tmps := a.tmps, params := ps', assign := c1, body := c2, defers := w.heap.size }
  have erec : recO rc .nx = .loop rc := rfl
  have hH2 := hH1.allocO t (Nat.le_refl t) (.loop rc)
  have hle2 := Ghost.le_put (G := G.lay w.heap.size (.deferred (some []))) (l := ⟨(w.alloc (.deferred (some []))).heap.size, 1, 0⟩) (hH1.fresh t (Nat.le_refl t))
  have hle := hle1.trans hle2
  have hι : ((G.lay w.heap.size (.deferred (some []))).put t ⟨(w.alloc (.deferred (some []))).heap.size, 1, 0⟩).ι t = some ⟨(w.alloc (.deferred (some []))).heap.size, 1, 0⟩ := by simp [Ghost.put]
  have hro : ((G.lay w.heap.size (.deferred (some []))).put t ⟨(w.alloc (.deferred (some []))).heap.size, 1, 0⟩).ro w.heap.size = some (.deferred (some [])) := by simp [Ghost.put, Ghost.lay]
  generalize hG2 : (G.lay w.heap.size (.deferred (some []))).put t ⟨(w.alloc (.deferred (some []))).heap.size, 1, 0⟩ = G2 at *
  have hH3 : HRel G2 (· ∈ O 0 ++ (⟨t, t, .obj (recO rc .nx)⟩ :: J x0)) (t + 1 ≤ ·) ((w.alloc (.deferred (some []))).alloc (.loop rc)) := by
    refine hH2.sub (fun e he => ?_) (fun u hu => ⟨by show t ≤ u; omega, by omega⟩)
    rcases List.mem_append.1 he with he | he
    · exact .inl (hp0 e (List.mem_append.2 (.inl he)))
    · rcases List.mem_cons.1 he with rfl | he
      · exact .inr rfl
      · exact .inl (hp0 e (List.mem_append.2 (.inr he)))
  have hsz : (w.alloc (.deferred (some []))).heap.size = w.heap.size + 1 := World.size_alloc ..
  rw [hsz] at hι
  have hkp : Keeps w ((w.alloc (.deferred (some []))).alloc (.loop rc)) := ⟨rfl, rfl, rfl, by rw [World.size_alloc, World.size_alloc]; omega⟩
  generalize hw2 : (w.alloc (.deferred (some []))).alloc (.loop rc) = w2 at *
  -- yield
  let R : List AV → List HEnt → Nat → AV × List HEnt × Nat → Prop := fun vals h m res => ∃ j v a, vals = .yield t :: v ∧ seq[j]? = some v ∧ Iv j a ∧ h = O j ++ (⟨t, t, .obj (recO rc .nx)⟩ :: J a) ∧ m = Nn j a ∧
    res = (.bool (st a v).2.cont, O j ++ (⟨t, t, .obj (recO rc (st a v).2)⟩ :: J (st a v).1), Mn j (st a v).1)
  have htm2 : VRels G2 tm a.tmps.toList := VRels.mono hle _ hs.tm
  have hY : YH P (orc R) G2 := by
    intro t' vals h m v h' m' hv
    obtain ⟨j, vv, aa, e1, hj, hI, rfl, rfl, e2⟩ := orc_inv hv
    simp only [List.cons.injEq, AV.yield.injEq] at e1
    obtain ⟨rfl, rfl⟩ := e1
    simp only [Prod.mk.injEq] at e2
    obtain ⟨rfl, rfl, rfl⟩ := e2
    intro n' G3 w3 cvals l hle3 hH hl hcv
    have hll := hle3.ι _ _ hι
    obtain ⟨l', hl1, hl2, _⟩ := hH.ent ⟨t', t', .obj (recO rc .nx)⟩ (List.mem_append.2 (.inr (List.mem_cons_self ..)))
    simp only at hl1
    rw [hl] at hl1; cases hl1
    have hsz2 : cvals.toArray.size = rc.params.size := by
      rw [List.size_toArray, hcv.length, hlen _ (List.mem_of_getElem? hj), Array.length_toList]
    refine ⟨_, _, _, _, run_yield hl2 hsz2, ?_⟩
    have hH' := hH.sub (M' := (· ∈ ⟨t', t', .obj (recO rc .nx)⟩ :: (O j ++ J aa))) (fr' := (Nn j aa ≤ ·)) (fun e he => by
      rcases List.mem_cons.1 he with rfl | he
      · exact List.mem_append.2 (.inr (List.mem_cons_self ..))
      · rcases List.mem_append.1 he with he | he
        · exact List.mem_append.2 (.inl he)
        · exact List.mem_append.2 (.inr (List.mem_cons_of_mem _ he))) (fun _ h => h)
    have hfr : ∀ e ∈ O j ++ J (st aa vals).1, e.grp ≠ t' := fun e he => by
      rcases List.mem_append.1 he with he | he
      · exact (hfo j e he).1
      · exact hfree _ e he
    have := round_sound (n := n') hcs hh hm hn hlx hlz hfr (hround j vals aa hj hI) h1 h2 (r := rc) rfl rfl hl (VRels.mono hle3 _ htm2) hcv hH' (f := rc.fn)
    have ez : (rc.params.zip cvals.toArray).foldl (fun tmps (x : Nat × Value) => tmps.setIfInBounds x.1 x.2) rc.tmps = (ps'.toList.zip cvals).foldl (fun (tm : Array Value) (x : Nat × Value) => tm.setIfInBounds x.1 x.2) a.tmps := by
      rw [← Array.foldl_toList, Array.toList_zip]
    have e3 : ((rc.params.zip cvals.toArray).foldl (fun tmps (t, a) => tmps.setIfInBounds t a) rc.tmps) = (ps'.toList.zip cvals).foldl (fun (tm : Array Value) (x : Nat × Value) => tm.setIfInBounds x.1 x.2) a.tmps := ez
    rw [e3]
    refine this.mono fun e w4 => ?_
    rintro ⟨v0, hp0', nx0, G4, cv, ⟨rfl, rfl, rfl⟩, e2, e3, e4, e5, e6⟩
    refine ⟨_, _, _, G4, cv, ⟨rfl, rfl, rfl⟩, e2, e3, e4.sub (fun e he => ?_) (fun _ h => h), e5, e6⟩
    rcases List.mem_append.1 he with he | he
    · exact List.mem_cons_of_mem _ (List.mem_append.2 (.inl he))
    · rcases List.mem_cons.1 he with rfl | he
      · exact List.mem_cons_self ..
      · exact List.mem_cons_of_mem _ (List.mem_append.2 (.inr he))
  let Fin : List HEnt → Nat → Prop := fun h n => ∃ jf, h = O jf ++ (⟨t, t, .obj (recO rc (foldS st x0 seq).2)⟩ :: J (foldS st x0 seq).1) ∧ n ≤ Me
  have hdjt : ∀ a o, Dj O (⟨t, t, .obj o⟩ :: J a) := fun a o j e he e' he' => by
    rcases List.mem_cons.1 he' with rfl | he'
    · exact ⟨fun h => (hfo j e he).1 h.symm, fun h => (hfo j e he).2 h.symm⟩
    · exact hdj a j e he e' he'
  have hdrv : ∀ vs j aa, j ≤ seq.length → seq.drop j = vs → Iv j aa → foldS st aa vs = foldS st x0 seq → DrvO O Fin (orc R) t j (⟨t, t, .obj (recO rc .nx)⟩ :: J aa) (Nn j aa) vs := by
    intro vs
    induction vs with
    | nil =>
      intro j aa hjl _ _ hfs
      rw [foldS_nil] at hfs
      refine ⟨hdjt _ _, fun m hm => ⟨j, ?_, Nat.le_trans hm (hMe _ _ hjl)⟩⟩
      rw [← hfs]
    | cons v vs ih =>
      intro j aa hjl hd hI hfs
      have hj : seq[j]? = some v := by
        have := List.getElem?_drop (xs := seq) (i := j) (j := 0)
        rw [hd] at this
        simpa using this.symm
      have hd' : seq.drop (j + 1) = vs := by
        rw [← List.drop_drop, hd]; rfl
      refine ⟨hdjt _ _, (st aa v).2.cont, ⟨t, t, .obj (recO rc (st aa v).2)⟩ :: J (st aa v).1, Mn j (st aa v).1, orc_some ⟨j, v, aa, rfl, hj, hI, rfl, rfl, rfl⟩ ?_, fun hc => ?_, fun hc => ?_⟩
      · rintro res ⟨j', v', a', e1, _, hI', e2, en, rfl⟩
        simp only [List.cons.injEq, true_and] at e1
        subst e1
        obtain ⟨e3, e4⟩ := List.append_inj e2 (hO _ _)
        simp only [List.cons.injEq, true_and] at e4
        have e5 := hJ _ _ e4
        subst e5
        rw [e3, hMj _ _ _ _ hI hI' e3 en]
      · have hnx : (st aa v).2 = .nx := by
          cases hst : (st aa v).2 <;> simp [hst, Jk.cont] at hc ⊢
        rw [foldS_cons, if_pos hc] at hfs
        rw [hnx, ← hNM]
        exact ih (j + 1) (st aa v).1 (List.getElem?_eq_some_iff.1 hj).1 hd' (hstep j v aa hj hI hnx) hfs
      · rw [foldS_cons, if_neg (by rw [hc]; simp)] at hfs
        refine ⟨hdjt _ _, j, ?_, ?_⟩
        · rw [← hfs]
        · have := hMe (j + 1) (st aa v).1 (List.getElem?_eq_some_iff.1 hj).1
          rw [hNM] at this
          omega
  have hdr := hdrv seq 0 x0 (Nat.zero_le _) rfl h0 rfl
  rw [hN0] at hdr
  have hok := hseq (orc R) t (t + 1) _ Fin (by omega) (fun g vals h n hg => orc_ne g vals h n hg) hdr
  have hgv := opd_sound hs.tm hg'
  rw [hg] at hgv
  have hgv := VRel.mono hle _ hgv
  simp only [VRel] at hgv
  obtain ⟨cf, cc, hcf, hcc, hfn⟩ := hgv
  have hargs : VRels G2 (first ++ [.yield t] ++ cap) (cf ++ [Value.func (.yield (w.heap.size + 1)) #[] #[]] ++ cc) := by
    refine (hcf.append ?_).append hcc
    simp only [VRels, VRel]
    exact ⟨_, [], rfl, ⟨_, hι, rfl⟩, rfl⟩
  refine ⟨w.heap.size + 1, [mark w.heap.size], w2, { target := .fn (.func f) cc.toArray, args := cf.toArray ++ #[Value.func (.yield (w.heap.size + 1)) #[] #[]] }, w2, f, (cf ++ [Value.func (.yield (w.heap.size + 1)) #[] #[]] ++ cc).toArray, w2, ?_, ?_, fun _ _ => trivial, ?_, fun h => by simp [FW, Fence.wide] at h, ?_⟩
  · rw [← hw2]
    exact run_enterLoop_outer fn a.tmps ps' c1 c2
  · have e5 : resolve a.eval (rangeCall g' (w.heap.size + 1)) 0 = Deferred.ofValue (a.eval g') #[Value.func (.yield (w.heap.size + 1)) #[] #[]] := by
      simp [resolve, Act.eval]
    rw [e5, hfn]
    simp [Deferred.ofValue]
  · have := hok.1 (cf ++ [Value.func (.yield (w.heap.size + 1)) #[] #[]] ++ cc).toArray w2
    simpa [invoke] using this
  · refine callsIn_FW ((hok.2 G2 w2 _ hY hH3 hargs).mono ?_)
    rintro e w3 ⟨v, hp', nx', G', cv, ⟨jf0, rfl, hnxe⟩, rfl, hle3, hH0', hcv, hk⟩
    have hH' := hH0'.sub (M' := (· ∈ ⟨t, t, .obj (recO rc (foldS st x0 seq).2)⟩ :: J (foldS st x0 seq).1)) (fr' := (Me ≤ ·)) (fun e he => List.mem_append.2 (.inr he)) (fun _ h => Nat.le_trans hnxe h)
    generalize hfd : foldS st x0 seq = xf at *
    obtain ⟨xf, jf⟩ := xf
    have hι3 := hle3.ι _ _ hι
    obtain ⟨hH4, hl4⟩ := hH'.turn (t := t) (o := recO rc jf) (by simp [getE]) hι3 (.loop { ({ rc with state := if jf.cont then .ready else .done, pending := jf.code } : Loop) with state := .exhausted })
    have hnb : ({ rc with state := if jf.cont then .ready else .done, pending := jf.code } : Loop).state ≠ .busy := by
      cases jf <;> simp [Jk.cont]
    refine ⟨_, _, run_endLoop hl4 hnb, ?_⟩
    have hset : setB (⟨t, t, .obj (recO rc jf)⟩ :: J xf) t t (.obj (.loop { ({ rc with state := if jf.cont then .ready else .done, pending := jf.code } : Loop) with state := .exhausted })) = ⟨t, t, .obj (.loop { ({ rc with state := if jf.cont then .ready else .done, pending := jf.code } : Loop) with state := .exhausted })⟩ :: J xf := by
      rw [sb_eq, setB_free (hfree xf)]
    simp only at hH4
    erw [hset] at hH4
    have hS : SRel E G' ⟨tm, J xf, Me⟩ { a with defers := [mark w.heap.size] ++ a.defers } (w3.putObj (w.heap.size + 1) (.loop { ({ rc with state := if jf.cont then .ready else .done, pending := jf.code } : Loop) with state := .exhausted })) := by
      refine ⟨VRels.mono (hle.trans hle3) _ hs.tm, hH4.sub (fun e he => List.mem_cons_of_mem _ he) (fun _ h => h), ?_, hs.le.trans (hle.trans hle3), (hs.kp.trans (hkp.trans hk)).trans ⟨rfl, rfl, rfl, by rw [World.putObj_size]; exact Nat.le_refl _⟩⟩
      obtain ⟨pre, hp1, hp2, hp3⟩ := hs.df
      refine ⟨w.heap.size :: pre, by rw [hp1]; rfl, List.nodup_cons.2 ⟨fun hmem => ?_, hp2⟩, fun D hD => ?_⟩
      · have := hs.hp.ro _ _ (hp3 _ hmem).1
        simp at this
      · rcases List.mem_cons.1 hD with rfl | hD
        · exact ⟨hle3.ro _ _ hro, hs.kp.size⟩
        · exact ⟨hle3.ro _ _ (hle.ro _ _ (hp3 D hD).1), (hp3 D hD).2⟩
    cases jf with
    | nx => exact ⟨_, G', hend, hS⟩
    | ret => exact wpIn_ret ⟨_, G', hend, hS⟩
    | ex id => exact wpIn_exit ⟨_, G', hend, hS⟩
end
end Eng

namespace Eng
open Go Go.RowKit
set_option linter.unusedSimpArgs false
set_option linter.unusedVariables false

section
variable {P : Program} {E : Env} {r : Option Nat} {n : Nat} {Q : Exit → Act → World → Prop} {cs : Ctx}

theorem drawn_soundM (hcs : Good P cs) {ops : Array Oper} {aops : List AOper} {ms : List Nat} {m : Nat} (hmn : m ≤ ops.size) (hsuf : ∀ k, m ≤ k → k < ops.size → ∀ i, i < m → (ms.getD k 0).testBit i = true) (hms : ms = masks ops.toList []) (hc : ∀ k : Nat, k < m → ∀ o, ops[k]? = some o → ∃ ao, aops[k]? = some ao ∧ compO P ops.toList o = some ao ∧ ao.dst = o.dst)
    (hlen : aops.length = m) (hback : ∀ j o, ops[j]? = some o → ∀ e ∈ edges o, e < j)
    (st : Nat → AState) (v : Nat → AV) (f : Nat → Eff) (c : Nat → Bool)
    (hout : ∀ (k : Nat) (ao : AOper), aops[k]? = some ao → outOp cs ao (st k) = some (v k, f k, c k) ∧ st (k + 1) = after (st k) ao.dst (v k) (f k) (c k))
    (hind : ∀ (i j : Nat) (x y : AOper), i < j → aops[i]? = some x → aops[j]? = some y → (ms.getD j 0).testBit i = false → sIndep x y = true ∧ indep (fpO x (st i)) (fpO y (st j)) = true)
    {G : Ghost} {a : Act} {w : World} (h : SRel E G (st 0) a w)
    (hQ : ∀ (G' : Ghost) (a' : Act) (w' : World) (listed : Array Bool), SRel E G' (st m) a' w' → listed.size = ops.size → (∀ j, j < ops.size → listed.getD j false = decide (j < m)) → wpAnyIn (FW r) n P .any ops Q (ops.size - m) listed a' w') :
    wpAnyIn (FW r) n P .any ops Q ops.size (Array.replicate ops.size false) a w := by
  -- numbers rise
  have hnext : ∀ k, k < m → (st (k + 1)).next = if c k then (st k).next + 1 else (st k).next := fun k hk => by
    obtain ⟨ao, h1⟩ : ∃ ao, aops[k]? = some ao := ⟨aops[k], List.getElem?_eq_getElem (by omega)⟩
    rw [(hout k ao h1).2]; rfl
  have hmono : ∀ i k, i ≤ k → k ≤ m → (st i).next ≤ (st k).next := by
    intro i k hik
    induction k with
    | zero => intro _; have : i = 0 := by omega
              rw [this]; exact Nat.le_refl _
    | succ k ih =>
      intro hk
      by_cases hi : i = k + 1
      · rw [hi]; exact Nat.le_refl _
      · have := ih (by omega) (by omega)
        have := hnext k (by omega)
        split at this <;> omega
  -- groups are told by numbers below
  have hgrp : ∀ k, k ≤ m → ∀ e ∈ (st k).hp, e.grp < (st k).next := by
    intro k
    induction k with
    | zero => intro _ e he; obtain ⟨_, _, _, _, h4⟩ := h.hp.ent e he; show e.grp < (st 0).next; have : ¬ (st 0).next ≤ e.grp := h4; omega
    | succ k ih =>
      intro hk e he
      have ih := ih (by omega)
      obtain ⟨ao, h1⟩ : ∃ ao, aops[k]? = some ao := ⟨aops[k], List.getElem?_eq_getElem (by omega)⟩
      obtain ⟨h2, h3⟩ := hout k ao h1
      have hle := hmono k (k + 1) (by omega) hk
      rw [h3] at he
      have he' := mem_applyE (f := f k) he
      have hn := hnext k (by omega)
      rcases out_wG h2 with ⟨hw, _⟩ | ⟨_, hck, heff⟩
      · cases hf : f k <;> rw [hf] at he' hw <;> simp [wG] at hw
        have := ih e he'; omega
      · obtain ⟨s1, s2, s3⟩ := effOp_shape heff
        rw [hck, if_pos rfl] at hn
        cases hf : f k with
        | no => rw [hf] at he'; have := ih e he'; omega
        | new x =>
          rw [hf] at he'
          rcases he' with he' | rfl
          · have := ih e he'; omega
          · have := s1 _ hf; omega
        | set t g κ =>
          rw [hf] at he'
          rcases he' with he' | rfl
          · have := ih e he'.1; omega
          · obtain ⟨e', h5, h6⟩ := s2 _ _ _ hf
            have := ih e' (getE_mem h5).1
            show g < _; omega
        | ext t g x =>
          rw [hf] at he'
          obtain ⟨h7, e', h5, h6⟩ := s3 _ _ _ hf
          rcases he' with he' | rfl
          · have := ih e he'.1; omega
          · have := ih e' (getE_mem h5).1
            omega
  -- the text's own states
  have hall : Nat → Bool := fun _ => true
  have htm : ∀ k, k ≤ m → (st k).tm = tmS aops st v (fun _ => true) k := by
    intro k
    induction k with
    | zero => intro _; rfl
    | succ k ih =>
      intro hk
      obtain ⟨ao, h1⟩ : ∃ ao, aops[k]? = some ao := ⟨aops[k], List.getElem?_eq_getElem (by omega)⟩
      rw [(hout k ao h1).2]
      simp only [after, tmS, if_true, dstOf, h1, Option.bind_some, ← ih (by omega)]
      cases ao.dst <;> rfl
  have hhp : ∀ k, k ≤ m → ∀ e ∈ (st k).hp, e ∈ hS st f (fun _ => true) e.grp k := by
    intro k
    induction k with
    | zero => intro _ e he; simp only [hS]; exact List.mem_filter.2 ⟨he, by simp⟩
    | succ k ih =>
      intro hk e he
      obtain ⟨ao, h1⟩ : ∃ ao, aops[k]? = some ao := ⟨aops[k], List.getElem?_eq_getElem (by omega)⟩
      obtain ⟨h2, h3⟩ := hout k ao h1
      rw [h3] at he
      have he' := mem_applyE (f := f k) he
      simp only [hS, if_true]
      rcases out_wG h2 with ⟨hw, _⟩ | ⟨_, hck, heff⟩
      · cases hf : f k <;> rw [hf] at he' hw <;> simp [wG] at hw
        exact ih (by omega) e he'
      · obtain ⟨s1, s2, s3⟩ := effOp_shape heff
        cases hf : f k with
        | no => rw [hf] at he'; exact ih (by omega) e he'
        | new x =>
          rw [hf] at he'
          simp only [actG]
          rcases he' with he' | rfl
          · have h4 := hgrp k (by omega) e he'
            have h5 := s1 _ hf
            rw [if_neg (by omega)]; exact ih (by omega) e he'
          · simp
        | set t g κ =>
          rw [hf] at he'
          simp only [actG]
          rcases he' with he' | rfl
          · rw [if_neg (fun e => he'.2 e.symm)]; exact ih (by omega) e he'.1
          · simp
        | ext t g x =>
          rw [hf] at he'
          obtain ⟨h7, _⟩ := s3 _ _ _ hf
          simp only [actG]
          rcases he' with he' | rfl
          · split
            · rename_i hg
              refine List.mem_append_left _ (List.mem_filter.2 ⟨ih (by omega) e he'.1, ?_⟩)
              have := he'.2.resolve_left (fun x => x hg.symm)
              simpa using this
            · exact ih (by omega) e he'.1
          · rw [if_pos h7.symm]; simp
  -- the state when the operations of S have run
  let M (S : Nat → Bool) : HEnt → Prop := fun e => e ∈ hS st f S e.grp m
  let fr (S : Nat → Bool) : Nat → Prop := fun t => (st 0).next ≤ t ∧ ∀ j, j < m → S j = true → c j = true → t ≠ (st j).next
  have closed : ∀ (S : Nat → Bool), (∀ (k : Nat) (o : Oper), ops[k]? = some o → S k = true → ∀ e ∈ edges o, S e = true) → ∀ j i, (ms.getD j 0).testBit i = true → S j = true → S i = true := by
    intro S hS
    rw [hms]
    exact masks_closed (S := fun k => S k = true) (all := ops.toList) (by simp) (fun k o ho => hS k o (by rw [← Array.getElem?_toList]; exact ho)) (by simp)
  have fin : ∀ (G : Ghost) (a : Act) (w : World), VRels G (tmS aops st v (fun _ => true) m) a.tmps.toList → HRel G (M fun _ => true) (fr fun _ => true) w → Dfr E G a.defers → E.G.le G → Keeps E.w w → ∀ listed : Array Bool, listed.size = ops.size → (∀ j, j < ops.size → listed.getD j false = decide (j < m)) → wpAnyIn (FW r) n P .any ops Q (ops.size - m) listed a w := by
    intro G a w h1 h2 h3 h4 h5 listed hls hll
    refine hQ G a w listed ⟨by rw [htm _ (Nat.le_refl _)]; exact h1, h2.sub (fun e he => hhp _ (Nat.le_refl _) e he) fun t ht => ?_, h3, h4, h5⟩ hls hll
    have ht : (st m).next ≤ t := ht
    refine ⟨Nat.le_trans (hmono 0 _ (Nat.zero_le _) (Nat.le_refl _)) ht, fun j hj _ hcj => ?_⟩
    have h6 := hnext j hj
    rw [hcj, if_pos rfl] at h6
    have := hmono (j + 1) m hj (Nat.le_refl _)
    omega
  -- by how many are left
  have cntm : ∀ N, m ≤ N → ((List.range N).filter fun j => !decide (j < m)).length = N - m := by
    intro N
    induction N with
    | zero => intro h; simp
    | succ N ih =>
      intro h
      rw [List.range_succ, List.filter_append, List.length_append]
      by_cases hN : m ≤ N
      · rw [ih hN]
        have : ¬ N < m := by omega
        simp [this]; omega
      · have e : m = N + 1 := by omega
        have : ((List.range N).filter fun j => !decide (j < m)) = [] := by
          rw [List.filter_eq_nil_iff]
          intro j hj
          simp only [List.mem_range] at hj
          have : j < m := by omega
          simp [this]
        rw [this]
        have : N < m := by omega
        simp [this]; omega
  have done : ∀ (fuel : Nat) (listed : Array Bool) (G : Ghost) (a : Act) (w : World), listed.size = ops.size → ((List.range ops.size).filter fun i => !listed.getD i true).length = fuel → (∀ k, m ≤ k → listed.getD k false = false) → (∀ i, i < m → listed.getD i false = true) →
      VRels G (tmS aops st v (fun i => listed.getD i false) m) a.tmps.toList → HRel G (M fun i => listed.getD i false) (fr fun i => listed.getD i false) w → Dfr E G a.defers → E.G.le G → Keeps E.w w →
      wpAnyIn (FW r) n P .any ops Q fuel listed a w := by
      intro fuel listed G a w hsz hun hlo hlist h1 h2 h3 h4 h5
      have hll : ∀ j, j < ops.size → listed.getD j false = decide (j < m) := by
        intro j hj
        by_cases hjm : j < m
        · rw [hlist j hjm]; simp [hjm]
        · rw [hlo j (by omega)]; simp [hjm]
      have hfu : fuel = ops.size - m := by
        rw [← hun, ← cntm ops.size hmn]
        congr 1
        apply List.filter_congr
        intro j hj
        simp only [List.mem_range] at hj
        have := hll j hj
        rw [Array.getD_eq_getD_getElem?, Array.getElem?_eq_getElem (by omega)] at this ⊢
        simp only [Option.getD_some] at this ⊢
        rw [this]
      have e1 : tmS aops st v (fun i => listed.getD i false) m = tmS aops st v (fun _ => true) m := by
        have : ∀ k, k ≤ m → tmS aops st v (fun i => listed.getD i false) k = tmS aops st v (fun _ => true) k := by
          intro k
          induction k with
          | zero => intro _; rfl
          | succ k ih => intro hk; simp only [tmS, ih (by omega), hlist k (by omega), if_true]
        exact this _ (Nat.le_refl _)
      rw [e1] at h1
      rw [hfu]
      refine fin G a w h1 (h2.sub (fun e he => ?_) fun t ht => ?_) h3 h4 h5 listed hsz hll
      · show e ∈ hS st f _ e.grp m
        rw [hS_get st f (S' := fun _ => true) fun j hj hne => absurd (hlist j hj) hne]
        exact he
      · exact ⟨ht.1, fun j hj _ hcj => ht.2 j hj rfl hcj⟩
  have main : ∀ (fuel : Nat) (listed : Array Bool) (G : Ghost) (a : Act) (w : World), listed.size = ops.size → ((List.range ops.size).filter fun i => !listed.getD i true).length = fuel → (∀ k, m ≤ k → listed.getD k false = false) →
      (∀ (k : Nat) (o : Oper), ops[k]? = some o → listed.getD k false = true → ∀ e ∈ edges o, listed.getD e false = true) →
      VRels G (tmS aops st v (fun i => listed.getD i false) m) a.tmps.toList → HRel G (M fun i => listed.getD i false) (fr fun i => listed.getD i false) w → Dfr E G a.defers → E.G.le G → Keeps E.w w →
      wpAnyIn (FW r) n P .any ops Q fuel listed a w := by
    intro fuel
    induction fuel with
    | zero =>
      intro listed G a w hsz hun hlo hcl h1 h2 h3 h4 h5
      refine done _ listed G a w hsz hun hlo (fun i hi => ?_) h1 h2 h3 h4 h5
      have hnil := List.eq_nil_of_length_eq_zero hun
      have : ¬ (i ∈ (List.range ops.size).filter fun i => !listed.getD i true) := by rw [hnil]; simp
      simp only [List.mem_filter, List.mem_range, show i < ops.size by omega, true_and, Bool.not_eq_true', Bool.not_eq_false] at this
      rw [Array.getD_eq_getD_getElem?, Array.getElem?_eq_getElem (by omega)] at this ⊢
      exact this
    | succ fuel ih =>
      intro listed G a w hsz hun hlo hcl h1 h2 h3 h4 h5
      by_cases hall : ∀ i, i < m → listed.getD i false = true
      · exact done _ listed G a w hsz hun hlo hall h1 h2 h3 h4 h5
      refine ⟨fun hready => ?_, fun i hi => ?_⟩
      · -- the first that is not listed is ready
        exfalso
        have hne : ((List.range ops.size).filter fun i => !listed.getD i true) ≠ [] := fun e => by rw [e] at hun; cases hun
        have hex : ∃ i, i < ops.size ∧ listed.getD i true = false := by
          obtain ⟨i, hi⟩ := List.exists_mem_of_ne_nil _ hne
          simp only [List.mem_filter, List.mem_range, Bool.not_eq_true'] at hi
          exact ⟨i, hi⟩
        -- the least such
        have least : ∀ z, (∃ i, i < z ∧ i < ops.size ∧ listed.getD i true = false) → ∃ i, i < ops.size ∧ listed.getD i true = false ∧ ∀ j, j < i → listed.getD j true = true := by
          intro z
          induction z with
          | zero => rintro ⟨i, hi, _⟩; omega
          | succ z ih =>
            rintro ⟨i, hi, h6, h7⟩
            by_cases hx : ∃ i, i < z ∧ i < ops.size ∧ listed.getD i true = false
            · exact ih hx
            · refine ⟨i, h6, h7, fun j hj => ?_⟩
              cases hv : listed.getD j true with
              | true => rfl
              | false => exact absurd ⟨j, by omega, by omega, hv⟩ hx
        obtain ⟨i, h6, h7⟩ := hex
        obtain ⟨i, hi1, hi2, hi3⟩ := least (i + 1) ⟨i, by omega, h6, h7⟩
        have hmem : i ∈ Region.ready .any ops listed := by
          unfold Region.ready
          simp only [List.mem_filter, List.mem_range]
          refine ⟨hi1, ?_⟩
          rw [hi2]
          obtain ⟨o, ho⟩ : ∃ o, ops[i]? = some o := ⟨ops[i], Array.getElem?_eq_getElem hi1⟩
          simp only [ho, Option.map_some, Option.getD_some, Bool.not_false, Bool.true_and, Array.all_eq_true', Bool.or_eq_true, Bool.not_eq_true']
          intro e he
          by_cases hb : Region.binds .any e = true
          · right
            have hlt := hback i o ho e.on (List.mem_filterMap.2 ⟨e, by simpa using he, by simp [hb]⟩)
            have := hi3 e.on hlt
            rw [Array.getD_eq_getD_getElem?, Array.getElem?_eq_getElem (by omega)] at this ⊢
            exact this
          · left; simpa using hb
        rw [hready] at hmem
        simp at hmem
      · -- an operation whose turn comes
        have hi' := hi
        unfold Region.ready at hi
        simp only [List.mem_filter, List.mem_range, Bool.and_eq_true, Bool.not_eq_true'] at hi
        obtain ⟨hiN0, hnl, hdeps⟩ := hi
        obtain ⟨o, ho⟩ : ∃ o, ops[i]? = some o := ⟨ops[i], Array.getElem?_eq_getElem hiN0⟩
        have hSi : listed.getD i false = false := by
          rw [Array.getD_eq_getD_getElem?, Array.getElem?_eq_getElem (by omega)] at hnl ⊢
          exact hnl
        have hedge : ∀ e ∈ edges o, listed.getD e false = true := by
          intro e he
          simp only [ho, Option.map_some, Option.getD_some, Array.all_eq_true', Bool.or_eq_true, Bool.not_eq_true'] at hdeps
          obtain ⟨x, hx, hxe⟩ := List.mem_filterMap.1 he
          have := hdeps x (by simpa using hx)
          split at hxe
          · rename_i hb
            cases hxe
            exact this.resolve_left (by rw [hb]; simp)
          · cases hxe
        have hiN : i < m := by
          refine Nat.lt_of_not_le fun hmi => hall fun j hj => ?_
          have hb := hsuf i hmi hiN0 j hj
          have hcl2 : ∀ (k : Nat) (o' : Oper), ops[k]? = some o' → (listed.getD k false || decide (k = i)) = true → ∀ e ∈ edges o', (listed.getD e false || decide (e = i)) = true := by
            intro k o' ho' hk e he
            simp only [Bool.or_eq_true, decide_eq_true_eq] at hk ⊢
            rcases hk with hk | rfl
            · exact .inl (hcl k o' ho' hk e he)
            · rw [ho] at ho'; cases ho'; exact .inl (hedge e he)
          have := closed (fun k => listed.getD k false || decide (k = i)) hcl2 i j hb (by simp)
          simp only [Bool.or_eq_true, decide_eq_true_eq] at this
          rcases this with this | this
          · exact this
          · omega
        obtain ⟨ao, hao, hco, hdst⟩ := hc i hiN o ho
        obtain ⟨ho1, ho2⟩ := hout i ao hao
        have hclosed := closed (fun i => listed.getD i false) hcl
        -- others that have run before their turn, or have not though earlier in the text: no order between
        have other : ∀ (j : Nat) (y : AOper), j < m → aops[j]? = some y → (j < i ∧ listed.getD j false = false) ∨ (i < j ∧ listed.getD j false = true) →
            (∀ d, y.dst = some d → d ∉ slotsR ao) ∧ (∀ d, ao.dst = some d → y.dst ≠ some d) ∧ (∀ g, wG (f j) = some g → g ∉ (fpO ao (st i)).1) ∧ (∀ g, wG (f i) = some g → wG (f j) ≠ some g) := by
          intro j y hj hy hcase
          have hwj := out_wG (hout j y hy).1
          have hwi := out_wG ho1
          rcases hcase with ⟨hlt, hnj⟩ | ⟨hlt, hlj⟩
          · -- j earlier, not listed: not an ancestor, for i's edges are listed
            have hb : (ms.getD i 0).testBit j = false := by
              cases hb : (ms.getD i 0).testBit j with
              | false => rfl
              | true =>
                have hcl2 : ∀ (k : Nat) (o' : Oper), ops[k]? = some o' → (listed.getD k false || decide (k = i)) = true → ∀ e ∈ edges o', (listed.getD e false || decide (e = i)) = true := by
                  intro k o' ho' hk e he
                  simp only [Bool.or_eq_true, decide_eq_true_eq] at hk ⊢
                  rcases hk with hk | rfl
                  · exact .inl (hcl k o' ho' hk e he)
                  · rw [ho] at ho'; cases ho'; exact .inl (hedge e he)
                have := closed (fun k => listed.getD k false || decide (k = i)) hcl2 i j hb (by simp)
                simp only [Bool.or_eq_true, decide_eq_true_eq] at this
                rcases this with this | this
                · rw [hnj] at this; cases this
                · omega
            obtain ⟨h6, h7⟩ := hind j i y ao hlt hy hao hb
            simp only [sIndep, Bool.and_eq_true] at h6
            simp only [indep, Bool.and_eq_true] at h7
            refine ⟨fun d hd => ?_, fun d hd => ?_, fun g hg => ?_, fun g hg => ?_⟩
            · have := h6.1; simp only [hd, Bool.and_eq_true, Bool.not_eq_true', List.contains_iff_mem, ← Bool.not_eq_true] at this; simpa using this.1
            · intro e; have := h6.1; simp [e, hd] at this
            · rcases hwj with ⟨hwj, _⟩ | ⟨hwj, _⟩
              · rw [hwj] at hg; cases hg
              · have := h7.1; rw [hwj, hg] at this; simp at this; simpa using this.1
            · intro e
              rcases hwj with ⟨hwj, _⟩ | ⟨hwj, _⟩
              · rw [hwj] at e; cases e
              · rcases hwi with ⟨hwi, _⟩ | ⟨hwi, _⟩
                · rw [hwi] at hg; cases hg
                · have := h7.1; rw [hwj, e, hwi, hg] at this; simp at this
          · -- j later, listed: i is not its ancestor
            have hb : (ms.getD j 0).testBit i = false := by
              cases hb : (ms.getD j 0).testBit i with
              | false => rfl
              | true => have := hclosed j i hb hlj; rw [hSi] at this; cases this
            obtain ⟨h6, h7⟩ := hind i j ao y hlt hao hy hb
            simp only [sIndep, Bool.and_eq_true] at h6
            simp only [indep, Bool.and_eq_true] at h7
            refine ⟨fun d hd => ?_, fun d hd => ?_, fun g hg => ?_, fun g hg => ?_⟩
            · have := h6.2; simp only [hd, Bool.not_eq_true', ← Bool.not_eq_true, List.contains_iff_mem] at this; exact this
            · intro e; have := h6.1; simp [e, hd] at this
            · rcases hwj with ⟨hwj, _⟩ | ⟨hwj, _⟩
              · rw [hwj] at hg; cases hg
              · have := h7.2; rw [hwj, hg] at this; simpa using this
            · intro e
              rcases hwj with ⟨hwj, _⟩ | ⟨hwj, _⟩
              · rw [hwj] at e; cases e
              · rcases hwi with ⟨hwi, _⟩ | ⟨hwi, _⟩
                · rw [hwi] at hg; cases hg
                · have := h7.1; rw [hwi, hg, hwj, e] at this; simp at this
        have dstj : ∀ j d, j < m → dstOf aops j = some d → ∃ y, aops[j]? = some y ∧ y.dst = some d := fun j d hj h => by
          simp only [dstOf, Option.bind_eq_some_iff] at h
          exact h
        have opj : ∀ j, j < m → ∃ y, aops[j]? = some y := fun j hj => ⟨aops[j], List.getElem?_eq_getElem (by omega)⟩
        -- slots as in the text
        have below : ∀ k, k ≤ m → i ≤ k → tmS aops st v (fun j => decide (j < i)) k = (st i).tm := by
          intro k hk hik
          induction k with
          | zero => have : i = 0 := by omega
                    rw [this]; rfl
          | succ k ih' =>
            by_cases hki : i = k + 1
            · rw [htm i (by omega), hki]
              have : ∀ m, m ≤ k + 1 → tmS aops st v (fun j => decide (j < k + 1)) m = tmS aops st v (fun _ => true) m := by
                intro m
                induction m with
                | zero => intro _; rfl
                | succ m ihm => intro hm; have : m < k + 1 := by omega
                                simp only [tmS, ihm (by omega), this, decide_true]
              exact this _ (Nat.le_refl _)
            · have hlt : ¬ k < i := by omega
              simp only [tmS, hlt, decide_false, Bool.false_eq_true, if_false]
              exact ih' (by omega) (by omega)
        have hslot : ∀ x ∈ slotsR ao, getT (tmS aops st v (fun i => listed.getD i false) m) x = getT (st i).tm x := by
          intro x hx
          rw [← below m (Nat.le_refl _) (by omega)]
          refine tmS_get aops st v fun j hj hne hd => ?_
          obtain ⟨y, hy, hyd⟩ := dstj j x hj hd
          by_cases hji : j = i
          · subst hji; simp [hSi] at hne
          · by_cases hlt : j < i
            · have : listed.getD j false = false := by simpa [hlt] using hne
              exact (other j y hj hy (.inl ⟨hlt, this⟩)).1 x hyd hx
            · have : listed.getD j false = true := by simpa [hlt] using hne
              exact (other j y hj hy (.inr ⟨by omega, this⟩)).1 x hyd hx
        have hev : evs (tmS aops st v (fun i => listed.getD i false) m) ao.xs = evs (st i).tm ao.xs := evs_same fun x hx => hslot x (List.mem_append_left _ hx)
        have hgd : ∀ g want, ao.guard = some (g, want) → getT (tmS aops st v (fun i => listed.getD i false) m) g = getT (st i).tm g := fun g want hg => hslot g (List.mem_append_right _ (by rw [hg]; simp))
        -- blocks as in the text
        have hrd : ∀ t ∈ tids ao.op (evs (st i).tm ao.xs), ∀ e, getE (st i).hp t = some e → (M fun i => listed.getD i false) e := by
          intro t ht e he
          have hg : e.grp ∈ (fpO ao (st i)).1 := List.mem_filterMap.2 ⟨t, ht, by rw [he]; rfl⟩
          have h6 := hhp i (by omega) e (getE_mem he).1
          show e ∈ hS st f _ e.grp m
          have e1 : hS st f (fun _ => true) e.grp i = hS st f (fun j => decide (j < i)) e.grp i := hS_get st f fun j hj hne => by simp [hj] at hne
          have e2 : hS st f (fun j => decide (j < i)) e.grp m = hS st f (fun j => decide (j < i)) e.grp i := hS_from st f (by omega) fun j h7 _ h8 => by simp at h8; omega
          have e3 : hS st f (fun i => listed.getD i false) e.grp m = hS st f (fun j => decide (j < i)) e.grp m := hS_get st f fun j hj hne hw => by
            obtain ⟨y, hy⟩ := opj j hj
            by_cases hji : j = i
            · subst hji; simp [hSi] at hne
            · by_cases hlt : j < i
              · have : listed.getD j false = false := by simpa [hlt] using hne
                exact (other j y hj hy (.inl ⟨hlt, this⟩)).2.2.1 _ hw hg
              · have : listed.getD j false = true := by simpa [hlt] using hne
                exact (other j y hj hy (.inr ⟨by omega, this⟩)).2.2.1 _ hw hg
          rw [e3, e2, ← e1]; exact h6
        have hid : c i = true → (fr fun i => listed.getD i false) (st i).next := by
          intro hci
          refine ⟨hmono 0 i (Nat.zero_le _) (by omega), fun j hj hlj hcj e => ?_⟩
          have hji : j ≠ i := fun x => by subst x; simp [hSi] at hlj
          have h6 := hnext j hj
          rw [hcj, if_pos rfl] at h6
          have h7 := hnext i hiN
          rw [hci, if_pos rfl] at h7
          rcases Nat.lt_or_gt_of_ne hji with hlt | hgt
          · have := hmono (j + 1) i hlt (by omega); omega
          · have := hmono (i + 1) j hgt (by omega); omega
        have hstep := out_sound (r := r) (n := n) (o := o) (Q := Q) (K := wpAnyIn (FW r) n P .any ops Q fuel (listed.setIfInBounds i true)) hcs hco ho1 h1 hev hgd h2 hrd hid ?_
        · show wpOpIn (FW r) n P ops Q i _ a w
          unfold wpOpIn
          simp only [ho]
          exact hstep
        · intro G' cv w' hle hcv hH hk
          have hset : ∀ j, (listed.setIfInBounds i true).getD j false = (listed.getD j false || decide (j = i)) := by
            intro j
            rw [Array.getD_eq_getD_getElem?, Array.getD_eq_getD_getElem?, Array.getElem?_setIfInBounds]
            by_cases hji : i = j
            · subst hji
              rw [if_pos rfl, if_pos (by omega)]
              simp
            · have : j ≠ i := fun e => hji e.symm
              rw [if_neg hji]; simp [this]
          have hsetT : (fun j => (listed.setIfInBounds i true).getD j false) = fun j => listed.getD j false || decide (j = i) := funext hset
          refine ih (listed.setIfInBounds i true) G' _ w' (by simp [hsz]) ?_ (fun k hk => by rw [hset, hlo k hk]; have : k ≠ i := (by omega); simp [this]) ?_ ?_ ?_ (by rw [put_df]; exact h3.mono hle) (h4.trans hle) (h5.trans hk)
          · -- one fewer
            have hcount : ∀ (l : List Nat), l.Nodup → i ∈ l → (∀ x ∈ l, x < ops.size) → (l.filter fun j => !(listed.setIfInBounds i true).getD j true).length + 1 = (l.filter fun j => !listed.getD j true).length := by
              have gd : ∀ j, j < ops.size → (listed.setIfInBounds i true).getD j true = (listed.getD j true || decide (j = i)) := by
                intro j hj
                have := hset j
                rw [Array.getD_eq_getD_getElem?, Array.getD_eq_getD_getElem?, Array.getElem?_eq_getElem (by simp; omega), Array.getElem?_eq_getElem (by omega)] at this ⊢
                exact this
              intro l
              induction l with
              | nil => intro _ h; simp at h
              | cons x l ihl =>
                intro hnd hmem hlt
                simp only [List.nodup_cons] at hnd
                have hx := hlt x (by simp)
                by_cases hxi : x = i
                · subst hxi
                  have hsame : (l.filter fun j => !(listed.setIfInBounds x true).getD j true) = l.filter fun j => !listed.getD j true := by
                    apply List.filter_congr
                    intro j hj
                    have hjx : j ≠ x := fun e => hnd.1 (e ▸ hj)
                    rw [gd j (hlt j (by simp [hj]))]; simp [hjx]
                  rw [List.filter_cons, List.filter_cons, hsame, gd x hx]
                  simp [hnl]
                · have hmem' : i ∈ l := by
                    rcases List.mem_cons.1 hmem with e | h
                    · exact absurd e.symm hxi
                    · exact h
                  have := ihl hnd.2 hmem' fun y hy => hlt y (by simp [hy])
                  rw [List.filter_cons, List.filter_cons, gd x hx]
                  simp only [hxi, decide_false, Bool.or_false]
                  split <;> (try simp only [List.length_cons]) <;> omega
            have := hcount (List.range ops.size) List.nodup_range (by simpa using hiN0) (by simp)
            omega
          · intro k o' ho' hk' e he
            rw [hset] at hk' ⊢
            simp only [Bool.or_eq_true, decide_eq_true_eq] at hk' ⊢
            rcases hk' with hk' | rfl
            · exact .inl (hcl k o' ho' hk' e he)
            · rw [ho] at ho'; cases ho'; exact .inl (hedge e he)
          · rw [hsetT, tmS_ins aops st v hSi hiN]
            · have := put_sound (s := ⟨tmS aops st v (fun i => listed.getD i false) m, [], 0⟩) (VRels.mono hle _ h1) hcv o.dst
              simp only [dstOf, hao, Option.bind_some, hdst]
              cases hd : o.dst with
              | none => rw [hd] at this; exact this
              | some d => rw [hd] at this; exact this
            · intro j hij hj hlj d hd hdj
              obtain ⟨y, hy, hyd⟩ := dstj j d hj hdj
              simp only [dstOf, hao, Option.bind_some] at hd
              exact (other j y hj hy (.inr ⟨hij, hlj⟩)).2.1 d hd hyd
          · refine hH.sub (fun e he => ?_) fun t ht => ?_
            · have he : e ∈ hS st f (fun j => (listed.setIfInBounds i true).getD j false) e.grp m := he
              rw [hsetT] at he
              by_cases hw : wG (f i) = some e.grp
              · have e1 : hS st f (fun j => listed.getD j false || decide (j = i)) e.grp m = hS st f (fun j => listed.getD j false || decide (j = i)) e.grp (i + 1) := hS_from st f (by omega) fun j h6 h7 h8 h9 => by
                  have hji : j ≠ i := by omega
                  simp only [hji, decide_false, Bool.or_false] at h8
                  obtain ⟨y, hy⟩ := opj j h7
                  exact (other j y h7 hy (.inr ⟨by omega, h8⟩)).2.2.2 _ hw h9
                have e2 : hS st f (fun j => listed.getD j false || decide (j = i)) e.grp i = hS st f (fun j => listed.getD j false) e.grp i := hS_get st f fun j hj hne => by
                  have hji : j ≠ i := by omega
                  simp [hji] at hne
                have e3 : hS st f (fun j => listed.getD j false) e.grp m = hS st f (fun j => listed.getD j false) e.grp i := hS_from st f (by omega) fun j h6 h7 h8 h9 => by
                  have hji : j ≠ i := fun x => by subst x; rw [hSi] at h8; cases h8
                  obtain ⟨y, hy⟩ := opj j h7
                  exact (other j y h7 hy (.inr ⟨by omega, h8⟩)).2.2.2 _ hw h9
                rw [e1] at he
                simp only [hS, decide_true, Bool.or_true, if_true, e2, ← e3] at he
                cases hf : f i with
                | no => rw [hf] at hw; cases hw
                | new x =>
                  rw [hf] at he hw
                  simp only [wG, Option.some.injEq] at hw
                  simp only [actG, hw, if_true, List.mem_singleton] at he
                  exact .inr he
                | set t g κ =>
                  rw [hf] at he hw
                  simp only [wG, Option.some.injEq] at hw
                  simp only [actG, hw, if_true, List.mem_singleton] at he
                  right; rw [he, hw]
                | ext t g x =>
                  rw [hf] at he hw
                  simp only [wG, Option.some.injEq] at hw
                  simp only [actG, hw, if_true, List.mem_append, List.mem_filter, List.mem_singleton] at he
                  rcases he with ⟨he, hid⟩ | he
                  · exact .inl ⟨he, .inr (by simpa using hid)⟩
                  · exact .inr he
              · have e1 : hS st f (fun j => listed.getD j false || decide (j = i)) e.grp m = hS st f (fun j => listed.getD j false) e.grp m := hS_get st f fun j hj hne => by
                  by_cases hji : j = i
                  · subst hji; exact hw
                  · simp [hji] at hne
                rw [e1] at he
                cases hf : f i with
                | no => exact he
                | new x => exact .inl he
                | set t g κ => rw [hf] at hw; exact .inl ⟨he, fun x => hw (by simp [wG, x])⟩
                | ext t g x => rw [hf] at hw; exact .inl ⟨he, .inl fun x => hw (by simp [wG, x])⟩
            · refine ⟨⟨ht.1, fun j hj hlj hcj => ht.2 j hj ?_ hcj⟩, fun hci => ht.2 i hiN ?_ hci⟩
              · show (listed.setIfInBounds i true).getD j false = true
                rw [hset]; simp [hlj]
              · show (listed.setIfInBounds i true).getD i false = true
                rw [hset]; simp
  -- at the start nothing has run
  have hrep : ∀ j d, (Array.replicate ops.size false).getD j d = if j < ops.size then false else d := by
    intro j d
    rw [Array.getD_eq_getD_getElem?, Array.getElem?_replicate]
    split <;> rfl
  have hS0 : (fun j => (Array.replicate ops.size false).getD j false) = fun _ => false := by
    funext j; rw [hrep]; split <;> rfl
  have htm0 : ∀ k, tmS aops st v (fun _ => false) k = (st 0).tm := by
    intro k
    induction k with
    | zero => rfl
    | succ k ih => simp only [tmS, Bool.false_eq_true, if_false, ih]
  have hh0 : ∀ g k, hS st f (fun _ => false) g k = (st 0).hp.filter (·.grp = g) := by
    intro g k
    induction k with
    | zero => rfl
    | succ k ih => simp only [hS, Bool.false_eq_true, if_false, ih]
  refine main ops.size (Array.replicate ops.size false) G a w (by simp) ?_ (fun k hk => by rw [hrep]; split <;> rfl) ?_ ?_ ?_ h.df h.le h.kp
  · have : ((List.range ops.size).filter fun i => !(Array.replicate ops.size false).getD i true) = List.range ops.size := by
      rw [List.filter_eq_self]
      intro i hi
      simp only [List.mem_range] at hi
      rw [hrep, if_pos hi]; rfl
    rw [this, List.length_range]
  · intro k o ho hk
    rw [hrep] at hk
    split at hk <;> cases hk
  · rw [hS0, htm0]; exact h.tm
  · rw [hS0]
    refine h.hp.sub (fun e he => ?_) fun t ht => ht.1
    have he : e ∈ hS st f (fun _ => false) e.grp m := he
    rw [hh0] at he
    exact (List.mem_filter.1 he).1

end

/-! ### a call with effects behind a guard -/
def stepHg (cs : Ctx) (hx : HCtx) (o : AOper) (s : AState) : Option AState := match o.guard with
  | none => stepH cs hx o s
  | some gw => match gbool gw.2 (getT s.tm gw.1), target o.op (evs s.tm o.xs) with
    | some true, some t => orStep cs o s (hx t.1 t.2 s.hp s.next)
    | _, _ => step cs o s
def runHg (cs : Ctx) (hx : HCtx) : List AOper → AState → Option AState
  | [], s => some s
  | o :: os, s => obind (stepHg cs hx o s) (runHg cs hx os)

section
variable {P : Program} {E : Env} {r : Option Nat} {n : Nat} {Q : Exit → Act → World → Prop} {cs : Ctx} {hx : HCtx} {G : Ghost} {a : Act} {w : World} {s s' : AState} {o : Oper} {K : Act → World → Prop}

theorem stepHg_sound (hcs : Good P cs) (hh : HGood P hx) (hy : YHr P hx r E.G) {ops : Array Oper} {ao : AOper} (hc : compO P ops.toList o = some ao) (hs : stepHg cs hx ao s = some s') (h : SRel E G s a w)
    (hK : ∀ (G' : Ghost) (a' : Act) (w' : World), SRel E G' s' a' w' → K a' w') :
    if Region.wanted o (yielded ops a.tmps) then o.wpIn (FW r) n P a w K Q else (∀ f, o.about P w a.eval = some f → (FW r).fn f) ∧ K (a.put o.dst undef) w := by
  unfold stepHg at hs
  split at hs
  · exact stepH_sound hcs hh hy hc hs h hK
  · rename_i gw hgw
    split at hs
    · rename_i t hb ht
      obtain ⟨f, args⟩ := t
      unfold orStep at hs
      split at hs
      · rename_i res hr
        obtain ⟨v, hp', nx'⟩ := res
        simp only [Option.some.injEq] at hs
        subst hs
        have hc' := hc
        unfold compO at hc'
        simp only [Option.bind_eq_some_iff, Option.map_eq_some_iff] at hc'
        obtain ⟨⟨op, xs⟩, hA, ys, hys, g, hg', rfl⟩ := hc'
        cases hgd : o.guard with
        | none =>
          rw [hgd] at hg'
          simp only [compG, Option.some.injEq] at hg'
          subst hg'
          cases hgw
        | some p =>
          obtain ⟨j, want⟩ := p
          simp only [hgd, compG, Option.map_eq_some_iff] at hg'
          obtain ⟨d, hd, rfl⟩ := hg'
          simp only [Option.some.injEq] at hgw
          subst hgw
          have hw := wanted_some (a := a) hgd hd h.tm hb
          rw [hw, if_pos rfl]
          exact call_sound (r := r) (n := n) (Q := Q) (o := o) hh hy (compA_inv hA) rfl hys ht hr h hK
      · exact step_sound (r := r) (n := n) (Q := Q) hcs hc hs h hK
    · exact step_sound (r := r) (n := n) (Q := Q) hcs hc hs h hK

/-- the operations from the k-th on come one after the other -/
theorem any_suf (hcs : Good P cs) (hh : HGood P hx) (hy : YHr P hx r E.G) {ops : Array Oper} {m : Nat} (hback : ∀ j o, ops[j]? = some o → ∀ e ∈ edges o, e < j)
    (hsuf : ∀ k, m ≤ k → k < ops.size → ∀ i, i < k → ((masks ops.toList []).getD k 0).testBit i = true) :
    ∀ (d k : Nat) (listed : Array Bool) (aops : List AOper) (s s' : AState) (G : Ghost) (a : Act) (w : World), k + d = ops.size → m ≤ k → listed.size = ops.size → (∀ j, j < ops.size → listed.getD j false = decide (j < k)) →
      aops.length = d → (∀ i o, ops[k + i]? = some o → ∃ ao, aops[i]? = some ao ∧ compO P ops.toList o = some ao) → runHg cs hx aops s = some s' → SRel E G s a w →
      (∀ (G' : Ghost) (a' : Act) (w' : World), SRel E G' s' a' w' → Q .normal a' w') → wpAnyIn (FW r) n P .any ops Q d listed a w := by
  intro d
  induction d with
  | zero =>
    intro k listed aops s s' G a w hkd hmk hsz hl hal hc hs h hQ
    have : aops = [] := List.eq_nil_of_length_eq_zero hal
    subst this
    simp only [runHg, Option.some.injEq] at hs
    subst hs
    refine ⟨?_, hQ G a w h⟩
    unfold Region.ready
    rw [List.filter_eq_nil_iff]
    intro i hi
    simp only [List.mem_range] at hi
    have := hl i hi
    rw [Array.getD_eq_getD_getElem?, Array.getElem?_eq_getElem (by omega)] at this ⊢
    simp only [Option.getD_some] at this ⊢
    have hik : i < k := by omega
    simp [this, hik]
  | succ d ih =>
    intro k listed aops s s' G a w hkd hmk hsz hl hal hc hs h hQ
    have hkn : k < ops.size := by omega
    obtain ⟨o, ho⟩ : ∃ o, ops[k]? = some o := ⟨ops[k], Array.getElem?_eq_getElem hkn⟩
    have hlk : ∀ j, j < ops.size → listed.getD j true = decide (j < k) := by
      intro j hj
      have := hl j hj
      rw [Array.getD_eq_getD_getElem?, Array.getElem?_eq_getElem (by omega)] at this ⊢
      exact this
    have hready : ∀ i, i ∈ Region.ready .any ops listed → i = k := by
      intro i hi
      unfold Region.ready at hi
      simp only [List.mem_filter, List.mem_range, Bool.and_eq_true, Bool.not_eq_true'] at hi
      obtain ⟨hiN, hnl, hdeps⟩ := hi
      rw [hlk i hiN] at hnl
      have hik : k ≤ i := by simp at hnl; exact hnl
      refine Nat.le_antisymm (Nat.le_of_not_lt fun hlt => ?_) hik
      obtain ⟨oi, hoi⟩ : ∃ o, ops[i]? = some o := ⟨ops[i], Array.getElem?_eq_getElem hiN⟩
      have hedge : ∀ e ∈ edges oi, listed.getD e false = true := by
        intro e he
        simp only [hoi, Option.map_some, Option.getD_some, Array.all_eq_true', Bool.or_eq_true, Bool.not_eq_true'] at hdeps
        obtain ⟨x, hx, hxe⟩ := List.mem_filterMap.1 he
        have := hdeps x (by simpa using hx)
        split at hxe
        · rename_i hb
          cases hxe
          exact this.resolve_left (by rw [hb]; simp)
        · cases hxe
      have hS : ∀ (q : Nat) (o' : Oper), ops[q]? = some o' → (listed.getD q false || decide (q = i)) = true → ∀ e ∈ edges o', (listed.getD e false || decide (e = i)) = true := by
        intro q o' ho' hq e he
        simp only [Bool.or_eq_true, decide_eq_true_eq] at hq ⊢
        rcases hq with hq | rfl
        · have hqN : q < ops.size := (Array.getElem?_eq_some_iff.1 ho').1
          rw [hl q hqN] at hq
          have hqk : q < k := by simpa using hq
          have heq := hback q o' ho' e he
          rw [hl e (by omega)]
          have : e < k := by omega
          exact .inl (by simp [this])
        · rw [hoi] at ho'; cases ho'; exact .inl (hedge e he)
      have := masks_closed (S := fun q => (listed.getD q false || decide (q = i)) = true) (all := ops.toList) (by simp) (fun q o ho => hS q o (by rw [← Array.getElem?_toList]; exact ho)) (by simp) i k (hsuf i (by omega) hiN k hlt) (by simp)
      simp only [Bool.or_eq_true, decide_eq_true_eq] at this
      rcases this with this | this
      · rw [hl k hkn] at this; simp at this
      · omega
    have hmem : k ∈ Region.ready .any ops listed := by
      unfold Region.ready
      simp only [List.mem_filter, List.mem_range]
      refine ⟨hkn, ?_⟩
      rw [hlk k hkn]
      simp only [ho, Option.map_some, Option.getD_some, Bool.true_and, Array.all_eq_true', Bool.or_eq_true, Bool.not_eq_true', Nat.lt_irrefl, decide_false, Bool.not_false]
      intro e he
      by_cases hb : Region.binds .any e = true
      · right
        have hlt := hback k o ho e.on (List.mem_filterMap.2 ⟨e, by simpa using he, by simp [hb]⟩)
        rw [hl e.on (by omega)]
        simp [hlt]
      · left; simpa using hb
    refine ⟨fun he => by rw [he] at hmem; simp at hmem, fun i hi => ?_⟩
    obtain rfl := hready i hi
    obtain ⟨ao, h1, h2⟩ := hc 0 o (by rw [Nat.add_zero]; exact ho)
    cases aops with
    | nil => simp at hal
    | cons ao' rest =>
      simp only [List.getElem?_cons_zero, Option.some.injEq] at h1
      subst h1
      simp only [runHg] at hs
      cases hst : stepHg cs hx ao' s with
      | none => rw [hst] at hs; cases hs
      | some s1 =>
        rw [hst] at hs
        simp only [obind, Option.bind_some] at hs
        show wpOpIn (FW r) n P ops Q i _ a w
        unfold wpOpIn
        simp only [ho]
        refine stepHg_sound hcs hh hy h2 hst h fun G' a' w' h' => ?_
        refine ih (i + 1) (listed.setIfInBounds i true) rest s1 s' G' a' w' (by omega) (by omega) (by simp [hsz]) (fun j hj => ?_) (by simpa using hal) (fun q o' hq => ?_) hs h' hQ
        · rw [Array.getD_eq_getD_getElem?, Array.getElem?_setIfInBounds]
          have := hl j hj
          rw [Array.getD_eq_getD_getElem?] at this
          by_cases hij : i = j
          · subst hij
            rw [if_pos rfl, if_pos (by omega)]
            have : i < i + 1 := by omega
            simp [this]
          · rw [if_neg hij, this]
            congr 1
            simp only [eq_iff_iff]; omega
        · obtain ⟨ao2, h3, h4⟩ := hc (q + 1) o' (by rw [show i + (q + 1) = i + 1 + q by omega]; exact hq)
          rw [List.getElem?_cons_succ] at h3
          exact ⟨ao2, h3, h4⟩
end

/-! ### the region, split -/
/-- from the m-th on each operation comes after all others before it -/
def sufD (m : Nat) (ops : List Oper) : Bool := (List.range ops.length).all fun k => decide (k < m) || (List.range k).all fun i => ((masks ops []).getD k 0).testBit i

section
variable {P : Program} {E : Env} {r : Option Nat} {n : Nat} {Q : Exit → Act → World → Prop} {cs : Ctx} {hx : HCtx} {G : Ghost} {a : Act} {w : World} {s s1 s2 s' : AState}
theorem region_drawnS (hcs : Good P cs) (hh : HGood P hx) (hy : YHr P hx r E.G) (hm : P.follows .mixedOrders = true) {id : Nat} {ops : Array Oper} {aops : List AOper} {m : Nat} (hmn : m ≤ ops.size) (hsd : sufD m ops.toList = true) (hc : compL P ops.toList ops.toList = some aops)
    (hok : okD ops.toList (masks ops.toList []) aops = true) (hs1 : runD cs (aops.take m) ((pairsOf (masks ops.toList []) aops).filter fun p => decide (p.2 < m)) s = some s1) (hwk : ∀ G a w, SRel E G s1 a w → ∃ G', SRel E G' s2 a w) (hs2 : runHg cs hx (aops.drop m) s2 = some s') (h : SRel E G s a w)
    (hQ : ∀ (G' : Ghost) (a' : Act) (w' : World), SRel E G' s' a' w' → Q .normal a' w') : (Code.region id ops true).wpIn (FW r) n P Q a w := by
  refine wpIn_region_any hm ?_
  obtain ⟨hl, hc⟩ := compL_get hc
  have hl : aops.length = ops.size := by rw [hl, Array.length_toList]
  have htk : ∀ k, k < m → (aops.take m)[k]? = aops[k]? := fun k hk => by rw [List.getElem?_take, if_pos hk]
  have htk' : ∀ (k : Nat) (x : AOper), (aops.take m)[k]? = some x → k < m ∧ aops[k]? = some x := fun k x hx => by
    have hk : k < m := by
      have := (List.getElem?_eq_some_iff.1 hx).1
      rw [List.length_take] at this; omega
    exact ⟨hk, by rw [← htk k hk]; exact hx⟩
  have hrun : run cs (aops.take m) s = some s1 := by
    unfold runD at hs1
    split at hs1
    · exact hs1
    · simp only [Option.bind_eq_some_iff] at hs1
      obtain ⟨⟨s2, log⟩, h1, h2⟩ := hs1
      split at h2
      · cases h2; exact (runL_run h1).1
      · cases h2
  have hindep : ∀ (i j : Nat) (x y : AOper), i < j → (aops.take m)[i]? = some x → (aops.take m)[j]? = some y → (i, j) ∈ (pairsOf (masks ops.toList []) aops).filter (fun p => decide (p.2 < m)) → indep (fpO x (stAt cs (aops.take m) s i)) (fpO y (stAt cs (aops.take m) s j)) = true := by
    intro i j x y hij hx hy hmm
    unfold runD at hs1
    split at hs1
    · rename_i hnil; rw [hnil] at hmm; simp at hmm
    · simp only [Option.bind_eq_some_iff] at hs1
      obtain ⟨⟨s2, log⟩, h1, h2⟩ := hs1
      split at h2
      · rename_i hall
        have := List.all_eq_true.1 hall (i, j) hmm
        obtain ⟨_, h3, _⟩ := runL_run h1
        have e1 := h3 i x hx
        have e2 := h3 j y hy
        simp only [List.length_nil, Nat.zero_add] at e1 e2
        simpa only [e1, e2] using this
      · cases h2
  obtain ⟨hend, hstep⟩ := stAt_run hrun
  have hlt : (aops.take m).length = m := by rw [List.length_take]; omega
  rw [hlt] at hend
  simp only [okD, List.all_eq_true, List.mem_range, Bool.and_eq_true, Array.length_toList] at hok
  have hout : ∀ (k : Nat) (ao : AOper), (aops.take m)[k]? = some ao → outOp cs ao (stAt cs (aops.take m) s k) = some ((outAt cs (aops.take m) s k).1, (outAt cs (aops.take m) s k).2.1, (outAt cs (aops.take m) s k).2.2) ∧
      stAt cs (aops.take m) s (k + 1) = after (stAt cs (aops.take m) s k) ao.dst (outAt cs (aops.take m) s k).1 (outAt cs (aops.take m) s k).2.1 (outAt cs (aops.take m) s k).2.2 := by
    intro k ao hk
    obtain ⟨v, f, c, h1, h2⟩ := step_out (hstep k ao hk)
    have : outAt cs (aops.take m) s k = (v, f, c) := by simp only [outAt, hk, Option.bind_some, h1, Option.getD_some]
    rw [this]
    exact ⟨h1, h2⟩
  have hback : ∀ j o, ops[j]? = some o → ∀ e ∈ edges o, e < j := by
    intro j o hj e he
    have hjs : j < ops.size := (Array.getElem?_eq_some_iff.1 hj).1
    have := (hok j hjs).1
    rw [Array.getElem?_toList, hj] at this
    simp only [List.all_eq_true, decide_eq_true_eq] at this
    exact this e he
  have hsuf : ∀ k, m ≤ k → k < ops.size → ∀ i, i < k → ((masks ops.toList []).getD k 0).testBit i = true := by
    intro k hmk hk i hi
    unfold sufD at hsd
    simp only [List.all_eq_true, List.mem_range, Bool.or_eq_true, decide_eq_true_eq, Array.length_toList] at hsd
    rcases hsd k hk with h | h
    · omega
    · exact h i hi
  refine drawn_soundM (E := E) (G := G) hcs hmn (fun k h1 h2 i hi => hsuf k h1 h2 i (by omega)) (ms := masks ops.toList []) rfl (fun k hk o ho => ?_) hlt hback (stAt cs (aops.take m) s) (fun k => (outAt cs (aops.take m) s k).1) (fun k => (outAt cs (aops.take m) s k).2.1) (fun k => (outAt cs (aops.take m) s k).2.2) hout (fun i j x y hij hx hy hb => ?_) ?_ (fun G' a' w' listed hS hls hll => ?_)
  · obtain ⟨ao, h1, h2⟩ := hc k o (by rw [Array.getElem?_toList]; exact ho)
    exact ⟨ao, by rw [htk k hk]; exact h1, h2, compO_dst h2⟩
  · obtain ⟨him, hx'⟩ := htk' i x hx
    obtain ⟨hjm, hy'⟩ := htk' j y hy
    have hj : j < ops.size := by omega
    have := (hok j hj).2 i hij
    rw [hb, hx', hy'] at this
    refine ⟨by simpa using this, ?_⟩
    cases hr : relevant x.op y.op with
    | false => exact fp_indep hr
    | true => exact hindep i j x y hij hx hy (List.mem_filter.2 ⟨pairsOf_mem hij hx' hy' hb hr, by simpa using hjm⟩)
  · rw [stAt_zero]
    exact ⟨h.tm, h.hp.world (fun _ _ => rfl) (Nat.le_refl _), h.df, h.le, h.kp.trans ⟨rfl, rfl, rfl, Nat.le_refl _⟩⟩
  · rw [hend] at hS
    obtain ⟨G2, hS⟩ := hwk G' a' w' hS
    refine any_suf hcs hh hy hback hsuf (ops.size - m) m listed (aops.drop m) s2 s' G2 a' w' (by omega) (Nat.le_refl _) hls hll (by rw [List.length_drop, hl]) (fun i o ho => ?_) hs2 hS hQ
    obtain ⟨ao, h1, h2⟩ := hc (m + i) o (by rw [Array.getElem?_toList]; exact ho)
    exact ⟨ao, by rw [List.getElem?_drop]; exact h1, h2⟩
end

/-- every drawn region of n operations is split at m -/
def chkS (n m : Nat) : Code → Bool
  | .region _ ops dr => !dr || decide (ops.size ≠ n) || sufD m ops.toList
  | .seq a b => chkS n m a && chkS n m b
  | .cond _ a b => chkS n m a && chkS n m b
  | .block _ a => chkS n m a
  | .loop a => chkS n m a
  | .rangeFunc _ _ a b => chkS n m a && chkS n m b
  | _ => true
def chkF (P : Program) (f n m : Nat) : Bool := match P.funcs[f]? with
  | some fn => match fn.body with
    | some c => chkS n m c
    | none => false
  | none => false

/-- as Cor, for code whose drawn regions of n operations are split at m -/
def CorS (n m : Nat) (P : Program) (y : Ghost → Prop) (b : Nat) (x : AC) (K : Post) (s : AState) : Prop := ∀ c, compC P c = some x → chkS n m c = true → Awp P false y b c K s
section
variable {P : Program} {y : Ghost → Prop} {b n m : Nat} {K : Post} {s : AState}
theorem CorS.of {x : AC} (h : Cor P y b x K s) : CorS n m P y b x K s := fun c hc _ => h c hc
theorem CorS.seq {x z : AC} (h : CorS n m P y b x (eThen (CorS n m P y b z K) K) s) : CorS n m P y b (.seq x z) K s := fun c hc hk => by
  obtain ⟨c1, c2, rfl, h1, h2⟩ := compC_seq hc
  simp only [chkS, Bool.and_eq_true] at hk
  refine Awp.seq ((h c1 h1 hk.1).mono fun e s' hk' => ?_)
  cases e with
  | normal => exact hk' c2 h2 hk.2
  | _ => exact hk'
theorem CorS.block {id : Nat} {x : AC} (h : CorS n m P y b x (eBlk id K) s) : CorS n m P y b (.block id x) K s := fun c hc hk => by
  obtain ⟨d, rfl, hd⟩ := compC_block hc
  exact Awp.block (h d hd hk)
theorem CorS.loopC {x : AC} {α : Type} (S : α → AState) (I : α → Prop) (μ : α → Nat)
    (step : ∀ a, I a → CorS n m P y b x (eThen (fun s' => ∃ a', I a' ∧ μ a' < μ a ∧ Wkn b s' (S a')) K) (S a)) {a : α} (h0 : I a) (hw : Wkn b s (S a)) : CorS n m P y b (.loop x) K s := fun c hc hk => by
  obtain ⟨d, rfl, hd⟩ := compC_loop hc
  exact Awp.loop S I μ (fun a ha => step a ha d hd hk) h0 hw
theorem CorS.wk {x : AC} {s2 : AState} (hw : Wkn b s s2) (h : CorS n m P y b x K s2) : CorS n m P y b x K s := fun c hc hk => (h c hc hk).wk hw
theorem CorS.post {x : AC} (h : CorS n m P y b x (fun e s' => ∃ s2, Wkn b s' s2 ∧ K e s2) s) : CorS n m P y b x K s := fun c hc hk => (h c hc hk).post
theorem compC_opsD {c : Code} {ps : List (Nat × Nat)} {l : List AOper} (h : compC P c = some (.ops true ps l)) :
    ∃ id ops, c = .region id ops true ∧ compL P ops.toList ops.toList = some l ∧ okD ops.toList (masks ops.toList []) l = true ∧ pairsOf (masks ops.toList []) l = ps := by
  cases c with
  | region id ops dr =>
    simp only [compC] at h
    cases hl : compL P ops.toList ops.toList with
    | none => rw [hl] at h; cases h
    | some l' =>
      rw [hl] at h
      simp only at h
      cases dr with
      | true =>
        simp only [if_true] at h
        split at h
        · rename_i hok
          simp only [Option.some.injEq, AC.ops.injEq, true_and] at h
          obtain ⟨rfl, rfl⟩ := h
          exact ⟨id, ops, rfl, hl, hok, rfl⟩
        · cases h
      | false => simp at h
  | seq d e =>
    simp only [compC, Option.bind_eq_some_iff, Option.map_eq_some_iff] at h
    obtain ⟨_, _, _, _, h⟩ := h
    cases h
  | cond c d e =>
    simp only [compC, Option.bind_eq_some_iff, Option.map_eq_some_iff] at h
    obtain ⟨_, _, _, _, _, _, h⟩ := h
    cases h
  | rangeFunc g ps d e =>
    simp only [compC, Option.bind_eq_some_iff, Option.map_eq_some_iff] at h
    obtain ⟨_, _, _, _, _, _, h⟩ := h
    cases h
  | _ => simp [compC] at h
theorem CorS.opsD {cs : Ctx} {hx : HCtx} (hcs : Good P cs) (hh : HGood P hx) (hm : P.follows .mixedOrders = true) {ps : List (Nat × Nat)} {l : List AOper} (hln : l.length = n) (hmn : m ≤ n)
    (h : okN (fun s1 => ∃ s2, Wkn b s1 s2 ∧ okN (K .normal) (runHg cs hx (l.drop m) s2)) (runD cs (l.take m) (ps.filter fun p => decide (p.2 < m)) s)) : CorS n m P (YH P hx) b (.ops true ps l) K s := fun c hc hk => by
  obtain ⟨id, ops, rfl, h1, h2, rfl⟩ := compC_opsD hc
  have hsz : ops.size = n := by
    have := (compL_get h1).1
    rw [hln, Array.length_toList] at this
    exact this.symm
  have hsd : sufD m ops.toList = true := by
    simp only [chkS, Bool.not_true, Bool.false_or, Bool.or_eq_true, decide_eq_true_eq] at hk
    exact hk.resolve_left fun x => x hsz
  cases hrd : runD cs (l.take m) ((pairsOf (masks ops.toList []) l).filter fun p => decide (p.2 < m)) s with
  | none => rw [hrd] at h; exact h.elim
  | some s1 =>
    rw [hrd] at h
    obtain ⟨s2, hw, h⟩ := h
    cases hr2 : runHg cs hx (l.drop m) s2 with
    | none => rw [hr2] at h; exact h.elim
    | some s' =>
      rw [hr2] at h
      exact fun r n' E hE hr hyy G a w hs => region_drawnS hcs hh (yhr (q := false) (fun e => by cases e) hr hyy) hm (by omega) hsd h1 h2 hrd (fun G a w hs => hw E hE G a w hs) hr2 hs fun G' a' w' h' => ⟨s', G', h, h'⟩
end
theorem FnC.lokS {P : Program} {f n : Nat} {x : AC} {rs : List RV} (h : FnC P f n x rs) {n' m' : Nat} (hck : chkF P f n' m' = true) {y : Ghost → Prop} {args : List AV} {hp : List HEnt} {nx : Nat} {R : AV → List HEnt → Nat → Prop} (hb : CorS n' m' P y nx x (FinL rs R) (bg n args hp nx)) (hy : ∀ G, y G := by intro G; exact YH_no _ G) : LOkE P f args hp nx R := by
  obtain ⟨fn, c, h1, h2, h3, h4, rfl⟩ := h.fn
  unfold chkF at hck
  rw [h1] at hck
  simp only [h2] at hck
  exact LOkY.e (loky_of_awp h.ent h1 h2 h3 (hb c h4 hck)) hy

section
variable {cs : Ctx} {hx : HCtx} {tm : List AV} {hp : List HEnt} {nx : Nat} {s : AState} (dst : Option Nat) (xs : List Opd)
theorem hg_nil : runHg cs hx [] s = some s := rfl
theorem hg_cons (o : AOper) (os : List AOper) : runHg cs hx (o :: os) s = obind (stepHg cs hx o s) (runHg cs hx os) := rfl
theorem hg_n (op : AOp) : stepHg cs hx ⟨dst, op, xs, none⟩ s = stepH cs hx ⟨dst, op, xs, none⟩ s := rfl
theorem hg_p (op : POp) (gw : Nat × Bool) : stepHg cs hx ⟨dst, .p op, xs, some gw⟩ s = step cs ⟨dst, .p op, xs, some gw⟩ s := by
  simp only [stepHg, target]
  split
  · rename_i h; cases h
  · rfl
theorem hg_call (f g : Nat) (want : Bool) (hf : (f = 987654321) = False) (hg : gbool want (getT tm g) = some true) :
    stepHg cs hx ⟨dst, .call f, xs, some (g, want)⟩ ⟨tm, hp, nx⟩ = orStep cs ⟨dst, .call f, xs, some (g, want)⟩ ⟨tm, hp, nx⟩ (hx f (evs tm xs) hp nx) := by
  simp only [stepHg, hg, target, hf, if_false]
theorem hg_skip (f g : Nat) (want : Bool) (hg : gbool want (getT tm g) = some false) :
    stepHg cs hx ⟨dst, .call f, xs, some (g, want)⟩ ⟨tm, hp, nx⟩ = step cs ⟨dst, .call f, xs, some (g, want)⟩ ⟨tm, hp, nx⟩ := by
  simp only [stepHg, hg]
theorem gb_b (want b : Bool) : gbool want (.bool b) = some (if want then b else !b) := rfl
end
theorem en_vs (x : AV) (l : List AV) : eqNV .s (.vs (x :: l)) .nilslice = some false := rfl
section
variable {cs : Ctx} {tm : List AV} {hp : List HEnt} {nx : Nat} (xs : List Opd)
theorem ga_t (dst : Option Nat) (e z b g : Nat) (want : Bool) (hg : gbool want (getT tm g) = some true) : step cs ⟨dst, .app e z b, xs, some (g, want)⟩ ⟨tm, hp, nx⟩ = step cs ⟨dst, .app e z b, xs, none⟩ ⟨tm, hp, nx⟩ := by
  simp only [step, hg, obind_some, stepG, AOp.isEff, if_true]
  rfl
theorem ga_f (d : Nat) (e z b g : Nat) (want : Bool) (hg : gbool want (getT tm g) = some false) : step cs ⟨some d, .app e z b, xs, some (g, want)⟩ ⟨tm, hp, nx⟩ = some ⟨setT tm d (.tup []), hp, nx⟩ := by
  simp only [step, hg, obind_some, stepG, AOp.isEff, if_true, Bool.false_eq_true, if_false]
  rfl
theorem av_t (lk : Look) (id e z b : Nat) (v : AV) : appV lk id e z b (.tup []) v = none := rfl
end
/-- nil is a slice without elements -/
theorem LOk.nil1 {P : Program} {f : Nat} {a v : AV} {r : List AV} {hp hp' : List HEnt} {nx nx' : Nat} (h : LOk P f (a :: .vs [] :: r) hp nx v hp' nx') : LOk P f (a :: .nilslice :: r) hp nx v hp' nx' := by
  refine ⟨h.1, fun G w cargs hH hr => h.2 G w cargs hH ?_⟩
  simp only [VRels] at hr ⊢
  obtain ⟨c, cs, rfl, h1, c2, cs2, rfl, h2, h3⟩ := hr
  refine ⟨c, _, rfl, h1, c2, cs2, rfl, ?_, h3⟩
  simp only [VRel] at h2 ⊢
  exact .inl ⟨trivial, none, 0, h2⟩

/-! nil slices within values -/
mutual
def nv : AV → AV
  | .nilslice => .vs []
  | .agg cs => .agg (nvs cs)
  | .tup cs => .tup (nvs cs)
  | .vs cs => .vs (nvs cs)
  | v => v
def nvs : List AV → List AV
  | [] => []
  | v :: r => nv v :: nvs r
end
theorem nvs_len : ∀ (l : List AV), (nvs l).length = l.length
  | [] => rfl
  | v :: r => by simp only [nvs, List.length_cons, nvs_len r]
theorem nv_cells (v : AV) : (nv v).cells.length = v.cells.length := by
  cases v <;> simp [nv, AV.cells, nvs_len]
mutual
theorem nv_rel {G : Ghost} : ∀ (v : AV) {c : Value}, VRel G v c → VRel G (nv v) c
  | .nilslice, c, h => by
    simp only [nv, VRel] at h ⊢
    exact .inl ⟨trivial, none, 0, h⟩
  | .agg cs, c, h => by
    simp only [nv, VRel] at h ⊢
    obtain ⟨ccs, h1, h2, h3⟩ := h
    exact ⟨ccs, nvs_rel cs h1, h2, h3⟩
  | .tup cs, c, h => by
    simp only [nv, VRel] at h ⊢
    obtain ⟨ccs, h1, h3⟩ := h
    exact ⟨ccs, nvs_rel cs h1, h3⟩
  | .any, c, h => h
  | .bool _, c, h => h
  | .int _ _, c, h => h
  | .str _, c, h => h
  | .nilptr, c, h => h
  | .ptr _ _ _ _, c, h => h
  | .vp _ _ _, c, h => h
  | .slice _ _ _ _, c, h => h
  | .vs vs, c, h => by
    simp only [nv, VRel] at h ⊢
    rcases h with ⟨rfl, h⟩ | ⟨b, o, esz, cap, h1, h2, h3⟩
    · exact .inl ⟨rfl, h⟩
    · exact .inr ⟨b, o, esz, cap, nv_rows vs b o esz h1, by rw [nvs_len]; exact h2, by rw [nvs_len]; exact h3⟩
  | .vx _, c, h => h
  | .mapv _, c, h => h
  | .nilmap, c, h => h
  | .fn _ _ _, c, h => h
  | .yield _, c, h => h
  | .nilfn, c, h => h
  | .iface _ _, c, h => h
  | .nilif, c, h => h
theorem nvs_rel {G : Ghost} : ∀ (vs : List AV) {l : List Value}, VRels G vs l → VRels G (nvs vs) l
  | [], l, h => h
  | v :: r, l, h => by
    simp only [nvs, VRels] at h ⊢
    obtain ⟨c, cs, h0, h1, h2⟩ := h
    exact ⟨c, cs, h0, nv_rel v h1, nvs_rel r h2⟩
theorem nv_rows {G : Ghost} : ∀ (vs : List AV) (b o esz : Nat), VRows G vs b o esz → VRows G (nvs vs) b o esz
  | [], b, o, esz, h => h
  | v :: r, b, o, esz, h => by
    simp only [nvs, VRows] at h ⊢
    obtain ⟨⟨cv, h1, h2, h3⟩, h4⟩ := h
    exact ⟨⟨cv, nv_rel v h1, by rw [nv_cells]; exact h2, h3⟩, nv_rows r b _ esz h4⟩
end
theorem FOk.nv {P : Program} {f : Nat} {args : List AV} {v u : AV} (h : FOk P f args v) (e : Eng.nv v = u) : FOk P f args u := by
  subst e
  exact ⟨h.1, fun G w cargs hG hr => (h.2 G w cargs hG hr).mono fun e w' ⟨cv, h1, h2, h3⟩ => ⟨cv, h1, h2, nv_rel _ h3⟩⟩

/-! ### a region in two parts -/
theorem compL_split {P : Program} {all : List Oper} : ∀ {l : List Oper} {r : List AOper} (m : Nat), compL P all l = some r → compL P all (l.take m) = some (r.take m) ∧ compL P all (l.drop m) = some (r.drop m)
  | l, r, 0, h => by simpa [compL] using h
  | [], r, m + 1, h => by
    simp only [compL, Option.some.injEq] at h
    subst h
    simp [compL]
  | o :: l, r, m + 1, h => by
    simp only [compL, Option.bind_eq_some_iff, Option.map_eq_some_iff] at h
    obtain ⟨a, h1, r', h2, rfl⟩ := h
    obtain ⟨h3, h4⟩ := compL_split m h2
    refine ⟨?_, by simpa using h4⟩
    simp only [List.take_succ_cons, compL, h1, h3, Option.bind_some, Option.map_some]
section
variable {P : Program} {E : Env} {r : Option Nat} {n : Nat} {Q : Exit → Act → World → Prop} {cs : Ctx} {hx : HCtx}
theorem runH_soundK (hcs : Good P cs) (hh : HGood P hx) (hy : YHr P hx r E.G) {ops : Array Oper} {rest : List Nat} : ∀ {l : List Oper} {k : Nat} {aops : List AOper} {s s' : AState} {G : Ghost} {a : Act} {w : World}, compL P ops.toList l = some aops → (∀ i, i < l.length → l[i]? = ops[k + i]?) → runH cs hx aops s = some s' → SRel E G s a w →
    (∀ (G' : Ghost) (a' : Act) (w' : World), SRel E G' s' a' w' → wpOpsIn (FW r) n P ops Q rest a' w') → wpOpsIn (FW r) n P ops Q (List.range' k l.length ++ rest) a w
  | [], k, aops, s, s', G, a, w, hc, hl, hs, h, hQ => by
    simp only [compL, Option.some.injEq] at hc
    subst hc
    simp only [runH, Option.some.injEq] at hs
    subst hs
    exact hQ G a w h
  | o :: l, k, aops, s, s', G, a, w, hc, hl, hs, h, hQ => by
    simp only [compL, Option.bind_eq_some_iff, Option.map_eq_some_iff] at hc
    obtain ⟨ao, h1, r', h2, rfl⟩ := hc
    simp only [runH] at hs
    cases hst : stepH cs hx ao s with
    | none => rw [hst] at hs; cases hs
    | some s1 =>
      rw [hst] at hs
      simp only [obind, Option.bind_some] at hs
      have hk : ops[k]? = some o := by have := hl 0 (by simp); simp at this; exact this.symm
      simp only [List.length_cons, List.range'_succ, List.cons_append, wpOpsIn, hk]
      have hl' : ∀ i, i < l.length → l[i]? = ops[k + 1 + i]? := fun i hi => by
        have := hl (i + 1) (by simp only [List.length_cons]; omega)
        simp only [List.getElem?_cons_succ] at this
        rw [this]; congr 1; omega
      exact stepH_sound hcs hh hy h1 hst h fun G' a' w' h' => runH_soundK hcs hh hy h2 hl' hs h' hQ
end
theorem compC_opsS {P : Program} {c : Code} {ps : List (Nat × Nat)} {l : List AOper} (h : compC P c = some (.ops false ps l)) : ∃ id ops, c = .region id ops false ∧ compL P ops.toList ops.toList = some l := by
  cases c with
  | region id ops dr =>
    simp only [compC] at h
    cases hl : compL P ops.toList ops.toList with
    | none => rw [hl] at h; cases h
    | some l' =>
      rw [hl] at h
      simp only at h
      cases dr with
      | true =>
        simp only [if_true] at h
        split at h <;> simp at h
      | false =>
        simp only [Bool.false_eq_true, if_false, Option.some.injEq, AC.ops.injEq, true_and] at h
        obtain ⟨_, rfl⟩ := h
        exact ⟨id, ops, rfl, hl⟩
  | seq d e =>
    simp only [compC, Option.bind_eq_some_iff, Option.map_eq_some_iff] at h
    obtain ⟨_, _, _, _, h⟩ := h
    cases h
  | cond c d e =>
    simp only [compC, Option.bind_eq_some_iff, Option.map_eq_some_iff] at h
    obtain ⟨_, _, _, _, _, _, h⟩ := h
    cases h
  | rangeFunc g ps d e =>
    simp only [compC, Option.bind_eq_some_iff, Option.map_eq_some_iff] at h
    obtain ⟨_, _, _, _, _, _, h⟩ := h
    cases h
  | _ => simp [compC] at h
theorem Cor.opsW {P : Program} {b : Nat} {K : Post} {s : AState} {cs : Ctx} {hx : HCtx} (hcs : Good P cs) (hh : HGood P hx) {ps : List (Nat × Nat)} {l : List AOper} (m : Nat) (hml : m ≤ l.length)
    (h : okN (fun s1 => ∃ s2, Wkn b s1 s2 ∧ okN (K .normal) (runH cs hx (l.drop m) s2)) (runH cs hx (l.take m) s)) : Cor P (YH P hx) b (.ops false ps l) K s := fun c hc => by
  obtain ⟨id, ops, rfl, hl⟩ := compC_opsS hc
  have hlen : l.length = ops.size := by have := (compL_get hl).1; rw [this, Array.length_toList]
  obtain ⟨c1, c2⟩ := compL_split m hl
  cases h1 : runH cs hx (l.take m) s with
  | none => rw [h1] at h; exact h.elim
  | some s1 =>
    rw [h1] at h
    obtain ⟨s2, hw, h⟩ := h
    cases h2 : runH cs hx (l.drop m) s2 with
    | none => rw [h2] at h; exact h.elim
    | some s' =>
      rw [h2] at h
      intro r n' E hE hr hyy G a w hs
      refine wpIn_region ?_
      have hsz : ops.size = m + (ops.size - m) := by omega
      have e : List.range ops.size = List.range' 0 ((ops.toList.take m).length) ++ (List.range' m ((ops.toList.drop m).length) ++ []) := by
        rw [List.append_nil, List.length_take, List.length_drop, Array.length_toList, Nat.min_eq_left (by omega), List.range_eq_range']
        have := List.range'_append_1 (s := 0) (m := m) (n := ops.size - m)
        rw [Nat.zero_add] at this
        rw [this]
        congr 1
      rw [e]
      have hyr := yhr (hx := hx) (q := false) (fun e => by cases e) hr hyy
      refine runH_soundK hcs hh hyr c1 (fun i hi => ?_) h1 hs fun G' a' w' hs1 => ?_
      · rw [List.length_take] at hi
        rw [List.getElem?_take, if_pos (by omega), Nat.zero_add, Array.getElem?_toList]
      · obtain ⟨G2, hs2⟩ := hw E hE G' a' w' hs1
        refine runH_soundK hcs hh hyr c2 (fun i hi => ?_) h2 hs2 fun G' a' w' h' => ?_
        · rw [List.getElem?_drop, Array.getElem?_toList]
        · exact ⟨s', G', h, h'⟩
end Eng

namespace Eng
open Go Go.RowKit Go.WideShapes
set_option linter.unusedSimpArgs false
set_option linter.unusedVariables false

/-- cells of plain data: numbers, truths, texts, slices of elements with such cells, slices of elements of a type that is not looked into -/
inductive Sh where
  | i | b | s
  | sl (ag : Bool) (e : List Sh)
  | op (ag : Bool) (t : Nat)

def shF (g : TypeId → Option (List Sh)) : List Field → Option (List Sh)
  | [] => some []
  | f :: fs => (g f.type).bind fun a => (shF g fs).map fun r => a ++ r
def shR (l : List Sh) : Nat → List Sh
  | 0 => []
  | k + 1 => l ++ shR l k
def shSl (ag : Bool) (e : TypeId) : Option (List Sh) → Option (List Sh)
  | some l => some [.sl ag l]
  | none => some [.op ag e]
def shT (P : Program) : Nat → TypeId → Option (List Sh)
  | 0, _ => none
  | d + 1, t => match P.underlying t with
    | some (.int .i64) => some [.i]
    | some .bool => some [.b]
    | some .string => some [.s]
    | some (.struct fs) => shF (shT P d) fs.toList
    | some (.array k e) => (shT P d e).map fun l => shR l k
    | some (.slice e) => shSl (isAggE P e) e (shT P d e)
    | _ => none

mutual
def ShV1 (P : Program) (N : Nat) : Sh → AV → Prop
  | .i, u => ∃ m, u = .int .i64 m ∧ w64 m
  | .b, u => ∃ b, u = .bool b
  | .s, u => ∃ s, u = .str s ∧ s.size ≤ maxLen
  | .sl ag e, u => ∃ l : List (List AV), u = .vs (l.map (mkA ag)) ∧ (∀ p ∈ l, ShV P N e p) ∧ l.length ≤ maxLen
  | .op ag t, u => ∃ (m : Nat) (l : List (List AV)), m < N ∧ u = .vs (l.map (mkA ag)) ∧ (∀ p ∈ l, VT P m t p) ∧ l.length ≤ maxLen
def ShV (P : Program) (N : Nat) : List Sh → List AV → Prop
  | [], us => us = []
  | k :: ks, us => ∃ u r, us = u :: r ∧ ShV1 P N k u ∧ ShV P N ks r
end

theorem ShV.append {P : Program} {N : Nat} : ∀ {ks ls : List Sh} {us vs : List AV}, ShV P N ks us → ShV P N ls vs → ShV P N (ks ++ ls) (us ++ vs)
  | [], ls, us, vs, h, h' => by simp only [ShV] at h; subst h; simpa using h'
  | k :: ks, ls, us, vs, h, h' => by
    simp only [ShV] at h
    obtain ⟨u, r, rfl, h1, h2⟩ := h
    simp only [List.cons_append, ShV]
    exact ⟨u, r ++ vs, rfl, h1, ShV.append h2 h'⟩

theorem shF_of {P : Program} {N : Nat} {g : TypeId → Option (List Sh)} {q : TypeId → List AV → Prop} (ih : ∀ t ks us, g t = some ks → q t us → ShV P N ks us) :
    ∀ (fs : List Field) (ks : List Sh) (us : List AV), shF g fs = some ks → VFs q fs us → ShV P N ks us
  | [], ks, us, hk, h => by
    simp only [shF, Option.some.injEq] at hk
    subst hk
    simpa only [VFs, ShV] using h
  | f :: fs, ks, us, hk, h => by
    simp only [shF, Option.bind_eq_some_iff, Option.map_eq_some_iff] at hk
    obtain ⟨a, h1, r, h2, rfl⟩ := hk
    obtain ⟨a', r', rfl, h3, h4⟩ := h
    exact (ih _ _ _ h1 h3).append (shF_of ih fs r r' h2 h4)
theorem shR_of {P : Program} {N : Nat} {l : List Sh} {q : List AV → Prop} (ih : ∀ us, q us → ShV P N l us) : ∀ (k : Nat) (us : List AV), VAs q k us → ShV P N (shR l k) us
  | 0, us, h => by simpa only [VAs, shR, ShV] using h
  | k + 1, us, h => by
    obtain ⟨a, r, rfl, h1, h2⟩ := h
    exact (ih _ h1).append (shR_of ih k r h2)
theorem shT_of {P : Program} {N : Nat} : ∀ (d n : Nat) (t : TypeId) (ks : List Sh) (us : List AV), n ≤ N → shT P d t = some ks → VT P n t us → ShV P N ks us
  | 0, n, t, ks, us, _, hk, _ => by simp [shT] at hk
  | d + 1, 0, t, ks, us, _, hk, h => by simp [VT] at h
  | d + 1, n + 1, t, ks, us, hn, hk, h => by
    unfold shT at hk
    unfold VT at h
    have hn' : n ≤ N := by omega
    split at hk
    · rename_i hu
      simp only [hu] at h
      obtain ⟨m, rfl, hw⟩ := h
      cases hk
      simp only [ShV, ShV1]
      exact ⟨_, _, rfl, ⟨m, rfl, hw⟩, rfl⟩
    · rename_i hu
      simp only [hu] at h
      obtain ⟨b, rfl⟩ := h
      cases hk
      simp only [ShV, ShV1]
      exact ⟨_, _, rfl, ⟨b, rfl⟩, rfl⟩
    · rename_i hu
      simp only [hu] at h
      obtain ⟨s, rfl, hs⟩ := h
      cases hk
      simp only [ShV, ShV1]
      exact ⟨_, _, rfl, ⟨s, rfl, hs⟩, rfl⟩
    · rename_i fs hu
      simp only [hu] at h
      exact shF_of (fun t ks us h1 h2 => shT_of d n t ks us hn' h1 h2) _ _ _ hk h
    · rename_i k e hu
      simp only [hu] at h
      simp only [Option.map_eq_some_iff] at hk
      obtain ⟨l, h1, rfl⟩ := hk
      exact shR_of (fun us h2 => shT_of d n e l us hn' h1 h2) _ _ h
    · rename_i e hu
      simp only [hu] at h
      obtain ⟨l, rfl, hl, hlen⟩ := h
      cases hs : shT P d e with
      | some ks' =>
        rw [hs] at hk
        simp only [shSl, Option.some.injEq] at hk
        subst hk
        simp only [ShV, ShV1]
        exact ⟨_, _, rfl, ⟨l, rfl, fun p hp => shT_of d n e ks' p hn' hs (hl p hp), hlen⟩, rfl⟩
      | none =>
        rw [hs] at hk
        simp only [shSl, Option.some.injEq] at hk
        subst hk
        simp only [ShV, ShV1]
        exact ⟨_, _, rfl, ⟨n, l, by omega, rfl, hl, hlen⟩, rfl⟩
    · cases hk

/-- an argument that is an aggregate -/
theorem ArG.agg {P : Program} {n : Nat} {t : TypeId} {u : AV} {ks : List Sh} (d : Nat) (h : ArG P n t u) (ha : isAggE P t = true) (hk : shT P d t = some ks) : ∃ us, u = .agg us ∧ ShV P n ks us := by
  unfold ArG at h
  rw [if_pos ha] at h
  obtain ⟨us, rfl, h⟩ := h
  exact ⟨us, rfl, shT_of d n t ks us (Nat.le_refl _) hk h⟩
/-- an argument of one cell -/
theorem ArG.one {P : Program} {n : Nat} {t : TypeId} {u : AV} {k : Sh} (d : Nat) (h : ArG P n t u) (ha : isAggE P t = false) (hk : shT P d t = some [k]) : ShV1 P n k u := by
  unfold ArG at h
  rw [if_neg (by rw [ha]; decide)] at h
  have := shT_of d n t _ _ (Nat.le_refl _) hk h
  simp only [ShV] at this
  obtain ⟨u', r, h1, h2, rfl⟩ := this
  cases h1
  exact h2
/-- a slice of encoded things -/
theorem sl_enc {α : Type} (e : α → AV) {q : List AV → Prop} {ag : Bool} (hd : ∀ p, q p → ∃ x, mkA ag p = e x) : ∀ {l : List (List AV)}, (∀ p ∈ l, q p) → ∃ gs : List α, l.map (mkA ag) = gs.map e ∧ gs.length = l.length
  | [], _ => ⟨[], rfl, rfl⟩
  | p :: l, h => by
    obtain ⟨gs, h1, h2⟩ := sl_enc e hd (l := l) fun p' hp => h p' (by simp [hp])
    obtain ⟨x, hx⟩ := hd p (h p (by simp))
    exact ⟨x :: gs, by simp [hx, h1], by simp [h2]⟩
end Eng

namespace Eng
open Go Go.RowKit
set_option linter.unusedSimpArgs false
set_option linter.unusedVariables false

section
variable (cs : Ctx) (hx : HCtx) (lk : Look) (tm : List AV) (hp : List HEnt) (nx id e b t g i n s d l h : Nat) (r vals xs : List AV) (u v z : AV) (k k' : IntKind) (a c : Int) (x y : Opd) (lo hi : Bool) (gd : Option (Nat × Bool)) (S : AState)
def mkV (id e b : Nat) (z : AV) : AV → AV → Option (AV × Eff)
  | .int _ l, .int _ c => if l = c ∧ 0 ≤ l ∧ l.toNat * b ≤ 140737488355328 ∧ l.toNat ≤ maxLen ∧ z.sc = true then some (.slice id 1 0 l.toNat, .new ⟨id, id, .rows e 1 (List.replicate l.toNat z)⟩) else none
  | _, _ => none
theorem mkV_eq : effOp lk id (.mks e b z) [u, v] = mkV id e b z u v := by cases u <;> cases v <;> rfl
theorem s_mks1 : step cs ⟨some d, .mks e b z, [x, y], none⟩ ⟨tm, hp, nx⟩ = obind (mkV nx e b z (evO tm x) (evO tm y)) (putA tm hp nx d) := by
  rw [← mkV_eq (getE hp)]; rfl
theorem mk_ok (h0 : (0 ≤ a) = True) (h1 : (a.toNat * b ≤ 140737488355328) = True) (h2 : (a.toNat ≤ maxLen) = True) (h3 : z.sc = true) :
    mkV id e b z (.int k a) (.int k' a) = some (.slice id 1 0 a.toNat, .new ⟨id, id, .rows e 1 (List.replicate a.toNat z)⟩) := by
  simp only [mkV, h0, h1, h2, h3, and_self, if_true]
theorem s_cpy1 : step cs ⟨some d, .cpy, [x, y], none⟩ ⟨tm, hp, nx⟩ = obind (cpyV (getE hp) (evO tm x) (evO tm y)) (putA tm hp nx d) := rfl
def cpyX (t g e i n : Nat) (vals : List AV) : Option (List AV) → Option (AV × Eff)
  | some xs => if i + n ≤ vals.length then some (.int .i64 (xs.take n).length, toSet t g e 1 (vals.take i ++ (xs.take n ++ vals.drop (i + (xs.take n).length)))) else none
  | none => none
def cpyE (lk : Look) (t esz i n : Nat) (v : AV) : Option HEnt → Option (AV × Eff)
  | some ⟨_, g, .rows e esz' vals⟩ => if esz = 1 ∧ esz' = 1 then cpyX t g e i n vals (srcV lk 1 v) else none
  | _ => none
theorem cp_sl (esz : Nat) : cpyV lk (.slice t esz i n) v = cpyE lk t esz i n v (lk t) := by
  cases hl : lk t with
  | none => simp [cpyV, cpyE, hl]
  | some q =>
    obtain ⟨i', g, blk⟩ := q
    cases blk with
    | obj o => simp [cpyV, cpyE, hl]
    | rows e' esz' vals =>
      simp only [cpyV, cpyE, hl]
      cases srcV lk 1 v with
      | none => simp [cpyX]
      | some xs =>
        simp only [Option.bind_some, cpyX, toSet]
        by_cases h1 : esz = 1 <;> by_cases h2 : esz' = 1 <;> simp [h1, h2]
theorem cpyE_some : cpyE lk t 1 i n v (some ⟨t, g, .rows e 1 vals⟩) = cpyX t g e i n vals (srcV lk 1 v) := by simp [cpyE]
theorem cpX_some (hc : (i + n ≤ vals.length) = True) : cpyX t g e i n vals (some xs) = some (.int .i64 (xs.take n).length, toSet t g e 1 (vals.take i ++ (xs.take n ++ vals.drop (i + (xs.take n).length)))) := by simp only [cpyX, hc, if_true]
theorem putA_set (ty : Nat) (esz : Nat) : putA tm hp nx d (v, toSet t g ty esz vals) = some ⟨setT tm d v, setB hp t g (.rows ty esz vals), nx + 1⟩ := rfl
theorem ap_toSet (ty : Nat) (esz : Nat) : applyE (toSet t g ty esz vals) hp = setB hp t g (.rows ty esz vals) := rfl
theorem h_mks (dst : Option Nat) (ops : List Opd) : stepH cs hx ⟨dst, .mks e b z, ops, gd⟩ S = step cs ⟨dst, .mks e b z, ops, gd⟩ S := rfl
theorem h_cpy (dst : Option Nat) (ops : List Opd) : stepH cs hx ⟨dst, .cpy, ops, gd⟩ S = step cs ⟨dst, .cpy, ops, gd⟩ S := rfl
theorem f_cpy (dst : Option Nat) : fpO ⟨dst, .cpy, [x, y], gd⟩ ⟨tm, hp, nx⟩ = (gids hp (tidL [evO tm x, evO tm y]), wA (cpyV (getE hp) (evO tm x) (evO tm y))) := by
  simp only [fpO, tids, AOp.isEff, if_true, effOp, evs, gids]
  cases cpyV (getE hp) (evO tm x) (evO tm y) <;> rfl
theorem wA_set (ty esz : Nat) : wA (some (v, toSet t g ty esz vals)) = some g := rfl
theorem e_slcW : evP (.slc s lo hi false) (.slice t e i n :: r) = slcW s t e i n (bnd lo hi false n r) := rfl
theorem sw_ok (h1 : (l < n) = True) (h2 : (l ≤ h) = True) (h3 : (h ≤ n) = True) : slcW s t s i n (some (l, h)) = some (.slice t s (i + l) (h - l)) := by simp only [slcW, h1, h2, h3, and_self, if_true]
theorem e_shr : evP (.shf false) [.int k a, .int k' c] = if c < 0 then none else some (.int k (a.fdiv (2 ^ (min c.toNat k.bits)))) := rfl
theorem e_shl : evP (.shf true) [.int k a, .int k' c] = if c < 0 then none else some (.int k (k.wrap (a * 2 ^ (min c.toNat k.bits)))) := rfl
end
end Eng

namespace Eng
open Go Go.RowKit
set_option linter.unusedSimpArgs false
set_option linter.unusedVariables false

/-- the calls of yield, one after the other, until one says false; what lies there names no number from N on -/
def DrvL (hx : HCtx) (t N0 : Nat) : List HEnt → Nat → List (List AV) → List HEnt → Nat → Prop
  | hp, N, [], fin, M => fin = hp ∧ M = N
  | hp, N, v :: vs, fin, M => (N0 ≤ N ∧ Low N hp) ∧ ∃ b hp' N', hx 987654321 (.yield t :: v) hp N = some (.bool b, hp', N') ∧ (b = true → DrvL hx t N0 hp' N' vs fin M) ∧ (b = false → fin = hp' ∧ M = N')
def SeqL (P : Program) (f : Nat) (first cap : List AV) (seq : List (List AV)) : Prop :=
  ∀ (hx : HCtx) (t N M : Nat) (hp fin : List HEnt), t < N → (∀ g vals h n, (g = 987654321) = False → hx g vals h n = none) → DrvL hx t N hp N seq fin M →
    LOkY (YH P hx) P f (first ++ [.yield t] ++ cap) hp N fun v h n => h = fin ∧ n = M

theorem FnC.lokyS {P : Program} {f n : Nat} {x : AC} {rs : List RV} (h : FnC P f n x rs) {n' m' : Nat} (hck : chkF P f n' m' = true) {y : Ghost → Prop} {args : List AV} {hp : List HEnt} {nx : Nat} {R : AV → List HEnt → Nat → Prop} (hb : CorS n' m' P y nx x (FinL rs R) (bg n args hp nx)) : LOkY y P f args hp nx R := by
  obtain ⟨fn, c, h1, h2, h3, h4, rfl⟩ := h.fn
  unfold chkF at hck
  rw [h1] at hck
  simp only [h2] at hck
  exact loky_of_awp h.ent h1 h2 h3 (hb c h4 hck)

theorem compC_cond {P : Program} {c : Code} {d : Opd} {x z : AC} (h : compC P c = some (.cond d x z)) : ∃ o c1 c2, c = .cond o c1 c2 ∧ opd o = some d ∧ compC P c1 = some x ∧ compC P c2 = some z := by
  cases c with
  | cond o c1 c2 =>
    simp only [compC, Option.bind_eq_some_iff, Option.map_eq_some_iff] at h
    obtain ⟨d', h0, x', h1, y', h2, h3⟩ := h
    cases h3
    exact ⟨o, c1, c2, rfl, h0, h1, h2⟩
  | region id ops dr =>
    simp only [compC] at h
    split at h
    · cases h
    · split at h
      · split at h <;> cases h
      · cases h
  | seq d e =>
    simp only [compC, Option.bind_eq_some_iff, Option.map_eq_some_iff] at h
    obtain ⟨_, _, _, _, h⟩ := h
    cases h
  | rangeFunc g ps d e =>
    simp only [compC, Option.bind_eq_some_iff, Option.map_eq_some_iff] at h
    obtain ⟨_, _, _, _, _, _, h⟩ := h
    cases h
  | _ => simp [compC] at h
theorem CorS.cond {n m : Nat} {P : Program} {y : Ghost → Prop} {b : Nat} {K : Post} {s : AState} {d : Opd} {x z : AC} (h : condV (CorS n m P y b x K) (CorS n m P y b z K) s (evO s.tm d)) : CorS n m P y b (.cond d x z) K s := fun c hc hk => by
  obtain ⟨o, c1, c2, rfl, h0, h1, h2⟩ := compC_cond hc
  simp only [chkS, Bool.and_eq_true] at hk
  refine Awp.cond h0 ?_
  cases ho : evO s.tm d <;> rw [ho] at h <;> simp only [condV] at h ⊢
  exact ⟨fun e => h.1 e c1 h1 hk.1, fun e => h.2 e c2 h2 hk.2⟩

section
variable {P : Program} {cs : Ctx} {hx : HCtx} (hcs : Good P cs) (hh : HGood P hx) (hm : P.follows .mixedOrders = true) (hn : ∀ t vals hp nx, hx yld (.yield t :: vals) hp nx = none)
include hcs hh hm hn
/-- THE LOOP OVER A FUNCTION: at the head of a round the heap is J a. -/
theorem Cor.rangeL {y : Ghost → Prop} {b : Nat} {g : Opd} {ps : List Nat} {x z : AC} {K : Post} {tm : List AV} {hp : List HEnt} {t : Nat} {f : Nat} {first cap : List AV} {seq : List (List AV)} {β : Type} (J : β → List HEnt) (Nn : β → Nat) (st : β → List AV → β × Jk) (Iv : Nat → β → Prop) {x0 : β}
    (hg : evO tm g = .fn f first cap) (hseq : SeqL P f first cap seq) (hp0 : hp = J x0) (hN0 : Nn x0 = t + 1) (h0 : Iv 0 x0)
    (hJ : ∀ a b, J a = J b → a = b) (hfree : ∀ a, ∀ e ∈ J a, e.grp ≠ t) (hlx : x.noLp = true) (hlz : z.noLp = true) (hlen : ∀ v ∈ seq, v.length = ps.length)
    (hlow : ∀ j a, Iv j a → t < Nn a ∧ Low (Nn a) (J a))
    (hstep : ∀ j v a, seq[j]? = some v → Iv j a → (st a v).2 = .nx → Iv (j + 1) (st a v).1)
    (hround : ∀ j v a, seq[j]? = some v → Iv j a → RoundOk P cs hx (Nn a) (Nn (st a v).1) t x z ps tm (J a) (J (st a v).1) v (st a v).2)
    (hend : K (foldS st x0 seq).2.exit ⟨tm, J (foldS st x0 seq).1, Nn (foldS st x0 seq).1⟩) : Cor P y b (.rf g ps x z) K ⟨tm, hp, t⟩ := by
  intro c hc
  obtain ⟨g', ps', c1, c2, rfl, hg', rfl, h1, h2⟩ := compC_rf hc
  intro r n E hE hr hyy G a w hs
  obtain rfl := hr rfl
  refine wpIn_rangeFunc (fun fn _ => ?_)
  obtain ⟨hH1, hle1⟩ := hs.hp.lay (.deferred (some []))
  let rc : Loop := { state := .ready, pending := none, fn, tmps := a.tmps, params := ps', assign := c1, body := c2, defers := w.heap.size }
  have erec : recO rc .nx = .loop rc := rfl
  have hH2 := hH1.allocO t (Nat.le_refl t) (.loop rc)
  have hle2 := Ghost.le_put (G := G.lay w.heap.size (.deferred (some []))) (l := ⟨(w.alloc (.deferred (some []))).heap.size, 1, 0⟩) (hH1.fresh t (Nat.le_refl t))
  have hle := hle1.trans hle2
  have hι : ((G.lay w.heap.size (.deferred (some []))).put t ⟨(w.alloc (.deferred (some []))).heap.size, 1, 0⟩).ι t = some ⟨(w.alloc (.deferred (some []))).heap.size, 1, 0⟩ := by simp [Ghost.put]
  have hro : ((G.lay w.heap.size (.deferred (some []))).put t ⟨(w.alloc (.deferred (some []))).heap.size, 1, 0⟩).ro w.heap.size = some (.deferred (some [])) := by simp [Ghost.put, Ghost.lay]
  generalize hG2 : (G.lay w.heap.size (.deferred (some []))).put t ⟨(w.alloc (.deferred (some []))).heap.size, 1, 0⟩ = G2 at *
  have hH3 : HRel G2 (· ∈ ⟨t, t, .obj (recO rc .nx)⟩ :: J x0) (t + 1 ≤ ·) ((w.alloc (.deferred (some []))).alloc (.loop rc)) := by
    refine hH2.sub (fun e he => ?_) (fun u hu => ⟨by show t ≤ u; omega, by omega⟩)
    rcases List.mem_cons.1 he with rfl | he
    · exact .inr rfl
    · exact .inl (hp0 ▸ he)
  have hsz : (w.alloc (.deferred (some []))).heap.size = w.heap.size + 1 := World.size_alloc ..
  rw [hsz] at hι
  have hkp : Keeps w ((w.alloc (.deferred (some []))).alloc (.loop rc)) := ⟨rfl, rfl, rfl, by rw [World.size_alloc, World.size_alloc]; omega⟩
  generalize hw2 : (w.alloc (.deferred (some []))).alloc (.loop rc) = w2 at *
  -- yield
  let R : List AV → List HEnt → Nat → AV × List HEnt × Nat → Prop := fun vals h m res => ∃ j v a, vals = .yield t :: v ∧ seq[j]? = some v ∧ Iv j a ∧ h = ⟨t, t, .obj (recO rc .nx)⟩ :: J a ∧ m = Nn a ∧
    res = (.bool (st a v).2.cont, ⟨t, t, .obj (recO rc (st a v).2)⟩ :: J (st a v).1, Nn (st a v).1)
  have htm2 : VRels G2 tm a.tmps.toList := VRels.mono hle _ hs.tm
  have hY : YH P (orc R) G2 := by
    intro t' vals h m v h' m' hv
    obtain ⟨j, vv, aa, e1, hj, hI, rfl, rfl, e2⟩ := orc_inv hv
    simp only [List.cons.injEq, AV.yield.injEq] at e1
    obtain ⟨rfl, rfl⟩ := e1
    simp only [Prod.mk.injEq] at e2
    obtain ⟨rfl, rfl, rfl⟩ := e2
    intro n' G3 w3 cvals l hle3 hH hl hcv
    have hll := hle3.ι _ _ hι
    obtain ⟨l', hl1, hl2, _⟩ := hH.ent ⟨t', t', .obj (recO rc .nx)⟩ (List.mem_cons_self ..)
    simp only at hl1
    rw [hl] at hl1; cases hl1
    have hsz2 : cvals.toArray.size = rc.params.size := by
      rw [List.size_toArray, hcv.length, hlen _ (List.mem_of_getElem? hj), Array.length_toList]
    refine ⟨_, _, _, _, run_yield hl2 hsz2, ?_⟩
    have := round_sound (n := n') hcs hh hm hn hlx hlz (hfree _) (hround j vals aa hj hI) h1 h2 (r := rc) rfl rfl hl (VRels.mono hle3 _ htm2) hcv hH (f := rc.fn)
    have ez : (rc.params.zip cvals.toArray).foldl (fun tmps (x : Nat × Value) => tmps.setIfInBounds x.1 x.2) rc.tmps = (ps'.toList.zip cvals).foldl (fun (tm : Array Value) (x : Nat × Value) => tm.setIfInBounds x.1 x.2) a.tmps := by
      rw [← Array.foldl_toList, Array.toList_zip]
    have e3 : ((rc.params.zip cvals.toArray).foldl (fun tmps (t, a) => tmps.setIfInBounds t a) rc.tmps) = (ps'.toList.zip cvals).foldl (fun (tm : Array Value) (x : Nat × Value) => tm.setIfInBounds x.1 x.2) a.tmps := ez
    rw [e3]
    exact this
  have hdrv : ∀ vs j aa, seq.drop j = vs → Iv j aa → DrvL (orc R) t (t + 1) (⟨t, t, .obj (recO rc .nx)⟩ :: J aa) (Nn aa) vs (⟨t, t, .obj (recO rc (foldS st aa vs).2)⟩ :: J (foldS st aa vs).1) (Nn (foldS st aa vs).1) := by
    intro vs
    induction vs with
    | nil => intro j aa _ _; exact ⟨rfl, rfl⟩
    | cons v vs ih =>
      intro j aa hd hI
      have hj : seq[j]? = some v := by
        have := List.getElem?_drop (xs := seq) (i := j) (j := 0)
        rw [hd] at this
        simpa using this.symm
      have hd' : seq.drop (j + 1) = vs := by
        rw [← List.drop_drop, hd]; rfl
      obtain ⟨hlt, hlo⟩ := hlow j aa hI
      refine ⟨⟨hlt, ?_⟩, (st aa v).2.cont, ⟨t, t, .obj (recO rc (st aa v).2)⟩ :: J (st aa v).1, Nn (st aa v).1, orc_some ⟨j, v, aa, rfl, hj, hI, rfl, rfl, rfl⟩ ?_, fun hc => ?_, fun hc => ?_⟩
      · intro e he
        rcases List.mem_cons.1 he with rfl | he
        · exact ⟨⟨hlt, hlt⟩, fun φ _ => rfl⟩
        · exact hlo e he
      · rintro res ⟨j', v', a', e1, _, _, e2, _, rfl⟩
        simp only [List.cons.injEq, true_and] at e1 e2
        subst e1
        rw [hJ _ _ e2]
      · have hnx : (st aa v).2 = .nx := by
          cases hst : (st aa v).2 <;> simp [hst, Jk.cont] at hc ⊢
        rw [foldS_cons, if_pos hc, hnx]
        exact ih (j + 1) (st aa v).1 hd' (hstep j v aa hj hI hnx)
      · rw [foldS_cons, if_neg (by rw [hc]; simp)]; exact ⟨rfl, rfl⟩
  have hdr := hdrv seq 0 x0 rfl h0
  rw [hN0] at hdr
  have hok := hseq (orc R) t (t + 1) _ _ _ (Nat.lt_succ_self t) (fun g vals h n hg => orc_ne g vals h n hg) hdr
  have hgv := opd_sound hs.tm hg'
  rw [hg] at hgv
  have hgv := VRel.mono hle _ hgv
  simp only [VRel] at hgv
  obtain ⟨cf, cc, hcf, hcc, hfn⟩ := hgv
  have hargs : VRels G2 (first ++ [.yield t] ++ cap) (cf ++ [Value.func (.yield (w.heap.size + 1)) #[] #[]] ++ cc) := by
    refine (hcf.append ?_).append hcc
    simp only [VRels, VRel]
    exact ⟨_, [], rfl, ⟨_, hι, rfl⟩, rfl⟩
  refine ⟨w.heap.size + 1, [mark w.heap.size], w2, { target := .fn (.func f) cc.toArray, args := cf.toArray ++ #[Value.func (.yield (w.heap.size + 1)) #[] #[]] }, w2, f, (cf ++ [Value.func (.yield (w.heap.size + 1)) #[] #[]] ++ cc).toArray, w2, ?_, ?_, fun _ _ => trivial, ?_, fun h => by simp [FW, Fence.wide] at h, ?_⟩
  · rw [← hw2]
    exact run_enterLoop_outer fn a.tmps ps' c1 c2
  · have e5 : resolve a.eval (rangeCall g' (w.heap.size + 1)) 0 = Deferred.ofValue (a.eval g') #[Value.func (.yield (w.heap.size + 1)) #[] #[]] := by
      simp [resolve, Act.eval]
    rw [e5, hfn]
    simp [Deferred.ofValue]
  · have := hok.1 (cf ++ [Value.func (.yield (w.heap.size + 1)) #[] #[]] ++ cc).toArray w2
    simpa [invoke] using this
  · refine callsIn_FW ((hok.2 G2 w2 _ hY hH3 hargs).mono ?_)
    rintro e w3 ⟨v, hp', nx', G', cv, ⟨rfl, rfl⟩, rfl, hle3, hH', hcv, hk⟩
    generalize hfd : foldS st x0 seq = xf at *
    obtain ⟨xf, jf⟩ := xf
    have hι3 := hle3.ι _ _ hι
    obtain ⟨hH4, hl4⟩ := hH'.turn (t := t) (o := recO rc jf) (by simp [getE]) hι3 (.loop { ({ rc with state := if jf.cont then .ready else .done, pending := jf.code } : Loop) with state := .exhausted })
    have hnb : ({ rc with state := if jf.cont then .ready else .done, pending := jf.code } : Loop).state ≠ .busy := by
      cases jf <;> simp [Jk.cont]
    refine ⟨_, _, run_endLoop hl4 hnb, ?_⟩
    have hset : setB (⟨t, t, .obj (recO rc jf)⟩ :: J xf) t t (.obj (.loop { ({ rc with state := if jf.cont then .ready else .done, pending := jf.code } : Loop) with state := .exhausted })) = ⟨t, t, .obj (.loop { ({ rc with state := if jf.cont then .ready else .done, pending := jf.code } : Loop) with state := .exhausted })⟩ :: J xf := by
      rw [sb_eq, setB_free (hfree xf)]
    simp only at hH4
    erw [hset] at hH4
    have hS : SRel E G' ⟨tm, J xf, Nn xf⟩ { a with defers := [mark w.heap.size] ++ a.defers } (w3.putObj (w.heap.size + 1) (.loop { ({ rc with state := if jf.cont then .ready else .done, pending := jf.code } : Loop) with state := .exhausted })) := by
      refine ⟨VRels.mono (hle.trans hle3) _ hs.tm, hH4.sub (fun e he => List.mem_cons_of_mem _ he) (fun _ h => h), ?_, hs.le.trans (hle.trans hle3), (hs.kp.trans (hkp.trans hk)).trans ⟨rfl, rfl, rfl, by rw [World.putObj_size]; exact Nat.le_refl _⟩⟩
      obtain ⟨pre, hp1, hp2, hp3⟩ := hs.df
      refine ⟨w.heap.size :: pre, by rw [hp1]; rfl, List.nodup_cons.2 ⟨fun hmem => ?_, hp2⟩, fun D hD => ?_⟩
      · have := hs.hp.ro _ _ (hp3 _ hmem).1
        simp at this
      · rcases List.mem_cons.1 hD with rfl | hD
        · exact ⟨hle3.ro _ _ hro, hs.kp.size⟩
        · exact ⟨hle3.ro _ _ (hle.ro _ _ (hp3 D hD).1), (hp3 D hD).2⟩
    cases jf with
    | nx => exact ⟨_, G', hend, hS⟩
    | ret => exact wpIn_ret ⟨_, G', hend, hS⟩
    | ex id => exact wpIn_exit ⟨_, G', hend, hS⟩
end
end Eng

namespace Eng
open Go Go.RowKit
set_option linter.unusedSimpArgs false
set_option linter.unusedVariables false

/-- the orders in which the operations that are not listed may come -/
def exts (ops : Array Oper) : Nat → Array Bool → List (List Nat)
  | 0, listed => if Region.ready .any ops listed = [] then [[]] else [[ops.size]]
  | d + 1, listed => match Region.ready .any ops listed with
    | [] => [[ops.size]]
    | i :: is => (i :: is).flatMap fun j => (exts ops d (listed.setIfInBounds j true)).map (j :: ·)
theorem exts_ne (ops : Array Oper) : ∀ (d : Nat) (listed : Array Bool), exts ops d listed ≠ []
  | 0, listed => by unfold exts; split <;> simp
  | d + 1, listed => by
    unfold exts
    split
    · simp
    · rename_i i is _
      have := exts_ne ops d (listed.setIfInBounds i true)
      simp [this]
def lst0 (n m : Nat) : Array Bool := ((List.range n).map fun j => decide (j < m)).toArray
def runHi (cs : Ctx) (hx : HCtx) (l : List AOper) : List Nat → AState → Option AState
  | [], s => some s
  | i :: o, s => obind (obind l[i]? fun x => stepHg cs hx x s) (runHi cs hx l o)
theorem hi_nil (cs : Ctx) (hx : HCtx) (l : List AOper) (s : AState) : runHi cs hx l [] s = some s := rfl
theorem hi_cons (cs : Ctx) (hx : HCtx) (l : List AOper) (i : Nat) (o : List Nat) (s : AState) : runHi cs hx l (i :: o) s = obind (obind l[i]? fun x => stepHg cs hx x s) (runHi cs hx l o) := rfl
section
variable {P : Program} {E : Env} {r : Option Nat} {n : Nat} {Q : Exit → Act → World → Prop} {cs : Ctx} {hx : HCtx}
theorem any_ord (hcs : Good P cs) (hh : HGood P hx) (hy : YHr P hx r E.G) {ops : Array Oper} {aops : List AOper} (hl : aops.length = ops.size) (hc : ∀ (i : Nat) o, ops[i]? = some o → ∃ ao, aops[i]? = some ao ∧ compO P ops.toList o = some ao) :
    ∀ (d : Nat) (listed : Array Bool) (s : AState) (G : Ghost) (a : Act) (w : World), (∀ o ∈ exts ops d listed, ∃ s', runHi cs hx aops o s = some s' ∧ ∀ (G' : Ghost) (a' : Act) (w' : World), SRel E G' s' a' w' → Q .normal a' w') → SRel E G s a w →
      wpAnyIn (FW r) n P .any ops Q d listed a w := by
  have hnone : aops[ops.size]? = none := List.getElem?_eq_none (by omega)
  intro d
  induction d with
  | zero =>
    intro listed s G a w ho h
    by_cases hr : Region.ready .any ops listed = []
    · obtain ⟨s', h1, h2⟩ := ho [] (by unfold exts; rw [if_pos hr]; simp)
      simp only [runHi, Option.some.injEq] at h1
      subst h1
      exact ⟨hr, h2 G a w h⟩
    · obtain ⟨s', h1, h2⟩ := ho [ops.size] (by unfold exts; rw [if_neg hr]; simp)
      simp [runHi, obind, hnone] at h1
  | succ d ih =>
    intro listed s G a w ho h
    have hx0 : ∀ i ∈ Region.ready .any ops listed, ∀ o ∈ exts ops d (listed.setIfInBounds i true), i :: o ∈ exts ops (d + 1) listed := by
      intro i hi o hoo
      rw [exts]
      split
      · rename_i e; rw [e] at hi; simp at hi
      · rename_i j js e
        rw [e] at hi
        exact List.mem_flatMap.2 ⟨i, hi, List.mem_map.2 ⟨o, hoo, rfl⟩⟩
    refine ⟨fun he => ?_, fun i hi => ?_⟩
    · obtain ⟨s', h1, h2⟩ := ho [ops.size] (by
        rw [exts]
        split
        · simp
        · rename_i j js e; rw [e] at he; cases he)
      simp [runHi, obind, hnone] at h1
    · have hin : i < ops.size := by
        unfold Region.ready at hi
        exact List.mem_range.1 (List.mem_filter.1 hi).1
      obtain ⟨o, hoi⟩ : ∃ o, ops[i]? = some o := ⟨ops[i], Array.getElem?_eq_getElem hin⟩
      obtain ⟨ao, h1, h2⟩ := hc i o hoi
      obtain ⟨rest, hrest⟩ := List.exists_mem_of_ne_nil _ (exts_ne ops d (listed.setIfInBounds i true))
      obtain ⟨s', h3, _⟩ := ho _ (hx0 i hi rest hrest)
      simp only [runHi, h1, obind, Option.bind_some] at h3
      cases hst : stepHg cs hx ao s with
      | none => rw [hst] at h3; cases h3
      | some s1 =>
        show wpOpIn (FW r) n P ops Q i _ a w
        unfold wpOpIn
        simp only [hoi]
        refine stepHg_sound hcs hh hy h2 hst h fun G' a' w' h' => ?_
        refine ih _ s1 G' a' w' (fun o2 ho2 => ?_) h'
        obtain ⟨s2, h4, h5⟩ := ho _ (hx0 i hi o2 ho2)
        simp only [runHi, h1, obind, Option.bind_some, hst] at h4
        exact ⟨s2, h4, h5⟩
end
/-- the operations from the m-th on come after all before the m-th -/
def sufM (m : Nat) (ops : List Oper) : Bool := (List.range ops.length).all fun k => decide (k < m) || (List.range m).all fun i => ((masks ops []).getD k 0).testBit i
section
variable {P : Program} {E : Env} {r : Option Nat} {n : Nat} {Q : Exit → Act → World → Prop} {cs : Ctx} {hx : HCtx} {G : Ghost} {a : Act} {w : World} {s s1 s2 : AState}
theorem region_drawnO (hcs : Good P cs) (hh : HGood P hx) (hy : YHr P hx r E.G) (hm : P.follows .mixedOrders = true) {id : Nat} {ops : Array Oper} {aops : List AOper} {m : Nat} (hmn : m ≤ ops.size) {ords : List (List Nat)} (hsd : sufM m ops.toList = true) (hord : exts ops (ops.size - m) (lst0 ops.size m) = ords) (hc : compL P ops.toList ops.toList = some aops)
    (hok : okD ops.toList (masks ops.toList []) aops = true) (hs1 : runD cs (aops.take m) ((pairsOf (masks ops.toList []) aops).filter fun p => decide (p.2 < m)) s = some s1) (hwk : ∀ G a w, SRel E G s1 a w → ∃ G', SRel E G' s2 a w) (hs2 : ∀ o ∈ ords, ∃ s', runHi cs hx aops o s2 = some s' ∧ ∀ (G' : Ghost) (a' : Act) (w' : World), SRel E G' s' a' w' → Q .normal a' w') (h : SRel E G s a w) : (Code.region id ops true).wpIn (FW r) n P Q a w := by
  refine wpIn_region_any hm ?_
  obtain ⟨hl, hc⟩ := compL_get hc
  have hl : aops.length = ops.size := by rw [hl, Array.length_toList]
  have htk : ∀ k, k < m → (aops.take m)[k]? = aops[k]? := fun k hk => by rw [List.getElem?_take, if_pos hk]
  have htk' : ∀ (k : Nat) (x : AOper), (aops.take m)[k]? = some x → k < m ∧ aops[k]? = some x := fun k x hx => by
    have hk : k < m := by
      have := (List.getElem?_eq_some_iff.1 hx).1
      rw [List.length_take] at this; omega
    exact ⟨hk, by rw [← htk k hk]; exact hx⟩
  have hrun : run cs (aops.take m) s = some s1 := by
    unfold runD at hs1
    split at hs1
    · exact hs1
    · simp only [Option.bind_eq_some_iff] at hs1
      obtain ⟨⟨s2, log⟩, h1, h2⟩ := hs1
      split at h2
      · cases h2; exact (runL_run h1).1
      · cases h2
  have hindep : ∀ (i j : Nat) (x y : AOper), i < j → (aops.take m)[i]? = some x → (aops.take m)[j]? = some y → (i, j) ∈ (pairsOf (masks ops.toList []) aops).filter (fun p => decide (p.2 < m)) → indep (fpO x (stAt cs (aops.take m) s i)) (fpO y (stAt cs (aops.take m) s j)) = true := by
    intro i j x y hij hx hy hmm
    unfold runD at hs1
    split at hs1
    · rename_i hnil; rw [hnil] at hmm; simp at hmm
    · simp only [Option.bind_eq_some_iff] at hs1
      obtain ⟨⟨s2, log⟩, h1, h2⟩ := hs1
      split at h2
      · rename_i hall
        have := List.all_eq_true.1 hall (i, j) hmm
        obtain ⟨_, h3, _⟩ := runL_run h1
        have e1 := h3 i x hx
        have e2 := h3 j y hy
        simp only [List.length_nil, Nat.zero_add] at e1 e2
        simpa only [e1, e2] using this
      · cases h2
  obtain ⟨hend, hstep⟩ := stAt_run hrun
  have hlt : (aops.take m).length = m := by rw [List.length_take]; omega
  rw [hlt] at hend
  simp only [okD, List.all_eq_true, List.mem_range, Bool.and_eq_true, Array.length_toList] at hok
  have hout : ∀ (k : Nat) (ao : AOper), (aops.take m)[k]? = some ao → outOp cs ao (stAt cs (aops.take m) s k) = some ((outAt cs (aops.take m) s k).1, (outAt cs (aops.take m) s k).2.1, (outAt cs (aops.take m) s k).2.2) ∧
      stAt cs (aops.take m) s (k + 1) = after (stAt cs (aops.take m) s k) ao.dst (outAt cs (aops.take m) s k).1 (outAt cs (aops.take m) s k).2.1 (outAt cs (aops.take m) s k).2.2 := by
    intro k ao hk
    obtain ⟨v, f, c, h1, h2⟩ := step_out (hstep k ao hk)
    have : outAt cs (aops.take m) s k = (v, f, c) := by simp only [outAt, hk, Option.bind_some, h1, Option.getD_some]
    rw [this]
    exact ⟨h1, h2⟩
  have hback : ∀ j o, ops[j]? = some o → ∀ e ∈ edges o, e < j := by
    intro j o hj e he
    have hjs : j < ops.size := (Array.getElem?_eq_some_iff.1 hj).1
    have := (hok j hjs).1
    rw [Array.getElem?_toList, hj] at this
    simp only [List.all_eq_true, decide_eq_true_eq] at this
    exact this e he
  have hsuf : ∀ k, m ≤ k → k < ops.size → ∀ i, i < m → ((masks ops.toList []).getD k 0).testBit i = true := by
    intro k hmk hk i hi
    unfold sufM at hsd
    simp only [List.all_eq_true, List.mem_range, Bool.or_eq_true, decide_eq_true_eq, Array.length_toList] at hsd
    rcases hsd k hk with h | h
    · omega
    · exact h i hi
  refine drawn_soundM (E := E) (G := G) hcs hmn (fun k h1 h2 i hi => hsuf k h1 h2 i hi) (ms := masks ops.toList []) rfl (fun k hk o ho => ?_) hlt hback (stAt cs (aops.take m) s) (fun k => (outAt cs (aops.take m) s k).1) (fun k => (outAt cs (aops.take m) s k).2.1) (fun k => (outAt cs (aops.take m) s k).2.2) hout (fun i j x y hij hx hy hb => ?_) ?_ (fun G' a' w' listed hS hls hll => ?_)
  · obtain ⟨ao, h1, h2⟩ := hc k o (by rw [Array.getElem?_toList]; exact ho)
    exact ⟨ao, by rw [htk k hk]; exact h1, h2, compO_dst h2⟩
  · obtain ⟨him, hx'⟩ := htk' i x hx
    obtain ⟨hjm, hy'⟩ := htk' j y hy
    have hj : j < ops.size := by omega
    have := (hok j hj).2 i hij
    rw [hb, hx', hy'] at this
    refine ⟨by simpa using this, ?_⟩
    cases hr : relevant x.op y.op with
    | false => exact fp_indep hr
    | true => exact hindep i j x y hij hx hy (List.mem_filter.2 ⟨pairsOf_mem hij hx' hy' hb hr, by simpa using hjm⟩)
  · rw [stAt_zero]
    exact ⟨h.tm, h.hp.world (fun _ _ => rfl) (Nat.le_refl _), h.df, h.le, h.kp.trans ⟨rfl, rfl, rfl, Nat.le_refl _⟩⟩
  · rw [hend] at hS
    obtain ⟨G2, hS⟩ := hwk G' a' w' hS
    have he : listed = lst0 ops.size m := by
      refine Array.ext (by rw [hls]; simp [lst0]) fun q h1 h2 => ?_
      have := hll q (by omega)
      rw [Array.getD_eq_getD_getElem?, Array.getElem?_eq_getElem h1] at this
      simp only [Option.getD_some] at this
      rw [this]
      simp [lst0]
    rw [he]
    refine any_ord hcs hh hy hl (fun i o ho => hc i o (by rw [Array.getElem?_toList]; exact ho)) (ops.size - m) _ s2 G2 a' w' (by rw [hord]; exact hs2) hS
end

/-- every drawn region of n operations is split at m, and has these orders from there on -/
def chkO (n m : Nat) (os : List (List Nat)) : Code → Bool
  | .region _ ops dr => !dr || decide (ops.size ≠ n) || (sufM m ops.toList && decide (exts ops (ops.size - m) (lst0 ops.size m) = os))
  | .seq a b => chkO n m os a && chkO n m os b
  | .cond _ a b => chkO n m os a && chkO n m os b
  | .block _ a => chkO n m os a
  | .loop a => chkO n m os a
  | .rangeFunc _ _ a b => chkO n m os a && chkO n m os b
  | _ => true
def chkFO (P : Program) (f n m : Nat) (os : List (List Nat)) : Bool := match P.funcs[f]? with
  | some fn => match fn.body with
    | some c => chkO n m os c
    | none => false
  | none => false

/-- as Cor, for code whose drawn regions of n operations are split at m -/
def CorO (n m : Nat) (os : List (List Nat)) (P : Program) (y : Ghost → Prop) (b : Nat) (x : AC) (K : Post) (s : AState) : Prop := ∀ c, compC P c = some x → chkO n m os c = true → Awp P false y b c K s
section
variable {P : Program} {y : Ghost → Prop} {b n m : Nat} {os : List (List Nat)} {K : Post} {s : AState}
theorem CorO.of {x : AC} (h : Cor P y b x K s) : CorO n m os P y b x K s := fun c hc _ => h c hc
theorem CorO.seq {x z : AC} (h : CorO n m os P y b x (eThen (CorO n m os P y b z K) K) s) : CorO n m os P y b (.seq x z) K s := fun c hc hk => by
  obtain ⟨c1, c2, rfl, h1, h2⟩ := compC_seq hc
  simp only [chkO, Bool.and_eq_true] at hk
  refine Awp.seq ((h c1 h1 hk.1).mono fun e s' hk' => ?_)
  cases e with
  | normal => exact hk' c2 h2 hk.2
  | _ => exact hk'
theorem CorO.block {id : Nat} {x : AC} (h : CorO n m os P y b x (eBlk id K) s) : CorO n m os P y b (.block id x) K s := fun c hc hk => by
  obtain ⟨d, rfl, hd⟩ := compC_block hc
  exact Awp.block (h d hd hk)
theorem CorO.loopC {x : AC} {α : Type} (S : α → AState) (I : α → Prop) (μ : α → Nat)
    (step : ∀ a, I a → CorO n m os P y b x (eThen (fun s' => ∃ a', I a' ∧ μ a' < μ a ∧ Wkn b s' (S a')) K) (S a)) {a : α} (h0 : I a) (hw : Wkn b s (S a)) : CorO n m os P y b (.loop x) K s := fun c hc hk => by
  obtain ⟨d, rfl, hd⟩ := compC_loop hc
  exact Awp.loop S I μ (fun a ha => step a ha d hd hk) h0 hw
theorem CorO.wk {x : AC} {s2 : AState} (hw : Wkn b s s2) (h : CorO n m os P y b x K s2) : CorO n m os P y b x K s := fun c hc hk => (h c hc hk).wk hw
theorem CorO.post {x : AC} (h : CorO n m os P y b x (fun e s' => ∃ s2, Wkn b s' s2 ∧ K e s2) s) : CorO n m os P y b x K s := fun c hc hk => (h c hc hk).post
theorem CorO.opsD {cs : Ctx} {hx : HCtx} (hcs : Good P cs) (hh : HGood P hx) (hm : P.follows .mixedOrders = true) {ps : List (Nat × Nat)} {l : List AOper} (hln : l.length = n) (hmn : m ≤ n)
    (h : okN (fun s1 => ∃ s2, Wkn b s1 s2 ∧ ∀ o ∈ os, okN (K .normal) (runHi cs hx l o s2)) (runD cs (l.take m) (ps.filter fun p => decide (p.2 < m)) s)) : CorO n m os P (YH P hx) b (.ops true ps l) K s := fun c hc hk => by
  obtain ⟨id, ops, rfl, h1, h2, rfl⟩ := compC_opsD hc
  have hsz : ops.size = n := by
    have := (compL_get h1).1
    rw [hln, Array.length_toList] at this
    exact this.symm
  have hsd : sufM m ops.toList = true ∧ exts ops (ops.size - m) (lst0 ops.size m) = os := by
    simp only [chkO, Bool.not_true, Bool.false_or, Bool.or_eq_true, decide_eq_true_eq, Bool.and_eq_true] at hk
    exact hk.resolve_left fun x => x hsz
  cases hrd : runD cs (l.take m) ((pairsOf (masks ops.toList []) l).filter fun p => decide (p.2 < m)) s with
  | none => rw [hrd] at h; exact h.elim
  | some s1 =>
    rw [hrd] at h
    obtain ⟨s2, hw, h⟩ := h
    exact fun r n' E hE hr hyy G a w hs => region_drawnO hcs hh (yhr (q := false) (fun e => by cases e) hr hyy) hm (by omega) hsd.1 hsd.2 h1 h2 hrd (fun G a w hs => hw E hE G a w hs) (fun o ho => by
      have := h o ho
      cases hr2 : runHi cs hx l o s2 with
      | none => rw [hr2] at this; exact this.elim
      | some s' => rw [hr2] at this; exact ⟨s', rfl, fun G' a' w' h' => ⟨s', G', this, h'⟩⟩) hs
end
theorem FnC.lokO {P : Program} {f n : Nat} {x : AC} {rs : List RV} (h : FnC P f n x rs) {n' m' : Nat} {os : List (List Nat)} (hck : chkFO P f n' m' os = true) {y : Ghost → Prop} {args : List AV} {hp : List HEnt} {nx : Nat} {R : AV → List HEnt → Nat → Prop} (hb : CorO n' m' os P y nx x (FinL rs R) (bg n args hp nx)) (hy : ∀ G, y G := by intro G; exact YH_no _ G) : LOkE P f args hp nx R := by
  obtain ⟨fn, c, h1, h2, h3, h4, rfl⟩ := h.fn
  unfold chkFO at hck
  rw [h1] at hck
  simp only [h2] at hck
  exact LOkY.e (loky_of_awp h.ent h1 h2 h3 (hb c h4 hck)) hy
/-- blocks that are left behind are forgotten -/
theorem LOk.sub {P : Program} {f : FuncId} {args : List AV} {hp hp1 hp2 : List HEnt} {nx n1 : Nat} {v : AV} (h : LOk P f args hp nx v hp1 n1) (hs : ∀ e ∈ hp2, e ∈ hp1) : LOk P f args hp nx v hp2 n1 :=
  ⟨h.1, fun G w cargs hH hr => (h.2 G w cargs hH hr).mono (by
    rintro e w' ⟨v0, hp0, nx0, G', cv, ⟨rfl, rfl, rfl⟩, he, hle, hH', hcv, hk⟩
    exact ⟨_, hp2, _, G', cv, ⟨rfl, rfl, rfl⟩, he, hle, hH'.sub hs (fun _ h => h), hcv, hk⟩)⟩
/-- a part first, that comes to a state which is no more than s2; then the rest -/
theorem Cor.seqW {P : Program} {y : Ghost → Prop} {b : Nat} {x z : AC} {K : Post} {s s2 : AState} (h1 : Cor P y b x (eThen (fun s' => Wkn b s' s2) K) s) (h2 : Cor P y b z K s2) : Cor P y b (.seq x z) K s :=
  Cor.seq (h1.mono fun e s' hk => by
    cases e with
    | normal => exact Cor.wk hk h2
    | _ => exact hk)
/-- a part first, that comes to one of a family of states; then the rest -/
theorem Cor.seqE {P : Program} {y : Ghost → Prop} {b : Nat} {x z : AC} {K : Post} {s : AState} {α : Type} (S : α → AState) (I : α → Prop) (h1 : Cor P y b x (eThen (fun s' => ∃ a, I a ∧ Wkn b s' (S a)) K) s) (h2 : ∀ a, I a → Cor P y b z K (S a)) : Cor P y b (.seq x z) K s :=
  Cor.seq (h1.mono fun e s' hk => by
    cases e with
    | normal =>
      obtain ⟨a, ha, hw⟩ := hk
      exact Cor.wk hw (h2 a ha)
    | _ => exact hk)
/-- another y -/
theorem Cor.yy {P : Program} {y y' : Ghost → Prop} {b : Nat} {x : AC} {K : Post} {s : AState} (hy : ∀ G, y' G) (h : Cor P y' b x K s) : Cor P y b x K s := fun c hc r n E hE hr hyy G a w hs => h c hc r n E hE hr (hy _) G a w hs
end Eng
