/-
THE ENGINE, PART S8: the arguments of a statement's call, as abstract values.
-/
import Derived.Test.YtjfhhaaogcgkpaaEngS9
import Derived.OpenShut
import Derived.WideShapes
import Derived.ChangeArms
import Derived.Carry
import Derived.ChangeOld
namespace Eng
open Go Go.RowKit Go.WideShapes
set_option linter.unusedSimpArgs false
set_option linter.unusedVariables false

/-- what a cell of plain data holds -/
inductive Lf where
  | i | b | s

def repL (l : List Lf) : Nat → List Lf
  | 0 => []
  | n + 1 => l ++ repL l n
def leafFs (g : TypeId → Option (List Lf)) (sz : TypeId → Nat) : List Field → Nat → Option (List Lf)
  | [], _ => some []
  | f :: fs, off => if f.offset = off then (g f.type).bind fun l => if sz f.type = l.length then (leafFs g sz fs (off + l.length)).map fun m => l ++ m else none else none
def leafK (P : Program) : Nat → TypeId → Option (List Lf)
  | 0, _ => none
  | d + 1, t => match P.underlying t with
    | some (.int .i64) => some [.i]
    | some .bool => some [.b]
    | some .string => some [.s]
    | some (.struct fs) => (leafFs (leafK P d) P.cellsOf fs.toList 0).bind fun l => if P.cellsOf t = l.length then some l else none
    | some (.array n e) => (leafK P d e).bind fun l => if P.cellsOf e = l.length ∧ P.cellsOf t = (repL l n).length then some (repL l n) else none
    | _ => none

/-- 64 bits hold it -/
abbrev w64 (n : Int) : Prop := -9223372036854775808 ≤ n ∧ n ≤ 9223372036854775807

def LfV : Lf → AV → Prop
  | .i, u => ∃ n, u = .int .i64 n ∧ w64 n
  | .b, u => ∃ b, u = .bool b
  | .s, u => ∃ s, u = .str s ∧ s.size ≤ maxLen
def Typ : List Lf → List AV → Prop
  | [], us => us = []
  | k :: ks, us => ∃ u r, us = u :: r ∧ LfV k u ∧ Typ ks r
/-- a plain value, and the same in the model -/
def toV : AV → Value
  | .int k n => .int k n
  | .bool b => .bool b
  | .str s => .string s
  | _ => undef

theorem Typ.append : ∀ {ks ls : List Lf} {us vs : List AV}, Typ ks us → Typ ls vs → Typ (ks ++ ls) (us ++ vs)
  | [], ls, us, vs, h, h' => by simp only [Typ] at h; subst h; simpa using h'
  | k :: ks, ls, us, vs, h, h' => by
    obtain ⟨u, r, rfl, h1, h2⟩ := h
    exact ⟨u, r ++ vs, rfl, h1, Typ.append h2 h'⟩
theorem Typ.length : ∀ {ks : List Lf} {us : List AV}, Typ ks us → us.length = ks.length
  | [], us, h => by simp only [Typ] at h; simp [h]
  | k :: ks, us, h => by obtain ⟨u, r, rfl, _, h2⟩ := h; simp [Typ.length h2]
theorem Typ.rel : ∀ {ks : List Lf} {us : List AV}, Typ ks us → ∀ G, VRels G us (us.map toV) ∧ (∀ c ∈ us.map toV, c.oneCell' = true) ∧ us.all AV.sc = true
  | [], us, h, G => by simp only [Typ] at h; subst h; simp [VRels]
  | k :: ks, us, h, G => by
    obtain ⟨u, r, rfl, h1, h2⟩ := h
    obtain ⟨h3, h4, h5⟩ := Typ.rel h2 G
    have h6 : VRel G u (toV u) ∧ (toV u).oneCell' = true ∧ u.sc = true := by
      cases k with
      | i => obtain ⟨n, rfl, _⟩ := h1; simp [VRel, toV, Value.oneCell', AV.sc]
      | b => obtain ⟨n, rfl⟩ := h1; simp [VRel, toV, Value.oneCell', AV.sc]
      | s => obtain ⟨n, rfl, _⟩ := h1; simp [VRel, toV, Value.oneCell', AV.sc]
    refine ⟨?_, ?_, ?_⟩
    · simp only [List.map_cons, VRels]; exact ⟨_, _, rfl, h6.1, h3⟩
    · intro c hc
      rcases List.mem_cons.1 hc with rfl | hc
      · exact h6.2.1
      · exact h4 c hc
    · simp [h6.2.2, h5]
theorem Typ.free : ∀ {ks : List Lf} {us : List AV}, Typ ks us → ∀ φ, subs φ us = us
  | [], us, h, φ => by simp only [Typ] at h; subst h; rfl
  | k :: ks, us, h, φ => by
    obtain ⟨u, r, rfl, h1, h2⟩ := h
    have : sub1 φ u = u := by
      cases k with
      | i => obtain ⟨n, rfl, _⟩ := h1; rfl
      | b => obtain ⟨n, rfl⟩ := h1; rfl
      | s => obtain ⟨n, rfl, _⟩ := h1; rfl
    simp only [subs, this, Typ.free h2 φ]

section
variable {H : Type} {enc : TypeId × Value → H} {P : Program} {w : World} {base : Nat} {sp : Nat → Bool} {held : Bool}

theorem leaf_fs {n : Nat} {g : TypeId → Option (List Lf)} {cs : List Value} (ih : ∀ {t : TypeId} {ks : List Lf} {cs : List Value} {x : DataW H × List MemPlace}, g t = some ks → DataW.trod enc P w base sp held n t cs = some x → ∃ us, Typ ks us ∧ cs = us.map toV) :
    ∀ (fs : List Field) (off : Nat) (l : List Lf), leafFs g P.cellsOf fs off = some l → (∀ f ∈ fs, ∃ x, DataW.trod enc P w base sp held n f.type ((cs.drop f.offset).take (P.cellsOf f.type)) = some x) → cs.length = off + l.length →
      ∃ us, Typ l us ∧ cs.drop off = us.map toV
  | [], off, l, hl, hf, hlen => by
    simp only [leafFs, Option.some.injEq] at hl
    subst hl
    exact ⟨[], rfl, by simp [List.drop_eq_nil_of_le, hlen]⟩
  | f :: fs, off, l, hl, hf, hlen => by
    simp only [leafFs] at hl
    split at hl
    · rename_i ho
      simp only [Option.bind_eq_some_iff] at hl
      obtain ⟨l1, h1, hl⟩ := hl
      split at hl
      · rename_i hsz
        simp only [Option.map_eq_some_iff] at hl
        obtain ⟨l2, h2, rfl⟩ := hl
        obtain ⟨x, hx⟩ := hf f (by simp)
        obtain ⟨us1, t1, e1⟩ := ih h1 hx
        obtain ⟨us2, t2, e2⟩ := leaf_fs ih fs (off + l1.length) l2 h2 (fun f' hf' => hf f' (by simp [hf'])) (by rw [hlen, List.length_append]; omega)
        refine ⟨us1 ++ us2, t1.append t2, ?_⟩
        rw [List.map_append, ← e1, ← e2, ho, hsz]
        conv => lhs; rw [← List.take_append_drop l1.length (cs.drop off), List.drop_drop]
      · cases hl
    · cases hl

theorem leaf_arr {n : Nat} {cs : List Value} {e : TypeId} {l : List Lf} (hsz : P.cellsOf e = l.length) (ih : ∀ {cs : List Value} {x : DataW H × List MemPlace}, DataW.trod enc P w base sp held n e cs = some x → ∃ us, Typ l us ∧ cs = us.map toV) :
    ∀ (k i : Nat), (∀ j, i ≤ j → j < i + k → ∃ x, DataW.trod enc P w base sp held n e ((cs.drop (j * P.cellsOf e)).take (P.cellsOf e)) = some x) → cs.length = i * l.length + (repL l k).length →
      ∃ us, Typ (repL l k) us ∧ cs.drop (i * l.length) = us.map toV
  | 0, i, hf, hlen => ⟨[], rfl, by simp [List.drop_eq_nil_of_le, hlen, repL]⟩
  | k + 1, i, hf, hlen => by
    obtain ⟨x, hx⟩ := hf i (Nat.le_refl _) (by omega)
    obtain ⟨us1, t1, e1⟩ := ih hx
    have hi : (i + 1) * l.length = i * l.length + l.length := by rw [Nat.add_mul]; omega
    obtain ⟨us2, t2, e2⟩ := leaf_arr hsz ih k (i + 1) (fun j h1 h2 => hf j (by omega) (by omega)) (by rw [hlen, repL, List.length_append, hi]; omega)
    refine ⟨us1 ++ us2, t1.append t2, ?_⟩
    rw [List.map_append, ← e1, ← e2, hsz, hi]
    conv => lhs; rw [← List.take_append_drop l.length (cs.drop (i * l.length)), List.drop_drop]

theorem trod_leaf : ∀ {d : Nat} {n : Nat} {t : TypeId} {ks : List Lf} {cs : List Value} {x : DataW H × List MemPlace}, leafK P d t = some ks → DataW.trod enc P w base sp held n t cs = some x → ∃ us, Typ ks us ∧ cs = us.map toV
  | 0, n, t, ks, cs, x, hk, h => by simp [leafK] at hk
  | d + 1, n, t, ks, cs, x, hk, h => by
    simp only [leafK] at hk
    split at hk
    · rename_i ht
      cases hk
      obtain ⟨m, rfl, _, hw⟩ := DataW.trod_int ht h
      have hw : w64 m := by
        simp [Lit.wf, IntKind.min, IntKind.max, IntKind.signed, IntKind.bits] at hw
        exact hw
      exact ⟨[.int .i64 m], ⟨_, [], rfl, ⟨m, rfl, hw⟩, rfl⟩, rfl⟩
    · rename_i ht
      cases hk
      obtain ⟨b, rfl, _⟩ := DataW.trod_bool ht h
      exact ⟨[.bool b], ⟨_, [], rfl, ⟨b, rfl⟩, rfl⟩, rfl⟩
    · rename_i ht
      cases hk
      obtain ⟨s, rfl, _, hs⟩ := DataW.trod_string ht h
      exact ⟨[.str s], ⟨_, [], rfl, ⟨s, rfl, hs⟩, rfl⟩, rfl⟩
    · rename_i fs ht
      simp only [Option.bind_eq_some_iff] at hk
      obtain ⟨l, hl, hk⟩ := hk
      split at hk
      · rename_i hsz
        cases hk
        obtain ⟨xs, m, rfl, _, hlen, hxl, hf⟩ := DataW.trod_struct ht h
        have := leaf_fs (cs := cs) (n := m) (fun hk hx => trod_leaf (d := d) hk hx) fs.toList 0 ks hl (fun f hf' => by
          obtain ⟨i, hi, hfi⟩ := List.getElem_of_mem hf'
          have hi' : i < fs.size := by simpa using hi
          have h1 := hf i f (by rw [← hfi]; simp [hi'])
          rw [h1]
          exact ⟨xs[i]'(by omega), List.getElem?_eq_getElem _⟩) (by rw [hlen, hsz]; simp)
        simpa using this
      · cases hk
    · rename_i k e ht
      simp only [Option.bind_eq_some_iff] at hk
      obtain ⟨l, hl, hk⟩ := hk
      split at hk
      · rename_i hsz
        cases hk
        obtain ⟨xs, m, rfl, _, hlen, hxl, hf⟩ := DataW.trod_array ht h
        have := leaf_arr (cs := cs) (n := m) hsz.1 (fun hx => trod_leaf (d := d) hl hx) k 0 (fun j _ hj => by
          rw [hf j (by omega)]
          exact ⟨xs[j]'(by omega), List.getElem?_eq_getElem _⟩) (by rw [hlen, hsz.2]; simp)
        simpa using this
      · cases hk
    · cases hk
end

/-! ### arguments -/
inductive Ar where
  | one (k : Lf)
  | agg (ks : List Lf)
  | sl (ag : Bool) (ks : List Lf)

def isAggT (P : Program) (t : TypeId) : Option Bool :=
  match P.underlying t with
  | some (.struct _) | some (.array _ _) => some true
  | some (.int .i64) | some .bool | some .string => some false
  | _ => none
def argK (P : Program) (t : TypeId) : Option Ar :=
  match P.underlying t with
  | some (.slice e) => match isAggT P e, leafK P 8 e with
    | some true, some ks => if ks.length = P.cellsOf e ∧ 0 < ks.length then some (.sl true ks) else none
    | some false, some [k] => if P.cellsOf e = 1 then some (.sl false [k]) else none
    | _, _ => none
  | some (.struct _) | some (.array _ _) => (leafK P 8 t).map .agg
  | _ => match leafK P 8 t with
    | some [k] => some (.one k)
    | _ => none

def mkA (ag : Bool) (us : List AV) : AV := if ag then .agg us else us.headD .any
def ArV : Ar → AV → Prop
  | .one k, u => LfV k u
  | .agg ks, u => ∃ us, u = .agg us ∧ Typ ks us
  | .sl ag ks, u => ∃ l : List (List AV), u = .vs (l.map (mkA ag)) ∧ (∀ us ∈ l, Typ ks us) ∧ l.length ≤ maxLen

/-- all that lies in the world is never written any more -/
def gh (W : World) : Ghost := { ι := fun _ => none, ro := fun r => W.heap[r]?, an := ⟨fun _ => False, fun _ => none, fun _ => none⟩ }
theorem gh_ok (W : World) : (gh W).ok W := fun _ _ h => h

theorem mkA_cells {ag : Bool} {us : List AV} (h : us.all AV.sc = true) (h1 : ag = false → us.length = 1) : (mkA ag us).cells = us := by
  cases ag with
  | true => rfl
  | false =>
    match us, h1 rfl with
    | [u], _ =>
      simp only [List.all_cons, List.all_nil, Bool.and_true] at h
      exact cells_of_sc h

theorem open_arg {H : Type} {enc : TypeId × Value → H} {P : Program} {W : World} {t : TypeId} {k : Ar} (hk : argK P t = some k) {b0 : Nat} {r : Reach} {v : Value} {d : DataW H} {p : List MemPlace} (hval : Value.okWide P W r b0 t v) (h : DataW.Trod enc P W 0 (fun _ => true) true t v d p) :
    ∃ u, ArV k u ∧ VRel (gh W) u v := by
  obtain ⟨fuel, hf⟩ := h
  unfold argK at hk
  split at hk
  · rename_i e ht
    obtain ⟨a, len, cap, rfl⟩ := okWide_slice ht hval
    have hspot : ∀ x, a = some x → x.spot = none := by
      rintro x rfl
      unfold Value.okWide at hval
      rw [ht] at hval
      simp only [Cell.okWide, ht, Cell.ok] at hval
      exact hval.2.2.2.1
    have fin : ∀ (ag : Bool) (ks : List Lf), leafK P 8 e = some ks → ks.length = P.cellsOf e → 0 < ks.length → (ag = false → ks.length = 1) → ∃ u, ArV (.sl ag ks) u ∧ VRel (gh W) u (.slice a len cap) := by
      intro ag ks hks hlen hpos h1
      rcases DataW.trod_slice ht hf with ⟨h0, _⟩ | ⟨x, len', cap', elems, rest, m, _, hcs, _, _, hlc, hcm, hel, hget, _⟩
      · simp only [Value.cells, List.cons.injEq, Value.slice.injEq, and_true] at h0
        have h0 : a = none ∧ len = 0 ∧ cap = 0 := by simpa using h0
        obtain ⟨rfl, rfl, rfl⟩ := h0
        exact ⟨.vs [], ⟨[], rfl, by simp, by simp⟩, by simp [VRel]⟩
      · have hcs : a = some x ∧ len = len' ∧ cap = cap' := by simpa [Value.cells] using hcs
        obtain ⟨rfl, rfl, rfl⟩ := hcs
        have hsp := hspot x rfl
        obtain ⟨b, off, spot⟩ := x
        simp only at hsp
        subst hsp
        have each : ∀ i, i < len → ∃ us, Typ ks us ∧ RoCells (gh W) b (off + i * ks.length) (us.map toV) := by
          intro i hi
          have hi' : i < elems.length := by omega
          have hg := hget i hi
          rw [List.getElem?_eq_getElem hi'] at hg
          simp only [Option.bind_eq_some_iff] at hg
          obtain ⟨cs', hc, hx⟩ := hg
          obtain ⟨us, hty, rfl⟩ := trod_leaf hks hx
          refine ⟨us, hty, ?_⟩
          obtain ⟨_, hl, hcell⟩ := World.cells?_some hc
          have hcell' : ∀ j c, (us.map toV)[j]? = some c → W.cell? ⟨b, off + i * ks.length + j, none⟩ = some c := by
            intro j c hj
            have hj' : j < P.cellsOf e := by
              have := (List.getElem?_eq_some_iff.1 hj).1
              rw [hl] at this; exact this
            have := hcell j hj'
            rw [hj] at this
            have e1 : ((⟨b, off, none⟩ : Addr).add (i * P.cellsOf e)).add j = ⟨b, off + i * ks.length + j, none⟩ := by
              rw [← hlen]
              unfold Addr.add
              split <;> split <;> simp_all
            rwa [e1] at this
          have h0 : 0 < (us.map toV).length := by rw [List.length_map, hty.length]; exact hpos
          have hc0 := hcell' 0 _ (List.getElem?_eq_getElem h0)
          unfold World.cell? at hc0
          simp only at hc0
          cases ho : W.heap[b]? with
          | none => rw [ho] at hc0; cases hc0
          | some o =>
            cases o with
            | cells cur ty fr =>
              refine ⟨cur, ty, fr, ho, fun j c hj => ?_⟩
              have := hcell' j c hj
              unfold World.cell? at this
              simp only [ho] at this
              simpa using this
            | _ => rw [ho] at hc0; cases hc0
        have rows : ∀ (k i : Nat), i + k = len → ∃ l : List (List AV), l.length = k ∧ (∀ us ∈ l, Typ ks us) ∧ VRows (gh W) (l.map (mkA ag)) b (off + i * ks.length) ks.length := by
          intro k
          induction k with
          | zero => intro i _; exact ⟨[], rfl, by simp, by simp [VRows]⟩
          | succ k ih =>
            intro i hi
            obtain ⟨us, hty, hro⟩ := each i (by omega)
            obtain ⟨l, hl1, hl2, hl3⟩ := ih (i + 1) (by omega)
            obtain ⟨h2, h3, h4⟩ := hty.rel (gh W)
            have h5 : (mkA ag us).cells = us := mkA_cells h4 (fun e => by rw [hty.length]; exact h1 e)
            refine ⟨us :: l, by simp [hl1], fun us' hus => ?_, ?_⟩
            · rcases List.mem_cons.1 hus with rfl | hus
              · exact hty
              · exact hl2 _ hus
            · simp only [List.map_cons, VRows]
              refine ⟨?_, by have : off + i * ks.length + ks.length = off + (i + 1) * ks.length := by rw [Nat.add_mul]; omega
                             rw [this]; exact hl3⟩
              cases ag with
              | true =>
                refine ⟨.agg (us.map toV).toArray, by simp only [mkA, if_true, VRel]; exact ⟨_, h2, h3, rfl⟩, by rw [h5, hty.length], by simp [Value.cells, hty.length], by simpa [Value.cells] using h3, by simpa [Value.cells] using hro⟩
              | false =>
                have hl1 : us.length = 1 := by rw [hty.length]; exact h1 rfl
                match us, hl1 with
                | [u], _ =>
                  have hu : VRel (gh W) u (toV u) ∧ (toV u).oneCell' = true := by
                    refine ⟨?_, h3 _ (by simp)⟩
                    simp only [List.map_cons, List.map_nil, VRels] at h2
                    obtain ⟨c, cs, e1, h6, _⟩ := h2
                    simp only [List.cons.injEq] at e1
                    exact e1.1 ▸ h6
                  have hcel : (toV u).cells = #[toV u] := by
                    have := hu.2
                    cases hv : toV u <;> first | rfl | (rw [hv] at this; simp [Value.oneCell'] at this)
                  refine ⟨toV u, hu.1, by rw [h5, hty.length], by rw [hcel, h1 rfl]; rfl, by rw [hcel]; simpa using hu.2, by rw [hcel]; simpa using hro⟩
        obtain ⟨l, hl1, hl2, hl3⟩ := rows len 0 (by omega)
        refine ⟨.vs (l.map (mkA ag)), ⟨l, rfl, hl2, by omega⟩, ?_⟩
        simp only [VRel]
        refine .inr ⟨b, off, ks.length, cap, by simpa using hl3, by simp [hl1], by simp [hl1, hlc]⟩
    split at hk
    · rename_i ks _ hks
      split at hk
      · rename_i hc
        cases hk
        exact fin true ks hks hc.1 hc.2 (by simp)
      · cases hk
    · rename_i k' _ hks
      split at hk
      · rename_i hc
        cases hk
        exact fin false [k'] hks (by simp [hc]) (by simp) (fun _ => rfl)
      · cases hk
    · cases hk
  · rename_i fs hs
    simp only [Option.map_eq_some_iff] at hk
    obtain ⟨ks, hks, rfl⟩ := hk
    unfold Value.okWide at hval
    rw [hs] at hval
    obtain ⟨cs, rfl, _⟩ := hval
    obtain ⟨us, hty, e1⟩ := trod_leaf hks hf
    have e1 : cs.toList = us.map toV := by simpa [Value.cells] using e1
    obtain ⟨h2, h3, _⟩ := hty.rel (gh W)
    refine ⟨.agg us, ⟨us, rfl, hty⟩, ?_⟩
    simp only [VRel]
    exact ⟨us.map toV, h2, h3, by rw [← e1]⟩
  · rename_i n e hs
    simp only [Option.map_eq_some_iff] at hk
    obtain ⟨ks, hks, rfl⟩ := hk
    unfold Value.okWide at hval
    rw [hs] at hval
    obtain ⟨cs, rfl, _⟩ := hval
    obtain ⟨us, hty, e1⟩ := trod_leaf hks hf
    have e1 : cs.toList = us.map toV := by simpa [Value.cells] using e1
    obtain ⟨h2, h3, _⟩ := hty.rel (gh W)
    refine ⟨.agg us, ⟨us, rfl, hty⟩, ?_⟩
    simp only [VRel]
    exact ⟨us.map toV, h2, h3, by rw [← e1]⟩
  · rename_i ho1 ho2 ho3
    split at hk
    · rename_i k' hks
      cases hk
      obtain ⟨us, ⟨u, r, rfl, hty, hr⟩, e1⟩ := trod_leaf hks hf
      simp only [Typ] at hr
      subst hr
      have hleaf : v.cells = #[v] := by
        cases v with
        | agg cs =>
          unfold Value.okWide at hval
          split at hval
          · rename_i hs; exact absurd hs (ho2 _)
          · rename_i hs; exact absurd hs (ho3 _ _)
          · simp only [leafK] at hks
            split at hks
            · rename_i hs; simp [Cell.okWide, hs, Cell.ok] at hval
            · rename_i hs; simp [Cell.okWide, hs, Cell.ok] at hval
            · rename_i hs; simp [Cell.okWide, hs, Cell.ok] at hval
            · rename_i hs; exact absurd hs (ho2 _)
            · rename_i hs; exact absurd hs (ho3 _ _)
            · cases hks
        | _ => rfl
      rw [hleaf] at e1
      simp only [List.map_cons, List.map_nil, List.cons.injEq, and_true] at e1
      refine ⟨u, hty, ?_⟩
      rw [show v = toV u by simpa using e1]
      have := (Typ.rel (ks := [k']) ⟨u, [], rfl, hty, rfl⟩ (gh W)).1
      simp only [List.map_cons, List.map_nil, VRels] at this
      obtain ⟨c, cs, e2, h6, _⟩ := this
      simp only [List.cons.injEq] at e2
      exact e2.1 ▸ h6
    · cases hk
end Eng
