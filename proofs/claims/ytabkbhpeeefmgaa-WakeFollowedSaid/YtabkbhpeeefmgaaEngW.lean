/-
THE ENGINE, PART V: other numbers for blocks; blocks that are not written any more; forgetting.
THE ENGINE, PART W: the step 'other numbers' is sound.
-/
import Derived.Test.YtabkbhpeeefmgaaEngU
namespace Eng
open Go Go.RowKit
set_option linter.unusedSimpArgs false
set_option linter.unusedVariables false

inductive Fate where
  | gone
  | as (u : Nat)
  | froz (esz : Nat) (vals : List AV)

mutual
def sub1 (φ : Nat → Fate) : AV → AV
  | .ptr t esz i j => match φ t with | .as u => .ptr u esz i j | .froz e vals => if e = esz then .vp vals i j else .any | .gone => .any
  | .vp vals i j => .vp (subs φ vals) i j
  | .slice t esz i n => match φ t with | .as u => .slice u esz i n | .froz e vals => if e = esz ∧ i + n ≤ vals.length then .vs ((vals.drop i).take n) else .any | .gone => .any
  | .vs vals => .vs (subs φ vals)
  | .vx vals => .vx (subs φ vals)
  | .mapv t => match φ t with | .as u => .mapv u | _ => .any
  | .fn f first cap => .fn f (subs φ first) (subs φ cap)
  | .yield t => match φ t with | .as u => .yield u | _ => .any
  | .iface t v => .iface t (sub1 φ v)
  | .agg cs => .agg (subs φ cs)
  | .tup us => .tup (subs φ us)
  | .any => .any
  | .bool b => .bool b
  | .int k n => .int k n
  | .str s => .str s
  | .nilptr => .nilptr
  | .nilslice => .nilslice
  | .nilmap => .nilmap
  | .nilfn => .nilfn
  | .nilif => .nilif
def subs (φ : Nat → Fate) : List AV → List AV
  | [] => []
  | v :: vs => sub1 φ v :: subs φ vs
end

theorem subs_map (φ : Nat → Fate) : ∀ (l : List AV), subs φ l = l.map (sub1 φ)
  | [] => rfl
  | v :: vs => by simp only [subs, List.map_cons, subs_map φ vs]

theorem subs_length (φ : Nat → Fate) (l : List AV) : (subs φ l).length = l.length := by rw [subs_map, List.length_map]

theorem sub1_cells (φ : Nat → Fate) (v : AV) : (sub1 φ v).cells = subs φ v.cells := by
  cases v
  case agg cs => rfl
  case ptr t esz i j =>
    show _ = [sub1 φ (.ptr t esz i j)]
    simp only [sub1]
    cases φ t <;> try rfl
    simp only
    split <;> rfl
  case slice t esz i n =>
    show _ = [sub1 φ (.slice t esz i n)]
    simp only [sub1]
    cases φ t <;> try rfl
    simp only
    split <;> rfl
  case mapv t =>
    show _ = [sub1 φ (.mapv t)]
    simp only [sub1]
    cases φ t <;> rfl
  case yield t =>
    show _ = [sub1 φ (.yield t)]
    simp only [sub1]
    cases φ t <;> rfl
  all_goals rfl

theorem flat_subs (φ : Nat → Fate) : ∀ (l : List AV), flat (subs φ l) = subs φ (flat l)
  | [] => rfl
  | v :: vs => by
    simp only [subs, flat, sub1_cells, flat_subs φ vs]
    simp only [subs_map, List.map_append]

theorem VRows.drop {G : Ghost} : ∀ {vals : List AV} {b o esz : Nat} (i : Nat), VRows G vals b o esz → VRows G (vals.drop i) b (o + i * esz) esz
  | [], _, _, _, i, _ => by simp only [List.drop_nil, VRows]
  | v :: vs, b, o, esz, 0, h => by simpa using h
  | v :: vs, b, o, esz, i + 1, h => by
    simp only [VRows] at h
    have := VRows.drop i h.2
    simp only [List.drop_succ_cons]
    rw [show o + (i + 1) * esz = o + esz + i * esz by rw [Nat.add_mul]; omega]
    exact this

theorem VRows.take {G : Ghost} : ∀ {vals : List AV} {b o esz : Nat} (n : Nat), VRows G vals b o esz → VRows G (vals.take n) b o esz
  | [], _, _, _, n, _ => by simp only [List.take_nil, VRows]
  | v :: vs, b, o, esz, 0, h => by simp only [List.take_zero, VRows]
  | v :: vs, b, o, esz, n + 1, h => by
    simp only [VRows] at h
    simp only [List.take_succ_cons, VRows]
    exact ⟨h.1, VRows.take n h.2⟩

/-- what is asked of a substitution -/
structure Subst (G G' : Ghost) (φ : Nat → Fate) : Prop where
  ro : ∀ r cur e fr, G.ro r = some (.cells cur e fr) → G'.ro r = some (.cells cur e fr)
  as : ∀ t u l, φ t = .as u → G.ι t = some l → G'.ι u = some l
  froz : ∀ t esz vals l, φ t = .froz esz vals → G.ι t = some l → l.esz = esz ∧ VRows G' vals l.b 0 esz

mutual
theorem VRel.subst {G G' : Ghost} {φ : Nat → Fate} (h : Subst G G' φ) : ∀ (v : AV) {cv : Value}, VRel G v cv → VRel G' (sub1 φ v) cv
  | .any, _, _ => by simp only [sub1, VRel]
  | .bool b, cv, x => by simpa only [sub1, VRel] using x
  | .int k n, cv, x => by simpa only [sub1, VRel] using x
  | .str s, cv, x => by simpa only [sub1, VRel] using x
  | .nilptr, cv, x => by simpa only [sub1, VRel] using x
  | .ptr t esz i j, cv, x => by
    simp only [VRel] at x
    obtain ⟨l, h1, h2, h3⟩ := x
    simp only [sub1]
    cases hφ : φ t with
    | gone => simp only [VRel]
    | as u => simp only [VRel]; exact ⟨l, h.as _ _ _ hφ h1, h2, h3⟩
    | froz e vals =>
      obtain ⟨h4, h5⟩ := h.froz _ _ _ _ hφ h1
      simp only
      split
      · rename_i he
        subst he
        simp only [VRel]
        exact ⟨l.b, 0, e, h5, by rw [h3, Nat.zero_add]⟩
      · simp only [VRel]
  | .vp vals i j, cv, x => by
    simp only [sub1, VRel] at x ⊢
    obtain ⟨b, o, esz, h1, h2⟩ := x
    exact ⟨b, o, esz, VRows.subst h vals h1, h2⟩
  | .nilslice, cv, x => by simpa only [sub1, VRel] using x
  | .slice t esz i n, cv, x => by
    simp only [VRel] at x
    obtain ⟨l, cap, h1, h2, h3, h4, h5, h6⟩ := x
    simp only [sub1]
    cases hφ : φ t with
    | gone => simp only [VRel]
    | as u => simp only [VRel]; exact ⟨l, cap, h.as _ _ _ hφ h1, h2, h3, h4, h5, h6⟩
    | froz e vals =>
      obtain ⟨h7, h8⟩ := h.froz _ _ _ _ hφ h1
      simp only
      split
      · rename_i he
        obtain ⟨rfl, hl⟩ := he
        have hlen : ((vals.drop i).take n).length = n := by rw [List.length_take, List.length_drop]; omega
        simp only [VRel]
        refine .inr ⟨l.b, i * e, e, cap, ?_, by rw [hlen, h3], by rw [hlen]; exact h4⟩
        have := (h8.drop i).take n
        rwa [Nat.zero_add] at this
      · simp only [VRel]
  | .vs vals, cv, x => by
    simp only [sub1, VRel] at x ⊢
    rcases x with ⟨rfl, h2⟩ | ⟨b, o, esz, cap, h1, h2⟩
    · exact .inl ⟨by simp only [subs], h2⟩
    · exact .inr ⟨b, o, esz, cap, VRows.subst h vals h1, by rw [subs_length]; exact h2⟩
  | .vx vals, cv, x => by
    simp only [sub1, VRel] at x ⊢
    rcases x with ⟨rfl, h2⟩ | ⟨b, o, esz, h1, h2⟩
    · exact .inl ⟨by simp only [subs], h2⟩
    · exact .inr ⟨b, o, esz, VRows.subst h vals h1, by rw [subs_length]; exact h2⟩
  | .mapv t, cv, x => by
    simp only [VRel] at x
    obtain ⟨l, h1, h2⟩ := x
    simp only [sub1]
    cases hφ : φ t with
    | gone => simp only [VRel]
    | as u => simp only [VRel]; exact ⟨l, h.as _ _ _ hφ h1, h2⟩
    | froz e vals => simp only [VRel]
  | .nilmap, cv, x => by simpa only [sub1, VRel] using x
  | .fn f first cap, cv, x => by
    simp only [sub1, VRel] at x ⊢
    obtain ⟨cf, cc, h1, h2, h3⟩ := x
    exact ⟨cf, cc, VRels.subst h first h1, VRels.subst h cap h2, h3⟩
  | .yield t, cv, x => by
    simp only [VRel] at x
    obtain ⟨l, h1, h2⟩ := x
    simp only [sub1]
    cases hφ : φ t with
    | gone => simp only [VRel]
    | as u => simp only [VRel]; exact ⟨l, h.as _ _ _ hφ h1, h2⟩
    | froz e vals => simp only [VRel]
  | .nilfn, cv, x => by simpa only [sub1, VRel] using x
  | .iface t v, cv, x => by
    simp only [sub1, VRel] at x ⊢
    obtain ⟨c, h1, h2⟩ := x
    exact ⟨c, VRel.subst h v h1, h2⟩
  | .nilif, cv, x => by simpa only [sub1, VRel] using x
  | .agg cs, cv, x => by
    simp only [sub1, VRel] at x ⊢
    obtain ⟨ccs, h1, h2⟩ := x
    exact ⟨ccs, VRels.subst h cs h1, h2⟩
  | .tup us, cv, x => by
    simp only [sub1, VRel] at x ⊢
    obtain ⟨ccs, h1, h2⟩ := x
    exact ⟨ccs, VRels.subst h us h1, h2⟩
theorem VRels.subst {G G' : Ghost} {φ : Nat → Fate} (h : Subst G G' φ) : ∀ (vs : List AV) {l : List Value}, VRels G vs l → VRels G' (subs φ vs) l
  | [], l, x => by simpa only [subs, VRels] using x
  | v :: vs, l, x => by
    simp only [subs, VRels] at x ⊢
    obtain ⟨c, cs, h1, h2, h3⟩ := x
    exact ⟨c, cs, h1, VRel.subst h v h2, VRels.subst h vs h3⟩
theorem VRows.subst {G G' : Ghost} {φ : Nat → Fate} (h : Subst G G' φ) : ∀ (vs : List AV) {b o esz : Nat}, VRows G vs b o esz → VRows G' (subs φ vs) b o esz
  | [], _, _, _, _ => by simp only [subs, VRows]
  | v :: vs, b, o, esz, x => by
    simp only [subs, VRows] at x ⊢
    obtain ⟨⟨cv, h1, h2, h3, h4, cur, e, fr, h5, h6⟩, h7⟩ := x
    exact ⟨⟨cv, VRel.subst h v h1, by rw [sub1_cells, subs_length]; exact h2, h3, h4, cur, e, fr, h.ro _ _ _ _ h5, h6⟩, VRows.subst h vs h7⟩
end

mutual
theorem sub1_id : ∀ v : AV, sub1 Fate.as v = v
  | .ptr t esz i j => rfl
  | .vp vals i j => by simp only [sub1, subs_id]
  | .slice t esz i n => rfl
  | .vs vals => by simp only [sub1, subs_id]
  | .vx vals => by simp only [sub1, subs_id]
  | .mapv t => rfl
  | .fn f first cap => by simp only [sub1, subs_id]
  | .yield t => rfl
  | .iface t v => by simp only [sub1, sub1_id]
  | .agg cs => by simp only [sub1, subs_id]
  | .tup us => by simp only [sub1, subs_id]
  | .any => rfl
  | .bool b => rfl
  | .int k n => rfl
  | .str s => rfl
  | .nilptr => rfl
  | .nilslice => rfl
  | .nilmap => rfl
  | .nilfn => rfl
  | .nilif => rfl
theorem subs_id : ∀ l : List AV, subs Fate.as l = l
  | [] => rfl
  | v :: vs => by simp only [subs, sub1_id, subs_id]
end

/-- the cells that are never written tell all that a value says -/
theorem VRel.csub {G G' : Ghost} (hι : ∀ t l, G.ι t = some l → G'.ι t = some l) (hro : ∀ r cur e fr, G.ro r = some (.cells cur e fr) → G'.ro r = some (.cells cur e fr)) {v : AV} {cv : Value} (h : VRel G v cv) : VRel G' v cv := by
  have hs : Subst G G' Fate.as := ⟨hro, fun t u l e h => by cases e; exact hι t l h, fun t esz vals l e => by cases e⟩
  have := VRel.subst hs v h
  rwa [sub1_id] at this
theorem VRels.csub {G G' : Ghost} (hι : ∀ t l, G.ι t = some l → G'.ι t = some l) (hro : ∀ r cur e fr, G.ro r = some (.cells cur e fr) → G'.ro r = some (.cells cur e fr)) {v : List AV} {cv : List Value} (h : VRels G v cv) : VRels G' v cv := by
  have hs : Subst G G' Fate.as := ⟨hro, fun t u l e h => by cases e; exact hι t l h, fun t esz vals l e => by cases e⟩
  have := VRels.subst hs v h
  rwa [subs_id] at this

def ABlk.sub (φ : Nat → Fate) : ABlk → ABlk
  | .rows e esz vals => .rows e esz (subs φ vals)
  | .obj o => .obj o

theorem BRel.subst {G G' : Ghost} {φ : Nat → Fate} (h : Subst G G' φ) {l : Loc} {w : World} {k : ABlk} (x : BRel G l w k) : BRel G' l w (k.sub φ) := by
  cases k with
  | rows e esz vals =>
    obtain ⟨h1, h2, cur, h3, h4, pre, suf, h5, h6, h7⟩ := x
    refine ⟨h1, fun v hv => ?_, cur, h3, h4, pre, suf, h5, ?_, h7⟩
    · rw [subs_map, List.mem_map] at hv
      obtain ⟨u, hu, rfl⟩ := hv
      rw [sub1_cells, subs_length]; exact h2 u hu
    · rw [flat_subs]; exact VRels.subst h _ h6
  | obj o => exact x

/-! ### the step -/
structure Wk where
  /-- below it all stays as it is -/
  b : Nat
  /-- old number, new number -/
  ren : List (Nat × Nat)
  frz : List Nat
  nx : Nat
  /-- the slots that are still looked at -/
  keep : List Nat

def assoc : List (Nat × Nat) → Nat → Option Nat
  | [], _ => none
  | (a, b) :: r, t => if a = t then some b else assoc r t
def assocR : List (Nat × Nat) → Nat → Option Nat
  | [], _ => none
  | (a, b) :: r, u => if b = u then some a else assocR r u
def memN : List Nat → Nat → Bool
  | [], _ => false
  | a :: r, t => if a = t then true else memN r t

def Wk.fate0 (k : Wk) (t : Nat) : Fate :=
  if t < k.b then .as t else match assoc k.ren t with | some u => .as u | none => .gone
def Wk.fate (k : Wk) (hp : List HEnt) (t : Nat) : Fate :=
  if t < k.b then .as t else
  if memN k.frz t then (match getE hp t with | some ⟨_, _, .rows _ esz vals⟩ => .froz esz (subs k.fate0 vals) | _ => .gone)
  else match assoc k.ren t with | some u => .as u | none => .gone

def keepT (ks : List Nat) (φ : Nat → Fate) : Nat → List AV → List AV
  | _, [] => []
  | i, v :: vs => (if memN ks i then sub1 φ v else .any) :: keepT ks φ (i + 1) vs

def Wk.hp (k : Wk) (φ : Nat → Fate) : List HEnt → List HEnt
  | [] => []
  | e :: r =>
    if e.id < k.b then ⟨e.id, e.grp, e.blk.sub φ⟩ :: k.hp φ r
    else if memN k.frz e.id then k.hp φ r
    else match assoc k.ren e.id with
      | some u => ⟨u, if e.grp < k.b then e.grp else u, e.blk.sub φ⟩ :: k.hp φ r
      | none => k.hp φ r

end Eng

namespace Eng
open Go Go.RowKit
set_option linter.unusedSimpArgs false
set_option linter.unusedVariables false

def idg (hp : List HEnt) : List (Nat × Nat) := hp.map fun e => (e.id, e.grp)

def nodupN : List Nat → Bool
  | [] => true
  | a :: r => !memN r a && nodupN r

def Wk.isF (k : Wk) (t : Nat) : Bool := !decide (t < k.b) && memN k.frz t
def Wk.isK (k : Wk) (t : Nat) : Bool := decide (t < k.b) || (!memN k.frz t && (assoc k.ren t).isSome)

def Wk.ok (k : Wk) (l : List (Nat × Nat)) : Bool :=
  decide (k.b ≤ k.nx) && (k.ren.all fun p => decide (k.b ≤ p.1) && decide (k.b ≤ p.2) && decide (p.2 < k.nx)) && nodupN (k.ren.map (·.2)) &&
  l.all fun p => !(k.isK p.1) || ((!decide (p.1 < k.b) || decide (p.2 < k.b)) && l.all fun q => (!(k.isF q.1) || !decide (q.2 = p.2)) && (!(k.isK q.1) || !decide (q.2 = p.2) || decide (p.2 < k.b) || decide (q.1 = p.1)))

theorem memN_iff : ∀ {l : List Nat} {t : Nat}, memN l t = true ↔ t ∈ l
  | [], t => by simp [memN]
  | a :: r, t => by
    simp only [memN, List.mem_cons]
    split
    · rename_i h; subst h; simp
    · rename_i h
      rw [memN_iff]
      exact ⟨.inr, fun x => x.resolve_left fun e => h e.symm⟩

theorem assoc_mem : ∀ {l : List (Nat × Nat)} {t u : Nat}, assoc l t = some u → (t, u) ∈ l
  | [], _, _, h => by simp [assoc] at h
  | (a, b) :: r, t, u, h => by
    simp only [assoc] at h
    split at h
    · rename_i he; cases h; subst he; simp
    · exact List.mem_cons_of_mem _ (assoc_mem h)

theorem assocR_mem : ∀ {l : List (Nat × Nat)} {t u : Nat}, assocR l u = some t → (t, u) ∈ l
  | [], _, _, h => by simp [assocR] at h
  | (a, b) :: r, t, u, h => by
    simp only [assocR] at h
    split at h
    · rename_i he; cases h; subst he; simp
    · exact List.mem_cons_of_mem _ (assocR_mem h)

theorem assocR_of : ∀ {l : List (Nat × Nat)} {t u : Nat}, nodupN (l.map (·.2)) = true → (t, u) ∈ l → assocR l u = some t
  | [], _, _, _, h => by simp at h
  | (a, b) :: r, t, u, hn, h => by
    simp only [List.map_cons, nodupN, Bool.and_eq_true, Bool.not_eq_true', ← Bool.not_eq_true, memN_iff] at hn
    simp only [assocR]
    rcases List.mem_cons.1 h with h | h
    · cases h; simp
    · split
      · rename_i he
        subst he
        exact absurd (List.mem_map.2 ⟨_, h, rfl⟩) hn.1
      · exact assocR_of hn.2 h

structure WkOk (k : Wk) (hp : List HEnt) : Prop where
  bn : k.b ≤ k.nx
  rg : ∀ t u, (t, u) ∈ k.ren → k.b ≤ t ∧ k.b ≤ u ∧ u < k.nx
  nd : nodupN (k.ren.map (·.2)) = true
  gb : ∀ e ∈ hp, e.id < k.b → e.grp < k.b
  fz : ∀ e ∈ hp, ∀ e' ∈ hp, k.isK e.id = true → k.isF e'.id = true → e'.grp ≠ e.grp
  kp : ∀ e ∈ hp, ∀ e' ∈ hp, k.isK e.id = true → k.isK e'.id = true → e'.grp = e.grp → e.grp < k.b ∨ e'.id = e.id

theorem Wk.ok_iff {k : Wk} {hp : List HEnt} (h : k.ok (idg hp) = true) : WkOk k hp := by
  simp only [Wk.ok, idg, List.all_map, Bool.and_eq_true, decide_eq_true_eq] at h
  obtain ⟨⟨⟨h1, h2⟩, h3⟩, h4⟩ := h
  have key : ∀ e ∈ hp, k.isK e.id = true → (e.id < k.b → e.grp < k.b) ∧ ∀ e' ∈ hp, (k.isF e'.id = true → e'.grp ≠ e.grp) ∧ (k.isK e'.id = true → e'.grp = e.grp → e.grp < k.b ∨ e'.id = e.id) := by
    intro e he hk
    have := List.all_eq_true.1 h4 e he
    simp only [Function.comp, hk, Bool.not_true, Bool.false_or, Bool.and_eq_true, Bool.or_eq_true, Bool.not_eq_true', decide_eq_true_eq, decide_eq_false_iff_not] at this
    refine ⟨fun hlt => this.1.resolve_left fun x => x hlt, fun e' he' => ?_⟩
    have h5 := List.all_eq_true.1 this.2 e' he'
    simp only [Function.comp, Bool.and_eq_true, Bool.or_eq_true, Bool.not_eq_true', decide_eq_true_eq, decide_eq_false_iff_not] at h5
    refine ⟨fun hf => h5.1.resolve_left (by simp [hf]), fun hk' hg => ?_⟩
    rcases h5.2 with ((x | x) | x) | x
    · rw [hk'] at x; cases x
    · exact absurd hg x
    · exact .inl x
    · exact .inr x
  refine ⟨h1, fun t u htu => ?_, h3, fun e he hlt => (key e he (by simp [Wk.isK, hlt])).1 hlt, fun e he e' he' hk hf => ((key e he hk).2 e' he').1 hf, fun e he e' he' hk hk' hg => ((key e he hk).2 e' he').2 hk' hg⟩
  have := List.all_eq_true.1 h2 _ htu
  simp only [Bool.and_eq_true, decide_eq_true_eq] at this
  exact ⟨this.1.1, this.1.2, this.2⟩

theorem mem_wkhp {k : Wk} {φ : Nat → Fate} : ∀ {hp : List HEnt} {x : HEnt}, x ∈ k.hp φ hp →
    ∃ e ∈ hp, k.isK e.id = true ∧ ((e.id < k.b ∧ x = ⟨e.id, e.grp, e.blk.sub φ⟩) ∨ (¬ e.id < k.b ∧ memN k.frz e.id = false ∧ ∃ u, assoc k.ren e.id = some u ∧ x = ⟨u, if e.grp < k.b then e.grp else u, e.blk.sub φ⟩))
  | [], x, h => by simp [Wk.hp] at h
  | e :: r, x, h => by
    have rest : x ∈ k.hp φ r → ∃ e' ∈ e :: r, k.isK e'.id = true ∧ ((e'.id < k.b ∧ x = ⟨e'.id, e'.grp, e'.blk.sub φ⟩) ∨ (¬ e'.id < k.b ∧ memN k.frz e'.id = false ∧ ∃ u, assoc k.ren e'.id = some u ∧ x = ⟨u, if e'.grp < k.b then e'.grp else u, e'.blk.sub φ⟩)) := fun h =>
      let ⟨e', h1, h2⟩ := mem_wkhp h
      ⟨e', List.mem_cons_of_mem _ h1, h2⟩
    simp only [Wk.hp] at h
    split at h
    · rename_i hlt
      rcases List.mem_cons.1 h with h | h
      · exact ⟨e, by simp, by simp [Wk.isK, hlt], .inl ⟨hlt, h⟩⟩
      · exact rest h
    · rename_i hlt
      split at h
      · exact rest h
      · rename_i hf
        split at h
        · rename_i u hu
          rcases List.mem_cons.1 h with h | h
          · exact ⟨e, by simp, by simp [Wk.isK, hf, hu], .inr ⟨hlt, by simpa using hf, u, hu, h⟩⟩
          · exact rest h
        · exact rest h

open Classical in
/-- the ghost after it -/
noncomputable def Wk.ghost (k : Wk) (hp : List HEnt) (G : Ghost) (w : World) : Ghost where
  ι := fun u => if u < k.b then G.ι u else (assocR k.ren u).bind G.ι
  ro := fun r => if ∃ e ∈ hp, k.isF e.id = true ∧ ∃ l, G.ι e.id = some l ∧ l.b = r then w.heap[r]? else G.ro r
  an := G.an

theorem wk_ro {k : Wk} {hp : List HEnt} {G : Ghost} {w : World} {M : HEnt → Prop} {fr : Nat → Prop} (h : HRel G M fr w) : ∀ r o, G.ro r = some o → (k.ghost hp G w).ro r = some o := fun r o hr => by
  simp only [Wk.ghost]
  split
  · exact h.ro r o hr
  · exact hr

theorem wk_sound {k : Wk} {hp : List HEnt} {G : Ghost} {w : World} {fr : Nat → Prop} (hk : WkOk k hp) (h : HRel G (· ∈ hp) fr w) :
    Subst G (k.ghost hp G w) (k.fate hp) ∧ HRel (k.ghost hp G w) (· ∈ k.hp (k.fate hp) hp) (k.nx ≤ ·) w := by
  have hro : ∀ r o, G.ro r = some o → (k.ghost hp G w).ro r = some o := fun r o hr => by
    simp only [Wk.ghost]
    split
    · exact h.ro r o hr
    · exact hr
  have hlt : ∀ t, t < k.b → (k.ghost hp G w).ι t = G.ι t := fun t ht => by simp only [Wk.ghost, ht, if_true]
  have hren : ∀ t u, assoc k.ren t = some u → (k.ghost hp G w).ι u = G.ι t := fun t u ha => by
    have hm := assoc_mem ha
    have := (hk.rg t u hm).2.1
    simp only [Wk.ghost, Nat.not_lt.2 this, if_false, assocR_of hk.nd hm, Option.bind_some]
  have s0 : Subst G (k.ghost hp G w) k.fate0 := by
    refine ⟨fun r cur e fr => hro r _, fun t u l hφ hl => ?_, fun t esz vals l hφ hl => ?_⟩
    · simp only [Wk.fate0] at hφ
      split at hφ
      · rename_i ht; cases hφ; rw [hlt t ht]; exact hl
      · split at hφ
        · rename_i ha; cases hφ; rw [hren _ _ ha]; exact hl
        · cases hφ
    · simp only [Wk.fate0] at hφ
      split at hφ
      · cases hφ
      · split at hφ <;> cases hφ
  have s1 : Subst G (k.ghost hp G w) (k.fate hp) := by
    refine ⟨fun r cur e fr => hro r _, fun t u l hφ hl => ?_, fun t esz vals l hφ hl => ?_⟩
    · simp only [Wk.fate] at hφ
      split at hφ
      · rename_i ht; cases hφ; rw [hlt t ht]; exact hl
      · split at hφ
        · split at hφ <;> cases hφ
        · split at hφ
          · rename_i ha; cases hφ; rw [hren _ _ ha]; exact hl
          · cases hφ
    · simp only [Wk.fate] at hφ
      split at hφ
      · cases hφ
      · rename_i ht
        split at hφ
        · rename_i hf
          split at hφ
          · rename_i id0 g0 e0 esz0 vals0 hg
            cases hφ
            obtain ⟨hm, hid⟩ := getE_mem hg
            obtain ⟨l', h1, ⟨h2, h3, cur, h4, h5, pre, suf, h6, h7, h8⟩, _⟩ := h.ent _ hm
            simp only at hid h1
            subst hid
            rw [hl] at h1; cases h1
            refine ⟨h2, ?_⟩
            have hfz : (k.ghost hp G w).ro l.b = some (.cells cur e0 (0, 0)) := by
              simp only [Wk.ghost]
              rw [if_pos ⟨_, hm, by simp [Wk.isF, ht, hf], l, hl, rfl⟩]
              exact h4
            have h7' := VRels.subst s0 _ h7
            rw [← flat_subs] at h7'
            refine rows_of (pre := []) (seg := pre) (suf := suf) hfz (fun v hv => ?_) (by simpa using h6) h7' h8
            rw [subs_map, List.mem_map] at hv
            obtain ⟨u, hu, rfl⟩ := hv
            rw [sub1_cells, subs_length]; exact h3 u hu
          · cases hφ
        · split at hφ <;> cases hφ
  -- where a kept block lies, and that it is none of the frozen ones
  have kept : ∀ e ∈ hp, k.isK e.id = true → ∀ l, G.ι e.id = some l → (k.ghost hp G w).ro l.b = none := by
    intro e he hke l hl
    obtain ⟨l', h1, _, h3, _⟩ := h.ent e he
    rw [hl] at h1; cases h1
    simp only [Wk.ghost]
    rw [if_neg, h3]
    rintro ⟨e', he', hf, l', hl', hb⟩
    exact h.sep e' e he' he (hk.fz e he e' he' hke hf) l' l hl' hl hb
  have newι : ∀ e ∈ hp, ∀ x : HEnt, ((e.id < k.b ∧ x = ⟨e.id, e.grp, e.blk.sub (k.fate hp)⟩) ∨ (¬ e.id < k.b ∧ memN k.frz e.id = false ∧ ∃ u, assoc k.ren e.id = some u ∧ x = ⟨u, if e.grp < k.b then e.grp else u, e.blk.sub (k.fate hp)⟩)) →
      (k.ghost hp G w).ι x.id = G.ι e.id := by
    rintro e he x (⟨h1, rfl⟩ | ⟨h1, h2, u, hu, rfl⟩)
    · exact hlt _ h1
    · exact hren _ _ hu
  refine ⟨s1, fun r o hr => ?_, fun x hx => ?_, fun x y hx hy hne l l' hl hl' => ?_, fun t ht => ?_, fun x y hx hy hxy => ?_, fun x hx l hl => ?_, h.sz, fun r hr => ?_⟩
  · simp only [Wk.ghost] at hr
    split at hr
    · exact hr
    · exact h.ro r o hr
  · obtain ⟨e, he, hke, hx⟩ := mem_wkhp hx
    obtain ⟨l, h1, h2, h3, h4⟩ := h.ent e he
    refine ⟨l, by rw [newι e he x hx]; exact h1, ?_, kept e he hke l h1, ?_⟩
    · rcases hx with ⟨_, rfl⟩ | ⟨_, _, u, _, rfl⟩ <;> exact h2.subst s1
    · rcases hx with ⟨hb, rfl⟩ | ⟨_, _, u, hu, rfl⟩
      · have := hk.gb e he hb
        have := hk.bn
        show ¬ k.nx ≤ e.grp
        omega
      · have := (hk.rg _ _ (assoc_mem hu)).2.2
        have := hk.bn
        show ¬ k.nx ≤ (if e.grp < k.b then e.grp else u)
        split <;> omega
  · obtain ⟨e, he, hke, hx⟩ := mem_wkhp hx
    obtain ⟨e', he', hke', hy⟩ := mem_wkhp hy
    rw [newι e he x hx] at hl
    rw [newι e' he' y hy] at hl'
    refine h.sep e e' he he' (fun hg => hne ?_) l l' hl hl'
    rcases hk.kp e' he' e he hke' hke hg with hb | hid
    · have hb' : e.grp < k.b := by omega
      rcases hx with ⟨_, rfl⟩ | ⟨_, _, u, _, rfl⟩ <;> rcases hy with ⟨_, rfl⟩ | ⟨_, _, u', _, rfl⟩ <;> simp [hb, hb', hg]
    · have := h.uniq e e' he he' hid
      subst this
      rcases hx with ⟨hb, rfl⟩ | ⟨hb, _, u, hu, rfl⟩ <;> rcases hy with ⟨hb', rfl⟩ | ⟨hb', _, u', hu', rfl⟩
      · rfl
      · exact absurd hb hb'
      · exact absurd hb' hb
      · rw [hu] at hu'; cases hu'; rfl
  · have ht : k.nx ≤ t := ht
    have hb : ¬ t < k.b := by have := hk.bn; omega
    simp only [Wk.ghost, hb, if_false]
    cases ha : assocR k.ren t with
    | none => rfl
    | some a => have := (hk.rg _ _ (assocR_mem ha)).2.2; omega
  · obtain ⟨e, he, hke, hx⟩ := mem_wkhp hx
    obtain ⟨e', he', hke', hy⟩ := mem_wkhp hy
    have hids : e.id = e'.id := by
      rcases hx with ⟨hb, rfl⟩ | ⟨hb, _, u, hu, rfl⟩ <;> rcases hy with ⟨hb', rfl⟩ | ⟨hb', _, u', hu', rfl⟩
      · exact hxy
      · have := (hk.rg _ _ (assoc_mem hu')).2.1
        have hxy : e.id = u' := hxy
        omega
      · have := (hk.rg _ _ (assoc_mem hu)).2.1
        have hxy : u = e'.id := hxy
        omega
      · have hxy : u = u' := hxy
        subst hxy
        have h1 := assocR_of hk.nd (assoc_mem hu)
        rw [assocR_of hk.nd (assoc_mem hu')] at h1
        exact (Option.some.inj h1).symm
    have := h.uniq e e' he he' hids
    subst this
    rcases hx with ⟨hb, rfl⟩ | ⟨hb, _, u, hu, rfl⟩ <;> rcases hy with ⟨hb', rfl⟩ | ⟨hb', _, u', hu', rfl⟩
    · rfl
    · exact absurd hb hb'
    · exact absurd hb' hb
    · rw [hu] at hu'; cases hu'; rfl
  · obtain ⟨e, he, hke, hx⟩ := mem_wkhp hx
    rw [newι e he x hx] at hl
    exact h.own e he l hl
  · refine ⟨?_, (h.lo r hr).2⟩
    have hr' : G.an.P r := hr
    simp only [Wk.ghost]
    rw [if_neg]
    · exact (h.lo r hr').1
    · rintro ⟨e', he', hf, l', hl', hb⟩
      exact h.own e' he' l' hl' (hb ▸ hr')

theorem keepT_sound {G G' : Ghost} {φ : Nat → Fate} (hs : Subst G G' φ) (ks : List Nat) : ∀ {tm : List AV} {l : List Value} (i : Nat), VRels G tm l → VRels G' (keepT ks φ i tm) l
  | [], l, i, h => by simpa only [keepT, VRels] using h
  | v :: vs, l, i, h => by
    simp only [keepT, VRels] at h ⊢
    obtain ⟨c, cs, h1, h2, h3⟩ := h
    refine ⟨c, cs, h1, ?_, keepT_sound hs ks (i + 1) h3⟩
    split
    · exact VRel.subst hs v h2
    · simp only [VRel]

/-- the state after it -/
def Wk.st (k : Wk) (s : AState) : AState := { tm := keepT k.keep (k.fate s.hp) 0 s.tm, hp := k.hp (k.fate s.hp) s.hp, next := k.nx }

end Eng
