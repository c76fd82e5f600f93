/-
  THE ENGINE, PART V: other numbers for blocks; blocks that are not written any more; forgetting.
-/
import Derived.Test.YtjfhhaaogcgkpaaEngU
namespace Eng
open Go Go.RowKit
set_option linter.unusedSimpArgs false
set_option linter.unusedVariables false

inductive Fate where
  | gone
  | as (u : Nat)
  | froz (esz : Nat) (vals : List AV)

mutual
def sub1 (φ : Nat → Fate) : AV → AV
  | .ptr t esz i j => match φ t with | .as u => .ptr u esz i j | .froz e vals => if e = esz then .vp vals i j else .any | .gone => .any
  | .vp vals i j => .vp (subs φ vals) i j
  | .slice t esz i n => match φ t with | .as u => .slice u esz i n | .froz e vals => if e = esz ∧ i + n ≤ vals.length then .vs ((vals.drop i).take n) else .any | .gone => .any
  | .vs vals => .vs (subs φ vals)
  | .mapv t => match φ t with | .as u => .mapv u | _ => .any
  | .fn f first cap => .fn f (subs φ first) (subs φ cap)
  | .yield t => match φ t with | .as u => .yield u | _ => .any
  | .iface t v => .iface t (sub1 φ v)
  | .agg cs => .agg (subs φ cs)
  | .tup us => .tup (subs φ us)
  | .any => .any
  | .bool b => .bool b
  | .int k n => .int k n
  | .str s => .str s
  | .nilptr => .nilptr
  | .nilslice => .nilslice
  | .nilmap => .nilmap
  | .nilfn => .nilfn
  | .nilif => .nilif
def subs (φ : Nat → Fate) : List AV → List AV
  | [] => []
  | v :: vs => sub1 φ v :: subs φ vs
end

theorem subs_map (φ : Nat → Fate) : ∀ (l : List AV), subs φ l = l.map (sub1 φ)
  | [] => rfl
  | v :: vs => by simp only [subs, List.map_cons, subs_map φ vs]

theorem subs_length (φ : Nat → Fate) (l : List AV) : (subs φ l).length = l.length := by rw [subs_map, List.length_map]

theorem sub1_cells (φ : Nat → Fate) (v : AV) : (sub1 φ v).cells = subs φ v.cells := by
  cases v
  case agg cs => rfl
  case ptr t esz i j =>
    show _ = [sub1 φ (.ptr t esz i j)]
    simp only [sub1]
    cases φ t <;> try rfl
    simp only
    split <;> rfl
  case slice t esz i n =>
    show _ = [sub1 φ (.slice t esz i n)]
    simp only [sub1]
    cases φ t <;> try rfl
    simp only
    split <;> rfl
  case mapv t =>
    show _ = [sub1 φ (.mapv t)]
    simp only [sub1]
    cases φ t <;> rfl
  case yield t =>
    show _ = [sub1 φ (.yield t)]
    simp only [sub1]
    cases φ t <;> rfl
  all_goals rfl

theorem flat_subs (φ : Nat → Fate) : ∀ (l : List AV), flat (subs φ l) = subs φ (flat l)
  | [] => rfl
  | v :: vs => by
    simp only [subs, flat, sub1_cells, flat_subs φ vs]
    simp only [subs_map, List.map_append]

theorem VRows.drop {G : Ghost} : ∀ {vals : List AV} {b o esz : Nat} (i : Nat), VRows G vals b o esz → VRows G (vals.drop i) b (o + i * esz) esz
  | [], _, _, _, i, _ => by simp only [List.drop_nil, VRows]
  | v :: vs, b, o, esz, 0, h => by simpa using h
  | v :: vs, b, o, esz, i + 1, h => by
    simp only [VRows] at h
    have := VRows.drop i h.2
    simp only [List.drop_succ_cons]
    rw [show o + (i + 1) * esz = o + esz + i * esz by rw [Nat.add_mul]; omega]
    exact this

theorem VRows.take {G : Ghost} : ∀ {vals : List AV} {b o esz : Nat} (n : Nat), VRows G vals b o esz → VRows G (vals.take n) b o esz
  | [], _, _, _, n, _ => by simp only [List.take_nil, VRows]
  | v :: vs, b, o, esz, 0, h => by simp only [List.take_zero, VRows]
  | v :: vs, b, o, esz, n + 1, h => by
    simp only [VRows] at h
    simp only [List.take_succ_cons, VRows]
    exact ⟨h.1, VRows.take n h.2⟩

/-- what is asked of a substitution -/
structure Subst (G G' : Ghost) (φ : Nat → Fate) : Prop where
  ro : ∀ r cur e fr, G.ro r = some (.cells cur e fr) → G'.ro r = some (.cells cur e fr)
  as : ∀ t u l, φ t = .as u → G.ι t = some l → G'.ι u = some l
  froz : ∀ t esz vals l, φ t = .froz esz vals → G.ι t = some l → l.esz = esz ∧ VRows G' vals l.b 0 esz

mutual
theorem VRel.subst {G G' : Ghost} {φ : Nat → Fate} (h : Subst G G' φ) : ∀ (v : AV) {cv : Value}, VRel G v cv → VRel G' (sub1 φ v) cv
  | .any, _, _ => by simp only [sub1, VRel]
  | .bool b, cv, x => by simpa only [sub1, VRel] using x
  | .int k n, cv, x => by simpa only [sub1, VRel] using x
  | .str s, cv, x => by simpa only [sub1, VRel] using x
  | .nilptr, cv, x => by simpa only [sub1, VRel] using x
  | .ptr t esz i j, cv, x => by
    simp only [VRel] at x
    obtain ⟨l, h1, h2, h3⟩ := x
    simp only [sub1]
    cases hφ : φ t with
    | gone => simp only [VRel]
    | as u => simp only [VRel]; exact ⟨l, h.as _ _ _ hφ h1, h2, h3⟩
    | froz e vals =>
      obtain ⟨h4, h5⟩ := h.froz _ _ _ _ hφ h1
      simp only
      split
      · rename_i he
        subst he
        simp only [VRel]
        exact ⟨l.b, 0, e, h5, by rw [h3, Nat.zero_add]⟩
      · simp only [VRel]
  | .vp vals i j, cv, x => by
    simp only [sub1, VRel] at x ⊢
    obtain ⟨b, o, esz, h1, h2⟩ := x
    exact ⟨b, o, esz, VRows.subst h vals h1, h2⟩
  | .nilslice, cv, x => by simpa only [sub1, VRel] using x
  | .slice t esz i n, cv, x => by
    simp only [VRel] at x
    obtain ⟨l, cap, h1, h2, h3, h4, h5, h6⟩ := x
    simp only [sub1]
    cases hφ : φ t with
    | gone => simp only [VRel]
    | as u => simp only [VRel]; exact ⟨l, cap, h.as _ _ _ hφ h1, h2, h3, h4, h5, h6⟩
    | froz e vals =>
      obtain ⟨h7, h8⟩ := h.froz _ _ _ _ hφ h1
      simp only
      split
      · rename_i he
        obtain ⟨rfl, hl⟩ := he
        have hlen : ((vals.drop i).take n).length = n := by rw [List.length_take, List.length_drop]; omega
        simp only [VRel]
        refine .inr ⟨l.b, i * e, e, cap, ?_, by rw [hlen, h3], by rw [hlen]; exact h4⟩
        have := (h8.drop i).take n
        rwa [Nat.zero_add] at this
      · simp only [VRel]
  | .vs vals, cv, x => by
    simp only [sub1, VRel] at x ⊢
    rcases x with ⟨rfl, h2⟩ | ⟨b, o, esz, cap, h1, h2⟩
    · exact .inl ⟨by simp only [subs], h2⟩
    · exact .inr ⟨b, o, esz, cap, VRows.subst h vals h1, by rw [subs_length]; exact h2⟩
  | .mapv t, cv, x => by
    simp only [VRel] at x
    obtain ⟨l, h1, h2⟩ := x
    simp only [sub1]
    cases hφ : φ t with
    | gone => simp only [VRel]
    | as u => simp only [VRel]; exact ⟨l, h.as _ _ _ hφ h1, h2⟩
    | froz e vals => simp only [VRel]
  | .nilmap, cv, x => by simpa only [sub1, VRel] using x
  | .fn f first cap, cv, x => by
    simp only [sub1, VRel] at x ⊢
    obtain ⟨cf, cc, h1, h2, h3⟩ := x
    exact ⟨cf, cc, VRels.subst h first h1, VRels.subst h cap h2, h3⟩
  | .yield t, cv, x => by
    simp only [VRel] at x
    obtain ⟨l, h1, h2⟩ := x
    simp only [sub1]
    cases hφ : φ t with
    | gone => simp only [VRel]
    | as u => simp only [VRel]; exact ⟨l, h.as _ _ _ hφ h1, h2⟩
    | froz e vals => simp only [VRel]
  | .nilfn, cv, x => by simpa only [sub1, VRel] using x
  | .iface t v, cv, x => by
    simp only [sub1, VRel] at x ⊢
    obtain ⟨c, h1, h2⟩ := x
    exact ⟨c, VRel.subst h v h1, h2⟩
  | .nilif, cv, x => by simpa only [sub1, VRel] using x
  | .agg cs, cv, x => by
    simp only [sub1, VRel] at x ⊢
    obtain ⟨ccs, h1, h2⟩ := x
    exact ⟨ccs, VRels.subst h cs h1, h2⟩
  | .tup us, cv, x => by
    simp only [sub1, VRel] at x ⊢
    obtain ⟨ccs, h1, h2⟩ := x
    exact ⟨ccs, VRels.subst h us h1, h2⟩
theorem VRels.subst {G G' : Ghost} {φ : Nat → Fate} (h : Subst G G' φ) : ∀ (vs : List AV) {l : List Value}, VRels G vs l → VRels G' (subs φ vs) l
  | [], l, x => by simpa only [subs, VRels] using x
  | v :: vs, l, x => by
    simp only [subs, VRels] at x ⊢
    obtain ⟨c, cs, h1, h2, h3⟩ := x
    exact ⟨c, cs, h1, VRel.subst h v h2, VRels.subst h vs h3⟩
theorem VRows.subst {G G' : Ghost} {φ : Nat → Fate} (h : Subst G G' φ) : ∀ (vs : List AV) {b o esz : Nat}, VRows G vs b o esz → VRows G' (subs φ vs) b o esz
  | [], _, _, _, _ => by simp only [subs, VRows]
  | v :: vs, b, o, esz, x => by
    simp only [subs, VRows] at x ⊢
    obtain ⟨⟨cv, h1, h2, h3, h4, cur, e, fr, h5, h6⟩, h7⟩ := x
    exact ⟨⟨cv, VRel.subst h v h1, by rw [sub1_cells, subs_length]; exact h2, h3, h4, cur, e, fr, h.ro _ _ _ _ h5, h6⟩, VRows.subst h vs h7⟩
end

mutual
theorem sub1_id : ∀ v : AV, sub1 Fate.as v = v
  | .ptr t esz i j => rfl
  | .vp vals i j => by simp only [sub1, subs_id]
  | .slice t esz i n => rfl
  | .vs vals => by simp only [sub1, subs_id]
  | .mapv t => rfl
  | .fn f first cap => by simp only [sub1, subs_id]
  | .yield t => rfl
  | .iface t v => by simp only [sub1, sub1_id]
  | .agg cs => by simp only [sub1, subs_id]
  | .tup us => by simp only [sub1, subs_id]
  | .any => rfl
  | .bool b => rfl
  | .int k n => rfl
  | .str s => rfl
  | .nilptr => rfl
  | .nilslice => rfl
  | .nilmap => rfl
  | .nilfn => rfl
  | .nilif => rfl
theorem subs_id : ∀ l : List AV, subs Fate.as l = l
  | [] => rfl
  | v :: vs => by simp only [subs, sub1_id, subs_id]
end

/-- the cells that are never written tell all that a value says -/
theorem VRel.csub {G G' : Ghost} (hι : ∀ t l, G.ι t = some l → G'.ι t = some l) (hro : ∀ r cur e fr, G.ro r = some (.cells cur e fr) → G'.ro r = some (.cells cur e fr)) {v : AV} {cv : Value} (h : VRel G v cv) : VRel G' v cv := by
  have hs : Subst G G' Fate.as := ⟨hro, fun t u l e h => by cases e; exact hι t l h, fun t esz vals l e => by cases e⟩
  have := VRel.subst hs v h
  rwa [sub1_id] at this
theorem VRels.csub {G G' : Ghost} (hι : ∀ t l, G.ι t = some l → G'.ι t = some l) (hro : ∀ r cur e fr, G.ro r = some (.cells cur e fr) → G'.ro r = some (.cells cur e fr)) {v : List AV} {cv : List Value} (h : VRels G v cv) : VRels G' v cv := by
  have hs : Subst G G' Fate.as := ⟨hro, fun t u l e h => by cases e; exact hι t l h, fun t esz vals l e => by cases e⟩
  have := VRels.subst hs v h
  rwa [subs_id] at this

def ABlk.sub (φ : Nat → Fate) : ABlk → ABlk
  | .rows e esz vals => .rows e esz (subs φ vals)
  | .obj o => .obj o

theorem BRel.subst {G G' : Ghost} {φ : Nat → Fate} (h : Subst G G' φ) {l : Loc} {w : World} {k : ABlk} (x : BRel G l w k) : BRel G' l w (k.sub φ) := by
  cases k with
  | rows e esz vals =>
    obtain ⟨h1, h2, cur, h3, h4, pre, suf, h5, h6, h7⟩ := x
    refine ⟨h1, fun v hv => ?_, cur, h3, h4, pre, suf, h5, ?_, h7⟩
    · rw [subs_map, List.mem_map] at hv
      obtain ⟨u, hu, rfl⟩ := hv
      rw [sub1_cells, subs_length]; exact h2 u hu
    · rw [flat_subs]; exact VRels.subst h _ h6
  | obj o => exact x

/-! ### the step -/
structure Wk where
  /-- below it all stays as it is -/
  b : Nat
  /-- old number, new number -/
  ren : List (Nat × Nat)
  frz : List Nat
  nx : Nat
  /-- the slots that are still looked at -/
  keep : List Nat

def assoc : List (Nat × Nat) → Nat → Option Nat
  | [], _ => none
  | (a, b) :: r, t => if a = t then some b else assoc r t
def assocR : List (Nat × Nat) → Nat → Option Nat
  | [], _ => none
  | (a, b) :: r, u => if b = u then some a else assocR r u
def memN : List Nat → Nat → Bool
  | [], _ => false
  | a :: r, t => if a = t then true else memN r t

def Wk.fate0 (k : Wk) (t : Nat) : Fate :=
  if t < k.b then .as t else match assoc k.ren t with | some u => .as u | none => .gone
def Wk.fate (k : Wk) (hp : List HEnt) (t : Nat) : Fate :=
  if t < k.b then .as t else
  if memN k.frz t then (match getE hp t with | some ⟨_, _, .rows _ esz vals⟩ => .froz esz (subs k.fate0 vals) | _ => .gone)
  else match assoc k.ren t with | some u => .as u | none => .gone

def keepT (ks : List Nat) (φ : Nat → Fate) : Nat → List AV → List AV
  | _, [] => []
  | i, v :: vs => (if memN ks i then sub1 φ v else .any) :: keepT ks φ (i + 1) vs

def Wk.hp (k : Wk) (φ : Nat → Fate) : List HEnt → List HEnt
  | [] => []
  | e :: r =>
    if e.id < k.b then ⟨e.id, e.grp, e.blk.sub φ⟩ :: k.hp φ r
    else if memN k.frz e.id then k.hp φ r
    else match assoc k.ren e.id with
      | some u => ⟨u, if e.grp < k.b then e.grp else u, e.blk.sub φ⟩ :: k.hp φ r
      | none => k.hp φ r

end Eng
