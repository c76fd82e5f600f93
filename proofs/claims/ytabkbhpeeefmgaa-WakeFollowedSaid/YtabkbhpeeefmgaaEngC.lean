/-
THE ENGINE, PART A: abstract values and what they say of a world.
  An abstract value (AV) stands for a Go value of the model; memory that is never written any more is a value itself ('vs': the elements of a slice);
  memory that is written has a number and lies in the abstract heap.
THE ENGINE, PART B: the abstract heap; loading, storing, laying a block.
THE ENGINE, PART C: operations that only compute ('POp'): what they yield of abstract values, how they come out of the model's operations, and that the model yields the same.
-/
import Derived.OrdersIn
import Derived.RangeFuncIn
import Derived.Laws.AppendOwn
import Derived.Below
import Derived.Laws.CopyRow
import Derived.Laws.Tables
import Derived.Laws.Entries
import Derived.Laws.Cells
import Derived.Laws.StructEq
import Derived.ChangeKeysEq
import Derived.Laws.Build
namespace Eng
open Go

inductive AV where
  | any
  | bool (b : Bool)
  | int (k : IntKind) (n : Int)
  | str (s : ByteArray)
  | nilptr
  | ptr (t esz i j : Nat)
  | vp (vals : List AV) (i j : Nat)
  | nilslice
  | slice (t esz i n : Nat)
  | vs (vals : List AV)
  | vx (vals : List AV)
  | mapv (t : Nat)
  | nilmap
  | fn (f : Nat) (first captured : List AV)
  | yield (l : Nat)
  | nilfn
  | iface (t : Nat) (v : AV)
  | nilif
  | agg (cs : List AV)
  | tup (vs : List AV)
  deriving Inhabited

def AV.cells : AV → List AV
  | .agg cs => cs
  | v => [v]

/-- one cell, whatever it holds -/
def AV.sc : AV → Bool
  | .any | .agg _ | .tup _ => false
  | _ => true

structure Loc where
  b : Nat
  esz : Nat
  size : Nat

/-- the blocks of others, which this activation does not turn: what they held, and what of them was never written any more -/
structure Anchor where
  P : Nat → Prop
  ro : Nat → Option Obj
  hp : Nat → Option Obj

structure Ghost where
  ι : Nat → Option Loc
  ro : Nat → Option Obj
  an : Anchor

structure Ghost.sub (G G' : Ghost) : Prop where
  ι : ∀ t l, G.ι t = some l → G'.ι t = some l
  ro : ∀ r o, G.ro r = some o → G'.ro r = some o

structure Ghost.le (G G' : Ghost) : Prop extends Ghost.sub G G' where
  an : G'.an = G.an

theorem Ghost.le.rfl {G : Ghost} : G.le G := ⟨⟨fun _ _ h => h, fun _ _ h => h⟩, Eq.refl _⟩
theorem Ghost.le.trans {G G' G'' : Ghost} (h : G.le G') (h' : G'.le G'') : G.le G'' :=
  ⟨⟨fun t l x => h'.ι t l (h.ι t l x), fun t l x => h'.ro t l (h.ro t l x)⟩, h'.an.trans h.an⟩

/-- The cells l lie at b, o, in memory that is not written any more. -/
def RoCells (G : Ghost) (b o : Nat) (l : List Value) : Prop :=
  ∃ (cur : Array Value) (e : TypeId) (fr : Nat × Nat), G.ro b = some (.cells cur e fr) ∧ ∀ k c, l[k]? = some c → cur[o + k]? = some c

theorem RoCells.mono' {G G' : Ghost} {b o : Nat} {l : List Value} (h : G.sub G') (x : RoCells G b o l) : RoCells G' b o l :=
  let ⟨cur, e, fr, h1, h2⟩ := x; ⟨cur, e, fr, h.ro _ _ h1, h2⟩

mutual
def VRel (G : Ghost) : AV → Value → Prop
  | .any, _ => True
  | .bool b, cv => cv = .bool b
  | .int k n, cv => cv = .int k n
  | .str s, cv => cv = .string s
  | .nilptr, cv => cv = .pointer none
  | .ptr t esz i j, cv => ∃ l, G.ι t = some l ∧ l.esz = esz ∧ cv = .pointer (some ⟨l.b, i * esz + j, none⟩)
  | .vp vals i j, cv => ∃ b o esz, VRows G vals b o esz ∧ cv = .pointer (some ⟨b, o + i * esz + j, none⟩)
  | .nilslice, cv => cv = .slice none 0 0
  | .slice t esz i n, cv => ∃ l cap, G.ι t = some l ∧ l.esz = esz ∧ cv = .slice (some ⟨l.b, i * esz, none⟩) n cap ∧ n ≤ cap ∧ cap ≤ maxLen ∧ (i + cap) * esz = l.size
  | .vs vals, cv => (vals = [] ∧ ∃ a cap, cv = .slice a 0 cap) ∨ ∃ b o esz cap, VRows G vals b o esz ∧ cv = .slice (some ⟨b, o, none⟩) vals.length cap ∧ vals.length ≤ cap
  | .vx vals, cv => (vals = [] ∧ ∃ a, cv = .slice a 0 0) ∨ ∃ b o esz, VRows G vals b o esz ∧ cv = .slice (some ⟨b, o, none⟩) vals.length vals.length
  | .mapv t, cv => ∃ l, G.ι t = some l ∧ cv = .map (some l.b)
  | .nilmap, cv => cv = .map none
  | .fn f first cap, cv => ∃ cf cc, VRels G first cf ∧ VRels G cap cc ∧ cv = .func (.func f) cf.toArray cc.toArray
  | .yield l, cv => ∃ x, G.ι l = some x ∧ cv = .func (.yield x.b) #[] #[]
  | .nilfn, cv => cv = .nilFunc
  | .iface t v, cv => ∃ c, VRel G v c ∧ cv = .iface t c
  | .nilif, cv => cv = .nilIface
  | .agg cs, cv => ∃ ccs, VRels G cs ccs ∧ (∀ c ∈ ccs, c.oneCell' = true) ∧ cv = .agg ccs.toArray
  | .tup vs, cv => ∃ ccs, VRels G vs ccs ∧ cv = .tuple ccs.toArray
def VRels (G : Ghost) : List AV → List Value → Prop
  | [], l => l = []
  | v :: vs, l => ∃ c cs, l = c :: cs ∧ VRel G v c ∧ VRels G vs cs
def VRows (G : Ghost) : List AV → Nat → Nat → Nat → Prop
  | [], _, _, _ => True
  | v :: vs, b, o, esz => (∃ cv, VRel G v cv ∧ v.cells.length = esz ∧ cv.cells.size = esz ∧ (∀ c ∈ cv.cells.toList, c.oneCell' = true) ∧ RoCells G b o cv.cells.toList) ∧ VRows G vs b (o + esz) esz
end

mutual
theorem VRel.mono' {G G' : Ghost} (h : G.sub G') : ∀ (v : AV) {cv : Value}, VRel G v cv → VRel G' v cv
  | .any, _, _ => by simp only [VRel]
  | .bool b, cv, x => by simpa only [VRel] using x
  | .int k n, cv, x => by simpa only [VRel] using x
  | .str s, cv, x => by simpa only [VRel] using x
  | .nilptr, cv, x => by simpa only [VRel] using x
  | .ptr t esz i j, cv, x => by
    simp only [VRel] at x ⊢
    obtain ⟨l, h1, h2⟩ := x
    exact ⟨l, h.ι _ _ h1, h2⟩
  | .vp vals i j, cv, x => by
    simp only [VRel] at x ⊢
    obtain ⟨b, o, esz, h1, h2⟩ := x
    exact ⟨b, o, esz, VRows.mono' h vals h1, h2⟩
  | .nilslice, cv, x => by simpa only [VRel] using x
  | .slice t esz i n, cv, x => by
    simp only [VRel] at x ⊢
    obtain ⟨l, cap, h1, h2⟩ := x
    exact ⟨l, cap, h.ι _ _ h1, h2⟩
  | .vs vals, cv, x => by
    simp only [VRel] at x ⊢
    rcases x with x | ⟨b, o, esz, cap, h1, h2⟩
    · exact .inl x
    · exact .inr ⟨b, o, esz, cap, VRows.mono' h vals h1, h2⟩
  | .vx vals, cv, x => by
    simp only [VRel] at x ⊢
    rcases x with x | ⟨b, o, esz, h1, h2⟩
    · exact .inl x
    · exact .inr ⟨b, o, esz, VRows.mono' h vals h1, h2⟩
  | .mapv t, cv, x => by
    simp only [VRel] at x ⊢
    obtain ⟨l, h1, h2⟩ := x
    exact ⟨l, h.ι _ _ h1, h2⟩
  | .nilmap, cv, x => by simpa only [VRel] using x
  | .fn f first cap, cv, x => by
    simp only [VRel] at x ⊢
    obtain ⟨cf, cc, h1, h2, h3⟩ := x
    exact ⟨cf, cc, VRels.mono' h first h1, VRels.mono' h cap h2, h3⟩
  | .yield l, cv, x => by
    simp only [VRel] at x ⊢
    obtain ⟨l, h1, h2⟩ := x
    exact ⟨l, h.ι _ _ h1, h2⟩
  | .nilfn, cv, x => by simpa only [VRel] using x
  | .iface t v, cv, x => by
    simp only [VRel] at x ⊢
    obtain ⟨c, h1, h2⟩ := x
    exact ⟨c, VRel.mono' h v h1, h2⟩
  | .nilif, cv, x => by simpa only [VRel] using x
  | .agg cs, cv, x => by
    simp only [VRel] at x ⊢
    obtain ⟨ccs, h1, h2⟩ := x
    exact ⟨ccs, VRels.mono' h cs h1, h2⟩
  | .tup vs, cv, x => by
    simp only [VRel] at x ⊢
    obtain ⟨ccs, h1, h2⟩ := x
    exact ⟨ccs, VRels.mono' h vs h1, h2⟩
theorem VRels.mono' {G G' : Ghost} (h : G.sub G') : ∀ (vs : List AV) {l : List Value}, VRels G vs l → VRels G' vs l
  | [], l, x => by simpa only [VRels] using x
  | v :: vs, l, x => by
    simp only [VRels] at x ⊢
    obtain ⟨c, cs, h1, h2, h3⟩ := x
    exact ⟨c, cs, h1, VRel.mono' h v h2, VRels.mono' h vs h3⟩
theorem VRows.mono' {G G' : Ghost} (h : G.sub G') : ∀ (vs : List AV) {b o esz : Nat}, VRows G vs b o esz → VRows G' vs b o esz
  | [], _, _, _, _ => by simp only [VRows]
  | v :: vs, b, o, esz, x => by
    simp only [VRows] at x ⊢
    obtain ⟨⟨cv, h1, h2, h3, h4, h5⟩, h6⟩ := x
    exact ⟨⟨cv, VRel.mono' h v h1, h2, h3, h4, RoCells.mono' h h5⟩, VRows.mono' h vs h6⟩
end

theorem RoCells.mono {G G' : Ghost} {b o : Nat} {l : List Value} (h : G.le G') (x : RoCells G b o l) : RoCells G' b o l := RoCells.mono' h.tosub x
theorem VRel.mono {G G' : Ghost} (h : G.le G') (v : AV) {cv : Value} (x : VRel G v cv) : VRel G' v cv := VRel.mono' h.tosub v x
theorem VRels.mono {G G' : Ghost} (h : G.le G') (vs : List AV) {l : List Value} (x : VRels G vs l) : VRels G' vs l := VRels.mono' h.tosub vs x
theorem VRows.mono {G G' : Ghost} (h : G.le G') (vs : List AV) {b o esz : Nat} (x : VRows G vs b o esz) : VRows G' vs b o esz := VRows.mono' h.tosub vs x

/-! lists -/
theorem VRels.length {G : Ghost} : ∀ {vs : List AV} {l : List Value}, VRels G vs l → l.length = vs.length
  | [], l, h => by simp only [VRels] at h; simp [h]
  | v :: vs, l, h => by
    simp only [VRels] at h
    obtain ⟨c, cs, rfl, _, h3⟩ := h
    simp [VRels.length h3]

theorem VRels.get {G : Ghost} : ∀ {vs : List AV} {l : List Value}, VRels G vs l → ∀ (i : Nat) (v : AV), vs[i]? = some v → ∃ c : Value, l[i]? = some c ∧ VRel G v c
  | [], l, h, i, v, hv => by simp at hv
  | x :: vs, l, h, i, v, hv => by
    simp only [VRels] at h
    obtain ⟨c, cs, rfl, h2, h3⟩ := h
    cases i with
    | zero => simp at hv; subst hv; exact ⟨c, by simp, h2⟩
    | succ i => simp at hv; obtain ⟨c', h4, h5⟩ := VRels.get h3 i v hv; exact ⟨c', by simpa using h4, h5⟩

theorem VRels.append {G : Ghost} : ∀ {vs : List AV} {l : List Value} {us m}, VRels G vs l → VRels G us m → VRels G (vs ++ us) (l ++ m)
  | [], l, us, m, h, h' => by simp only [VRels] at h; subst h; simpa using h'
  | v :: vs, l, us, m, h, h' => by
    simp only [VRels] at h
    obtain ⟨c, cs, rfl, h2, h3⟩ := h
    simp only [List.cons_append, VRels]
    exact ⟨c, cs ++ m, rfl, h2, VRels.append h3 h'⟩

theorem VRels.take {G : Ghost} : ∀ {vs : List AV} {l : List Value} (n : Nat), VRels G vs l → VRels G (vs.take n) (l.take n)
  | [], l, n, h => by simp only [VRels] at h; subst h; simp [VRels]
  | v :: vs, l, n, h => by
    simp only [VRels] at h
    obtain ⟨c, cs, rfl, h2, h3⟩ := h
    cases n with
    | zero => simp [VRels]
    | succ n => simp only [List.take_succ_cons, VRels]; exact ⟨c, _, rfl, h2, VRels.take n h3⟩

theorem VRels.drop {G : Ghost} : ∀ {vs : List AV} {l : List Value} (n : Nat), VRels G vs l → VRels G (vs.drop n) (l.drop n)
  | [], l, n, h => by simp only [VRels] at h; subst h; simp [VRels]
  | v :: vs, l, n, h => by
    simp only [VRels] at h
    obtain ⟨c, cs, rfl, h2, h3⟩ := h
    cases n with
    | zero => simp only [List.drop_zero, VRels]; exact ⟨c, _, rfl, h2, h3⟩
    | succ n => simpa using VRels.drop n h3

theorem VRels.set {G : Ghost} : ∀ {vs : List AV} {l : List Value} (n : Nat) {v c}, VRels G vs l → VRel G v c → VRels G (vs.set n v) (l.set n c)
  | [], l, n, _, _, h, _ => by simp only [VRels] at h; subst h; simp [VRels]
  | v :: vs, l, n, v', c', h, hv => by
    simp only [VRels] at h
    obtain ⟨c, cs, rfl, h2, h3⟩ := h
    cases n with
    | zero => simp only [List.set_cons_zero, VRels]; exact ⟨c', cs, rfl, hv, h3⟩
    | succ n => simp only [List.set_cons_succ, VRels]; exact ⟨c, _, rfl, h2, VRels.set n h3 hv⟩

theorem VRels.any {G : Ghost} : ∀ (l : List Value), VRels G (List.replicate l.length .any) l
  | [] => by simp [VRels]
  | c :: l => by simp only [List.length_cons, List.replicate_succ, VRels]; exact ⟨c, l, rfl, by simp [VRel], VRels.any l⟩

theorem VRel.oneCell {G : Ghost} {v : AV} {c : Value} (h : VRel G v c) (hs : v.sc = true) : c.oneCell' = true := by
  cases v <;> simp only [VRel, AV.sc, Bool.false_eq_true] at h hs
  case bool => subst h; rfl
  case int => subst h; rfl
  case str => subst h; rfl
  case nilptr => subst h; rfl
  case ptr => obtain ⟨_, _, _, rfl⟩ := h; rfl
  case vp => obtain ⟨_, _, _, _, rfl⟩ := h; rfl
  case nilslice => subst h; rfl
  case slice => obtain ⟨_, _, _, _, rfl, _⟩ := h; rfl
  case vs => rcases h with ⟨_, _, _, rfl⟩ | ⟨_, _, _, _, _, rfl, _⟩ <;> rfl
  case vx => rcases h with ⟨_, _, rfl⟩ | ⟨_, _, _, _, rfl⟩ <;> rfl
  case mapv => obtain ⟨_, _, rfl⟩ := h; rfl
  case nilmap => subst h; rfl
  case fn => obtain ⟨_, _, _, _, rfl⟩ := h; rfl
  case yield => obtain ⟨_, _, rfl⟩ := h; rfl
  case nilfn => subst h; rfl
  case iface => obtain ⟨_, _, rfl⟩ := h; rfl
  case nilif => subst h; rfl

/-- the cells of a value: of an aggregate its own, else the value itself -/
theorem VRel.cells {G : Ghost} {v : AV} {c : Value} (h : VRel G v c) (hs : v.sc = true ∨ ∃ cs, v = .agg cs) : VRels G v.cells c.cells.toList ∧ ∀ x ∈ c.cells.toList, x.oneCell' = true := by
  rcases hs with hs | ⟨cs, rfl⟩
  · have h1 := h.oneCell hs
    have e1 : v.cells = [v] := by cases v <;> first | rfl | simp [AV.sc] at hs
    have e2 : c.cells = #[c] := by cases c <;> first | rfl | simp [Value.oneCell'] at h1
    rw [e1, e2]
    simp only [VRels, List.mem_singleton, forall_eq]
    exact ⟨⟨c, [], rfl, h, rfl⟩, h1⟩
  · simp only [VRel] at h
    obtain ⟨ccs, h1, h2, rfl⟩ := h
    simpa [AV.cells, Value.cells] using ⟨h1, h2⟩

end Eng

namespace Eng
open Go

inductive ABlk where
  | rows (e esz : Nat) (vals : List AV)
  | obj (o : Obj)

structure HEnt where
  id : Nat
  grp : Nat
  blk : ABlk

def flat : List AV → List AV
  | [] => []
  | v :: vs => v.cells ++ flat vs

theorem flat_append (a b : List AV) : flat (a ++ b) = flat a ++ flat b := by
  induction a with
  | nil => rfl
  | cons v vs ih => simp [flat, ih]

theorem flat_length {esz : Nat} : ∀ {vals : List AV}, (∀ v ∈ vals, v.cells.length = esz) → (flat vals).length = vals.length * esz
  | [], _ => by simp [flat]
  | v :: vs, h => by
    have h1 := h v (by simp)
    have h2 := flat_length (vals := vs) fun u hu => h u (by simp [hu])
    simp only [flat, List.length_append, List.length_cons, h1, h2, Nat.add_mul]
    omega

theorem flat_split {vals : List AV} {i : Nat} {v : AV} (h : vals[i]? = some v) : flat vals = flat (vals.take i) ++ (v.cells ++ flat (vals.drop (i + 1))) := by
  obtain ⟨hi, hv⟩ := List.getElem?_eq_some_iff.1 h
  have : vals = vals.take i ++ (v :: vals.drop (i + 1)) := by
    rw [← hv, List.getElem_cons_drop, List.take_append_drop]
  conv => lhs; rw [this]
  rw [flat_append]
  rfl

theorem flat_take_length {esz : Nat} {vals : List AV} (h : ∀ v ∈ vals, v.cells.length = esz) {i : Nat} (hi : i ≤ vals.length) : (flat (vals.take i)).length = i * esz := by
  rw [flat_length fun v hv => h v (List.mem_of_mem_take hv)]
  simp [hi]

theorem flat_set {vals : List AV} {i : Nat} {v v' : AV} (h : vals[i]? = some v) : flat (vals.set i v') = flat (vals.take i) ++ (v'.cells ++ flat (vals.drop (i + 1))) := by
  obtain ⟨hi, hv⟩ := List.getElem?_eq_some_iff.1 h
  rw [List.set_eq_take_append_cons_drop, if_pos hi, flat_append]
  rfl

def BRel (G : Ghost) (l : Loc) (w : World) : ABlk → Prop
  | .rows e esz vals => l.esz = esz ∧ (∀ v ∈ vals, v.cells.length = esz) ∧ ∃ cur : Array Value, w.heap[l.b]? = some (.cells cur e (0, 0)) ∧ cur.size = l.size ∧
      ∃ pre suf, cur.toList = pre ++ suf ∧ VRels G (flat vals) pre ∧ ∀ c ∈ pre, c.oneCell' = true
  | .obj o => w.heap[l.b]? = some o

/-- The world w holds the entries that M tells; 'fr': which numbers are still free. -/
structure HRel (G : Ghost) (M : HEnt → Prop) (fr : Nat → Prop) (w : World) : Prop where
  ro : ∀ r o, G.ro r = some o → w.heap[r]? = some o
  ent : ∀ e, M e → ∃ l, G.ι e.id = some l ∧ BRel G l w e.blk ∧ G.ro l.b = none ∧ ¬ fr e.grp
  sep : ∀ e e', M e → M e' → e.grp ≠ e'.grp → ∀ l l', G.ι e.id = some l → G.ι e'.id = some l' → l.b ≠ l'.b
  fresh : ∀ t, fr t → G.ι t = none
  uniq : ∀ e e', M e → M e' → e.id = e'.id → e = e'
  own : ∀ e, M e → ∀ l, G.ι e.id = some l → ¬ G.an.P l.b
  sz : ∀ r, G.an.P r → r < w.heap.size
  lo : ∀ r, G.an.P r → G.ro r = G.an.ro r ∧ w.heap[r]? = G.an.hp r

theorem BRel.mono {G G' : Ghost} (h : G.le G') {l : Loc} {w : World} {k : ABlk} (x : BRel G l w k) : BRel G' l w k := by
  cases k with
  | rows e esz vals =>
    obtain ⟨h1, h2, cur, h3, h4, pre, suf, h5, h6, h7⟩ := x
    exact ⟨h1, h2, cur, h3, h4, pre, suf, h5, VRels.mono h _ h6, h7⟩
  | obj _ => exact x

theorem BRel.world {G : Ghost} {l : Loc} {w w' : World} {k : ABlk} (h : w'.heap[l.b]? = w.heap[l.b]?) (x : BRel G l w k) : BRel G l w' k := by
  cases k with
  | rows e esz vals =>
    obtain ⟨h1, h2, cur, h3, h4, h5⟩ := x
    exact ⟨h1, h2, cur, h.trans h3, h4, h5⟩
  | obj _ => exact h.trans x

theorem BRel.lt {G : Ghost} {l : Loc} {w : World} {k : ABlk} (x : BRel G l w k) : l.b < w.heap.size := by
  cases k with
  | rows e esz vals =>
    obtain ⟨_, _, cur, h3, _⟩ := x
    exact (Array.getElem?_eq_some_iff.1 h3).1
  | obj _ => exact (Array.getElem?_eq_some_iff.1 x).1

/-- fewer blocks -/
theorem HRel.sub {G : Ghost} {M M' : HEnt → Prop} {fr fr' : Nat → Prop} {w : World} (h : HRel G M fr w) (hs : ∀ e, M' e → M e) (hf : ∀ t, fr' t → fr t) : HRel G M' fr' w :=
  ⟨h.ro, fun e he => let ⟨l, h1, h2, h3, h4⟩ := h.ent e (hs e he); ⟨l, h1, h2, h3, fun x => h4 (hf _ x)⟩, fun e e' he he' => h.sep e e' (hs e he) (hs e' he'), fun t ht => h.fresh t (hf t ht), fun e e' he he' => h.uniq e e' (hs e he) (hs e' he'), fun e he => h.own e (hs e he), h.sz, h.lo⟩

/-- a world in which all that was is unturned -/
theorem HRel.world {G : Ghost} {M : HEnt → Prop} {fr : Nat → Prop} {w w' : World} (h : HRel G M fr w) (hw : ∀ r, r < w.heap.size → w'.heap[r]? = w.heap[r]?) (hz : w.heap.size ≤ w'.heap.size) : HRel G M fr w' :=
  ⟨fun r o hr => by
      have := h.ro r o hr
      rw [hw r (Array.getElem?_eq_some_iff.1 this).1]; exact this,
    fun e he => let ⟨l, h1, h2, h3⟩ := h.ent e he; ⟨l, h1, h2.world (hw _ h2.lt), h3⟩, h.sep, h.fresh, h.uniq, h.own, fun r hr => Nat.lt_of_lt_of_le (h.sz r hr) hz, fun r hr => ⟨(h.lo r hr).1, (hw r (h.sz r hr)).trans (h.lo r hr).2⟩⟩

def Ghost.put (G : Ghost) (t : Nat) (l : Loc) : Ghost := { G with ι := fun u => if u = t then some l else G.ι u }

theorem Ghost.le_put {G : Ghost} {t : Nat} {l : Loc} (h : G.ι t = none) : G.le (G.put t l) :=
  ⟨⟨fun u l' hu => by
    simp only [Ghost.put]
    split
    · rename_i e; subst e; rw [h] at hu; cases hu
    · exact hu, fun _ _ h => h⟩, rfl⟩

/-- what an operation does to the abstract heap -/
inductive Eff where
  | no
  | new (e : HEnt)
  | set (t g : Nat) (k : ABlk)
  | ext (t g : Nat) (e : HEnt)

def effM : Eff → (HEnt → Prop) → HEnt → Prop
  | .no, M, x => M x
  | .new e, M, x => M x ∨ x = e
  | .set t g k, M, x => (M x ∧ x.grp ≠ g) ∨ x = ⟨t, g, k⟩
  | .ext t g e, M, x => (M x ∧ (x.grp ≠ g ∨ x.id = t)) ∨ x = e

/-- a new block, number id, in a group of its own -/
theorem HRel.alloc {G : Ghost} {M : HEnt → Prop} {fr : Nat → Prop} {w : World} (h : HRel G M fr w) (id : Nat) (hid : fr id) (e esz : Nat) (vals : List AV) (cur : Array Value) (pre suf : List Value)
    (hl : ∀ v ∈ vals, v.cells.length = esz) (hc : cur.toList = pre ++ suf) (hr : VRels G (flat vals) pre) (h1 : ∀ c ∈ pre, c.oneCell' = true) :
    HRel (G.put id ⟨w.heap.size, esz, cur.size⟩) (effM (.new ⟨id, id, .rows e esz vals⟩) M) (fun t => fr t ∧ t ≠ id) { w with heap := w.heap.push (.cells cur e (0, 0)) } := by
  have hn : G.ι id = none := h.fresh id hid
  have hle : G.le (G.put id ⟨w.heap.size, esz, cur.size⟩) := Ghost.le_put hn
  have hw : ∀ r, r < w.heap.size → (w.heap.push (.cells cur e (0, 0)))[r]? = w.heap[r]? := fun r hr => by
    rw [Array.getElem?_push, if_neg (Nat.ne_of_lt hr)]
  have hold : ∀ x, M x → x.id ≠ id := fun x hx e => by
    obtain ⟨l, h1, _⟩ := h.ent x hx
    rw [e, hn] at h1; cases h1
  have hput : ∀ x, M x → (G.put id ⟨w.heap.size, esz, cur.size⟩).ι x.id = G.ι x.id := fun x hx => by simp [Ghost.put, hold x hx]
  have hnew : (G.put id ⟨w.heap.size, esz, cur.size⟩).ι id = some ⟨w.heap.size, esz, cur.size⟩ := by simp [Ghost.put]
  refine ⟨fun r o hr => ?_, fun x hx => ?_, fun x y hx hy hne l l' hl hl' => ?_, fun t ht => ?_, fun x y hx hy hxy => ?_, fun x hx l1 hl1 => ?_, fun r hr => ?_, fun r hr => ⟨(h.lo r hr).1, (hw r (h.sz r hr)).trans (h.lo r hr).2⟩⟩
  · have := h.ro r o hr
    show (w.heap.push _)[r]? = _
    rw [hw r (Array.getElem?_eq_some_iff.1 this).1]; exact this
  · rcases hx with hx | rfl
    · obtain ⟨l, h2, h3, h4, h5⟩ := h.ent x hx
      exact ⟨l, hle.ι _ _ h2, (h3.mono hle).world (hw _ h3.lt), h4, fun x => h5 x.1⟩
    · refine ⟨_, hnew, ⟨rfl, hl, cur, by simp, rfl, pre, suf, hc, VRels.mono hle _ hr, h1⟩, ?_, fun x => x.2 rfl⟩
      cases hro : G.ro w.heap.size with
      | none => exact hro
      | some o => have := h.ro _ _ hro; simp at this
  · rcases hx with hx | rfl <;> rcases hy with hy | rfl
    · rw [hput x hx] at hl
      rw [hput y hy] at hl'
      exact h.sep x y hx hy hne l l' hl hl'
    · obtain ⟨l2, h2, h3, _⟩ := h.ent x hx
      rw [hput x hx, h2] at hl
      rw [hnew] at hl'
      cases hl; cases hl'
      exact Nat.ne_of_lt h3.lt
    · obtain ⟨l2, h2, h3, _⟩ := h.ent y hy
      rw [hput y hy, h2] at hl'
      rw [hnew] at hl
      cases hl; cases hl'
      exact (Nat.ne_of_lt h3.lt).symm
    · exact (hne rfl).elim
  · simp only [Ghost.put, ht.2, if_false]
    exact h.fresh t ht.1
  · rcases hx with hx | rfl <;> rcases hy with hy | rfl
    · exact h.uniq x y hx hy hxy
    · exact absurd hxy (hold x hx)
    · exact absurd hxy.symm (hold y hy)
    · rfl
  · rcases hx with hx | rfl
    · rw [hput x hx] at hl1; exact h.own x hx l1 hl1
    · rw [hnew] at hl1; cases hl1; exact fun x => absurd (h.sz _ x) (Nat.lt_irrefl _)
  · show r < (w.heap.push _).size
    rw [Array.size_push]; exact Nat.lt_succ_of_lt (h.sz r hr)

/-- the entry of a block -/
def getE : List HEnt → Nat → Option HEnt
  | [], _ => none
  | e :: r, t => if e.id = t then some e else getE r t

theorem getE_mem : ∀ {hp : List HEnt} {t : Nat} {e : HEnt}, getE hp t = some e → e ∈ hp ∧ e.id = t
  | [], _, _, h => by simp [getE] at h
  | x :: r, t, e, h => by
    simp only [getE] at h
    split at h
    · rename_i hx; cases h; exact ⟨by simp, hx⟩
    · obtain ⟨h1, h2⟩ := getE_mem h; exact ⟨by simp [h1], h2⟩

/-- block t of group g holds k from now on; whatever else may share its memory is forgotten -/
def setB : List HEnt → (t g : Nat) → ABlk → List HEnt
  | [], _, _, _ => []
  | e :: r, t, g, k => if e.grp = g then (if e.id = t then ⟨t, g, k⟩ :: setB r t g k else setB r t g k) else e :: setB r t g k

theorem mem_setB : ∀ {hp : List HEnt} {t g : Nat} {k : ABlk} {e : HEnt}, e ∈ setB hp t g k → (e ∈ hp ∧ e.grp ≠ g) ∨ e = ⟨t, g, k⟩
  | [], _, _, _, _, h => by simp [setB] at h
  | x :: r, t, g, k, e, h => by
    simp only [setB] at h
    split at h
    · split at h
      · rcases List.mem_cons.1 h with h | h
        · exact .inr h
        · rcases mem_setB h with h | h
          · exact .inl ⟨by simp [h.1], h.2⟩
          · exact .inr h
      · rcases mem_setB h with h | h
        · exact .inl ⟨by simp [h.1], h.2⟩
        · exact .inr h
    · rcases List.mem_cons.1 h with h | h
      · subst h; rename_i hx; exact .inl ⟨by simp, hx⟩
      · rcases mem_setB h with h | h
        · exact .inl ⟨by simp [h.1], h.2⟩
        · exact .inr h

/-- a world in which one block has been turned -/
theorem HRel.setB {G : Ghost} {M : HEnt → Prop} {fr : Nat → Prop} {w w' : World} (h : HRel G M fr w) {e : HEnt} (he : M e) {l : Loc} (hι : G.ι e.id = some l) {k : ABlk}
    (hw : ∀ r, r ≠ l.b → w'.heap[r]? = w.heap[r]?) (hz : w.heap.size ≤ w'.heap.size) (hk : BRel G l w' k) : HRel G (effM (.set e.id e.grp k) M) fr w' := by
  obtain ⟨l0, h0, hb0, hro0, hg0⟩ := h.ent e he
  rw [hι] at h0; cases h0
  refine ⟨fun r o hr => ?_, fun x hx => ?_, fun x y hx hy hne l1 l2 h1 h2 => ?_, h.fresh, fun x y hx hy hxy => ?_, fun x hx l1 hl1 => ?_, fun r hr => Nat.lt_of_lt_of_le (h.sz r hr) hz, fun r hr => ⟨(h.lo r hr).1, (hw r (fun e1 => h.own e he l hι (e1 ▸ hr))).trans (h.lo r hr).2⟩⟩
  · rw [hw r (fun e => by rw [e, hro0] at hr; cases hr)]
    exact h.ro r o hr
  · rcases hx with ⟨hx, hne⟩ | rfl
    · obtain ⟨l1, h1, h2, h3⟩ := h.ent x hx
      exact ⟨l1, h1, h2.world (hw _ (h.sep x e hx he hne l1 l h1 hι)), h3⟩
    · exact ⟨l, hι, hk, hro0, hg0⟩
  · rcases hx with ⟨hx, hnx⟩ | rfl <;> rcases hy with ⟨hy, hny⟩ | rfl
    · exact h.sep x y hx hy hne l1 l2 h1 h2
    · exact h.sep x e hx he hnx l1 l2 h1 h2
    · exact h.sep e y he hy (fun e => hny e.symm) l1 l2 h1 h2
    · exact (hne rfl).elim
  · rcases hx with ⟨hx, hnx⟩ | rfl <;> rcases hy with ⟨hy, hny⟩ | rfl
    · exact h.uniq x y hx hy hxy
    · exact absurd (congrArg HEnt.grp (h.uniq x e hx he hxy)) hnx
    · exact absurd (congrArg HEnt.grp (h.uniq y e hy he hxy.symm)) hny
    · rfl
  · rcases hx with ⟨hx, _⟩ | rfl
    · exact h.own x hx l1 hl1
    · exact h.own e he l1 hl1

/-- a block told once more, longer: in the same memory (w' has turned this block alone), or in a new block -/
theorem HRel.ext {G : Ghost} {M : HEnt → Prop} {fr : Nat → Prop} {w w' : World} (h : HRel G M fr w) {et : HEnt} (het : M et) {lt : Loc} (hιt : G.ι et.id = some lt) {id : Nat} (hid : fr id) {l : Loc} {k : ABlk}
    (hw : ∀ r, r < w.heap.size → r ≠ lt.b → w'.heap[r]? = w.heap[r]?) (hkt : BRel G lt w' et.blk) (hk : BRel G l w' k) (hl : l.b = lt.b ∨ w.heap.size ≤ l.b) (hz : w.heap.size ≤ w'.heap.size) :
    HRel (G.put id l) (effM (.ext et.id et.grp ⟨id, et.grp, k⟩) M) (fun t => fr t ∧ t ≠ id) w' := by
  have hn : G.ι id = none := h.fresh id hid
  have hle : G.le (G.put id l) := Ghost.le_put hn
  obtain ⟨l0, h0, hb0, hro0, hg0⟩ := h.ent et het
  rw [hιt] at h0; cases h0
  have hold : ∀ x, M x → x.id ≠ id := fun x hx e => by
    obtain ⟨l, h1, _⟩ := h.ent x hx
    rw [e, hn] at h1; cases h1
  have hput : ∀ x, M x → (G.put id l).ι x.id = G.ι x.id := fun x hx => by simp [Ghost.put, hold x hx]
  have hnew : (G.put id l).ι id = some l := by simp [Ghost.put]
  have hlro : G.ro l.b = none := by
    rcases hl with hl | hl
    · rw [hl]; exact hro0
    · cases hro : G.ro l.b with
      | none => rfl
      | some o =>
        have := (Array.getElem?_eq_some_iff.1 (h.ro _ _ hro)).1
        omega
  -- a block of another group does not share the memory
  have apart : ∀ x, M x → x.grp ≠ et.grp → ∀ lx, G.ι x.id = some lx → lx.b ≠ l.b ∧ lx.b ≠ lt.b := fun x hx hne lx hlx => by
    have h1 := h.sep x et hx het hne lx lt hlx hιt
    obtain ⟨l2, h2, h3, _⟩ := h.ent x hx
    rw [hlx] at h2; cases h2
    refine ⟨?_, h1⟩
    rcases hl with hl | hl
    · rw [hl]; exact h1
    · have := h3.lt; omega
  refine ⟨fun r o hr => ?_, fun x hx => ?_, fun x y hx hy hne l1 l2 h1 h2 => ?_, fun t ht => ?_, fun x y hx hy hxy => ?_, fun x hx l1 hl1 => ?_, fun r hr => Nat.lt_of_lt_of_le (h.sz r hr) hz, fun r hr => ⟨(h.lo r hr).1, (hw r (h.sz r hr) (fun e1 => h.own et het lt hιt (e1 ▸ hr))).trans (h.lo r hr).2⟩⟩
  · rw [hw r (Array.getElem?_eq_some_iff.1 (h.ro r o hr)).1 (fun e => by have hr' : G.ro r = some o := hr; rw [e, hro0] at hr'; cases hr')]
    exact h.ro r o hr
  · rcases hx with ⟨hx, hx2⟩ | rfl
    · obtain ⟨lx, h1, h2, h3, h4⟩ := h.ent x hx
      refine ⟨lx, hle.ι _ _ h1, ?_, h3, fun y => h4 y.1⟩
      by_cases hg : x.grp = et.grp
      · have hxe := h.uniq x et hx het (hx2.resolve_left (fun e => e hg))
        subst hxe
        rw [hιt] at h1; cases h1
        exact hkt.mono hle
      · exact (h2.world (hw _ h2.lt (apart x hx hg lx h1).2)).mono hle
    · exact ⟨l, hnew, hk.mono hle, hlro, fun y => hg0 y.1⟩
  · rcases hx with ⟨hx, hx2⟩ | rfl <;> rcases hy with ⟨hy, hy2⟩ | rfl
    · rw [hput x hx] at h1
      rw [hput y hy] at h2
      exact h.sep x y hx hy hne l1 l2 h1 h2
    · rw [hput x hx] at h1
      rw [hnew] at h2; cases h2
      exact (apart x hx hne l1 h1).1
    · rw [hput y hy] at h2
      rw [hnew] at h1; cases h1
      exact (apart y hy (fun e => hne e.symm) l2 h2).1.symm
    · exact (hne rfl).elim
  · simp only [Ghost.put, ht.2, if_false]
    exact h.fresh t ht.1
  · rcases hx with ⟨hx, _⟩ | rfl <;> rcases hy with ⟨hy, _⟩ | rfl
    · exact h.uniq x y hx hy hxy
    · exact absurd hxy (hold x hx)
    · exact absurd hxy.symm (hold y hy)
    · rfl
  · rcases hx with ⟨hx, _⟩ | rfl
    · rw [hput x hx] at hl1; exact h.own x hx l1 hl1
    · rw [hnew] at hl1; cases hl1
      show ¬ G.an.P l.b
      rcases hl with hl | hl
      · rw [hl]; exact h.own et het lt hιt
      · exact fun x => absurd (h.sz _ x) (Nat.not_lt.2 hl)

/-! reading and writing inside rows -/
def AV.isAgg : AV → Bool
  | .agg _ => true
  | _ => false

theorem AV.isAgg_iff {v : AV} (h : v.isAgg = true) : ∃ cs, v = .agg cs := by
  cases v <;> simp [AV.isAgg] at h
  exact ⟨_, rfl⟩

def rd (esz : Nat) (vals : List AV) (i j size : Nat) (ag : Bool) : Option AV :=
  if ag then
    if j = 0 ∧ size = esz then (vals[i]?).bind fun v => if v.isAgg then some v else none
    else if j + size ≤ esz then (vals[i]?).map fun v => .agg ((v.cells.drop j).take size)
    else if i = 0 ∧ j = 0 ∧ size = vals.length * esz then some (.agg (flat vals)) else none
  else (vals[i]?).bind fun v => v.cells[j]?

/-- rows of one element for each cell, or aggregates of esz cells -/
def chunk (esz : Nat) : Nat → List AV → List AV
  | 0, _ => []
  | n + 1, xs => (.agg (xs.take esz)) :: chunk esz n (xs.drop esz)

def rowsOf (esz n : Nat) (xs : List AV) : List AV := if esz = 1 then xs else chunk esz n xs

theorem flat_chunk (esz : Nat) : ∀ (n : Nat) (xs : List AV), xs.length = n * esz → flat (chunk esz n xs) = xs
  | 0, xs, h => by simp at h; simp [chunk, flat, h]
  | n + 1, xs, h => by
    simp only [chunk, flat, AV.cells]
    rw [flat_chunk esz n (xs.drop esz) (by simp [h, Nat.add_mul]), List.take_append_drop]

theorem chunk_cells (esz : Nat) : ∀ (n : Nat) (xs : List AV), xs.length = n * esz → ∀ v ∈ chunk esz n xs, v.cells.length = esz
  | 0, xs, _, v, hv => by simp [chunk] at hv
  | n + 1, xs, h, v, hv => by
    simp only [chunk, List.mem_cons] at hv
    rcases hv with rfl | hv
    · simp [AV.cells, h, Nat.add_mul]
    · exact chunk_cells esz n (xs.drop esz) (by simp [h, Nat.add_mul]) v hv

theorem cells_of_sc {v : AV} (h : v.sc = true) : v.cells = [v] := by cases v <;> first | rfl | simp [AV.sc] at h

theorem flat_sc : ∀ {xs : List AV}, xs.all AV.sc = true → flat xs = xs
  | [], _ => rfl
  | v :: vs, h => by
    simp only [List.all_cons, Bool.and_eq_true] at h
    simp [flat, cells_of_sc h.1, flat_sc h.2]

theorem flat_rowsOf {esz n : Nat} {xs : List AV} (h : xs.length = n * esz) (hs : xs.all AV.sc = true) : flat (rowsOf esz n xs) = xs := by
  unfold rowsOf
  split
  · exact flat_sc hs
  · exact flat_chunk esz n xs h

theorem rowsOf_cells {esz n : Nat} {xs : List AV} (h : xs.length = n * esz) (hs : xs.all AV.sc = true) : ∀ v ∈ rowsOf esz n xs, v.cells.length = esz := by
  unfold rowsOf
  split
  · rename_i e
    subst e
    intro v hv
    simp [cells_of_sc (List.all_eq_true.1 hs v hv)]
  · exact chunk_cells esz n xs h

def wr (esz : Nat) (vals : List AV) (i j size : Nat) (ag : Bool) (x : AV) : Option (List AV) :=
  if ag then
    match x with
    | .agg xs =>
      if xs.length = size ∧ xs.all AV.sc = true then
        if j = 0 ∧ size = esz then (vals[i]?).bind fun _ => some (vals.set i x)
        else if j + size ≤ esz then (vals[i]?).bind fun v => some (vals.set i (.agg (v.cells.take j ++ (xs ++ v.cells.drop (j + size)))))
        else if i = 0 ∧ j = 0 ∧ size = vals.length * esz then some (rowsOf esz vals.length xs) else none
      else none
    | _ => none
  else
    if x.sc then
      (vals[i]?).bind fun v =>
        match v with
        | .agg cs => if j < cs.length then some (vals.set i (.agg (cs.set j x))) else none
        | _ => if j = 0 then some (vals.set i x) else none
    else none

/-- what reading says of the cells -/
theorem rd_flat {esz : Nat} {vals : List AV} {i j size : Nat} {ag : Bool} {v : AV} (hu : ∀ v ∈ vals, v.cells.length = esz) (h : rd esz vals i j size ag = some v) (hsz : ag = false → size = 1) :
    (if ag then v = .agg (((flat vals).drop (i * esz + j)).take size) else ((flat vals).drop (i * esz + j)).take size = [v]) ∧ i * esz + j + size ≤ (flat vals).length := by
  have key : ∀ u, vals[i]? = some u → (flat vals).drop (i * esz + j) = (u.cells ++ flat (vals.drop (i + 1))).drop j ∧ u.cells.length = esz ∧ i * esz + esz ≤ (flat vals).length := by
    intro u hu'
    have hi : i < vals.length := (List.getElem?_eq_some_iff.1 hu').1
    have hlen : (flat (vals.take i)).length = i * esz := flat_take_length hu (Nat.le_of_lt hi)
    have hm : u ∈ vals := List.mem_of_getElem? hu'
    refine ⟨?_, hu u hm, ?_⟩
    · rw [flat_split hu', ← hlen, ← List.drop_drop, List.drop_left]
    · rw [flat_length hu]
      have : (i + 1) * esz ≤ vals.length * esz := Nat.mul_le_mul_right _ hi
      rw [Nat.add_mul] at this; omega
  unfold rd at h
  cases ag with
  | false =>
    have hs := hsz rfl
    subst hs
    simp only [Bool.false_eq_true, if_false] at h ⊢
    cases hu' : vals[i]? with
    | none => simp [hu'] at h
    | some u =>
      simp only [hu', Option.bind_some] at h
      obtain ⟨k1, k2, k3⟩ := key u hu'
      obtain ⟨hj, hv⟩ := List.getElem?_eq_some_iff.1 h
      refine ⟨?_, by omega⟩
      rw [k1, List.drop_append_of_le_length (Nat.le_of_lt hj), List.drop_eq_getElem_cons hj, hv]
      rfl
  | true =>
    simp only [if_true] at h ⊢
    split at h
    · rename_i hc
      obtain ⟨rfl, rfl⟩ := hc
      cases hu' : vals[i]? with
      | none => simp [hu'] at h
      | some u =>
        simp only [hu', Option.bind_some] at h
        obtain ⟨k1, k2, k3⟩ := key u hu'
        split at h
        · rename_i ha
          cases h
          obtain ⟨cs, rfl⟩ := AV.isAgg_iff ha
          refine ⟨?_, by omega⟩
          rw [k1, List.drop_zero, ← k2]
          simp [AV.cells]
        · cases h
    · split at h
      · rename_i hc
        cases hu' : vals[i]? with
        | none => simp [hu'] at h
        | some u =>
          simp only [hu', Option.map_some, Option.some.injEq] at h
          obtain ⟨k1, k2, k3⟩ := key u hu'
          refine ⟨?_, by omega⟩
          rw [← h, k1, List.drop_append_of_le_length (by omega), List.take_append_of_le_length (by simp; omega)]
      · split at h
        · rename_i hc
          obtain ⟨rfl, rfl, rfl⟩ := hc
          cases h
          have := flat_length hu
          refine ⟨?_, by omega⟩
          rw [← this]
          simp
        · cases h

/-- what writing says of the cells -/
theorem wr_flat {esz : Nat} {vals vals' : List AV} {i j size : Nat} {ag : Bool} {x : AV} (hu : ∀ v ∈ vals, v.cells.length = esz) (h : wr esz vals i j size ag x = some vals') (hsz : ag = false → size = 1) :
    flat vals' = (flat vals).take (i * esz + j) ++ (x.cells ++ (flat vals).drop (i * esz + j + size)) ∧ (∀ v ∈ vals', v.cells.length = esz) ∧ vals'.length = vals.length ∧
      i * esz + j + size ≤ (flat vals).length ∧ x.cells.length = size ∧ (x.sc = true ∨ ∃ cs, x = .agg cs) ∧ x.cells.all AV.sc = true := by
  have key : ∀ u, vals[i]? = some u → flat vals = flat (vals.take i) ++ (u.cells ++ flat (vals.drop (i + 1))) ∧ (flat (vals.take i)).length = i * esz ∧ u.cells.length = esz ∧ i * esz + esz ≤ (flat vals).length := by
    intro u hu'
    have hi : i < vals.length := (List.getElem?_eq_some_iff.1 hu').1
    have hlen : (flat (vals.take i)).length = i * esz := flat_take_length hu (Nat.le_of_lt hi)
    have hm : u ∈ vals := List.mem_of_getElem? hu'
    refine ⟨flat_split hu', hlen, hu u hm, ?_⟩
    rw [flat_length hu]
    have : (i + 1) * esz ≤ vals.length * esz := Nat.mul_le_mul_right _ hi
    rw [Nat.add_mul] at this; omega
  have hset : ∀ (u v' : AV), vals[i]? = some u → v'.cells.length = esz → ∀ v ∈ vals.set i v', v.cells.length = esz := by
    intro u v' _ hv' v hv
    rcases List.mem_or_eq_of_mem_set hv with h | h
    · exact hu v h
    · rw [h]; exact hv'
  -- the general step: u's cells from j on replaced by xs
  have step : ∀ (u v' : AV) (xs : List AV), vals[i]? = some u → j + xs.length ≤ esz → v'.cells = u.cells.take j ++ (xs ++ u.cells.drop (j + xs.length)) →
      flat (vals.set i v') = (flat vals).take (i * esz + j) ++ (xs ++ (flat vals).drop (i * esz + j + xs.length)) ∧ v'.cells.length = esz := by
    intro u v' xs hu' hj hv'
    obtain ⟨k1, k2, k3, k4⟩ := key u hu'
    constructor
    · rw [flat_set hu', hv', k1]
      generalize flat (vals.take i) = A at *
      generalize flat (vals.drop (i + 1)) = B at *
      have e1 : (A ++ (u.cells ++ B)).take (i * esz + j) = A ++ u.cells.take j := by
        rw [List.take_append, k2, List.take_of_length_le (by omega), Nat.add_sub_cancel_left, List.take_append_of_le_length (by omega)]
      have e2 : (A ++ (u.cells ++ B)).drop (i * esz + j + xs.length) = u.cells.drop (j + xs.length) ++ B := by
        rw [List.drop_append, k2, List.drop_eq_nil_of_le (by omega), List.nil_append, Nat.add_assoc, Nat.add_sub_cancel_left, List.drop_append_of_le_length (by omega)]
      rw [e1, e2]
      simp [List.append_assoc]
    · rw [hv']
      simp only [List.length_append, List.length_take, List.length_drop, k3]
      omega
  unfold wr at h
  cases ag with
  | false =>
    have hs := hsz rfl
    subst hs
    simp only [Bool.false_eq_true, if_false] at h
    split at h
    · rename_i hx
      cases hu' : vals[i]? with
      | none => simp [hu'] at h
      | some u =>
        simp only [hu', Option.bind_some] at h
        obtain ⟨k1, k2, k3, k4⟩ := key u hu'
        have hxc := cells_of_sc hx
        have fin : ∀ v' : AV, j + 1 ≤ esz → v'.cells = u.cells.take j ++ ([x] ++ u.cells.drop (j + 1)) → some (vals.set i v') = some vals' →
            flat vals' = (flat vals).take (i * esz + j) ++ (x.cells ++ (flat vals).drop (i * esz + j + 1)) ∧ (∀ v ∈ vals', v.cells.length = esz) ∧ vals'.length = vals.length ∧
              i * esz + j + 1 ≤ (flat vals).length ∧ x.cells.length = 1 ∧ (x.sc = true ∨ ∃ cs, x = .agg cs) ∧ x.cells.all AV.sc = true := fun v' hj hv' he => by
          cases he
          obtain ⟨s1, s2⟩ := step u v' [x] hu' (by simpa using hj) (by simpa using hv')
          refine ⟨by rw [hxc]; simpa using s1, hset u v' hu' s2, by simp, by omega, by simp [hxc], .inl hx, by simp [hxc, hx]⟩
        split at h
        · rename_i cs
          split at h
          · rename_i hj
            simp only [AV.cells] at k3
            refine fin _ (by omega) ?_ h
            simp only [AV.cells]
            rw [List.set_eq_take_append_cons_drop, if_pos hj]
            rfl
          · cases h
        · rename_i hnagg
          split at h
          · rename_i hj
            subst hj
            have huc : u.cells = [u] := by
              cases u <;> first | rfl | exact (hnagg _ rfl).elim
            rw [huc] at k3
            simp only [List.length_singleton] at k3
            refine fin _ (by omega) ?_ h
            simp [hxc, huc]
          · cases h
    · cases h
  | true =>
    simp only [if_true] at h
    split at h
    · rename_i xs
      split at h
      · rename_i hx
        obtain ⟨hxl, hxs⟩ := hx
        split at h
        · rename_i hc
          obtain ⟨rfl, rfl⟩ := hc
          cases hu' : vals[i]? with
          | none => simp [hu'] at h
          | some u =>
            simp only [hu', Option.bind_some, Option.some.injEq] at h
            obtain ⟨k1, k2, k3, k4⟩ := key u hu'
            obtain ⟨s1, s2⟩ := step u (.agg xs) xs hu' (by omega) (by simp [AV.cells, hxl, ← k3])
            subst h
            exact ⟨by simpa [AV.cells, hxl] using s1, hset u _ hu' s2, by simp, by omega, by simp [AV.cells, hxl], .inr ⟨xs, rfl⟩, by simpa [AV.cells] using hxs⟩
        · split at h
          · rename_i hc
            cases hu' : vals[i]? with
            | none => simp [hu'] at h
            | some u =>
              simp only [hu', Option.bind_some, Option.some.injEq] at h
              obtain ⟨k1, k2, k3, k4⟩ := key u hu'
              obtain ⟨s1, s2⟩ := step u (.agg (u.cells.take j ++ (xs ++ u.cells.drop (j + size)))) xs hu' (by omega) (by simp [AV.cells, hxl])
              subst h
              exact ⟨by simpa [AV.cells, hxl] using s1, hset u _ hu' s2, by simp, by omega, by simp [AV.cells, hxl], .inr ⟨xs, rfl⟩, by simpa [AV.cells] using hxs⟩
          · split at h
            · rename_i hc
              obtain ⟨rfl, rfl, rfl⟩ := hc
              cases h
              have hf := flat_length hu
              refine ⟨?_, rowsOf_cells hxl hxs, ?_, by omega, by simp [AV.cells, hxl], .inr ⟨xs, rfl⟩, by simpa [AV.cells] using hxs⟩
              · rw [flat_rowsOf hxl hxs]
                simp only [Nat.zero_mul, Nat.zero_add, List.take_zero, List.nil_append, AV.cells]
                rw [List.drop_eq_nil_of_le (by omega), List.append_nil]
              · have h1 : (flat (rowsOf esz vals.length xs)).length = (rowsOf esz vals.length xs).length * esz := flat_length (rowsOf_cells hxl hxs)
                unfold rowsOf
                split
                · rename_i he; subst he; omega
                · have : ∀ n ys, (chunk esz n ys).length = n := by
                    intro n
                    induction n with
                    | zero => intro ys; rfl
                    | succ n ih => intro ys; simp [chunk, ih]
                  exact this _ _
            · cases h
      · cases h
    · cases h

end Eng

namespace Eng
open Go
set_option linter.unusedSimpArgs false
set_option linter.unusedVariables false

/-! leaves of a type that is compared -/
inductive LK where
  | i | b | s

def leafEq : LK → Value → Value → Option Bool
  | .i, .int k a, .int k' c => if k = k' then some (decide (a = c)) else none
  | .b, .bool a, .bool c => some (decide (a = c))
  | .s, .string a, .string c => some (decide (a = c))
  | _, _, _ => none

def eqL : List LK → List Value → List Value → Option Bool
  | [], [], [] => some true
  | k :: ks, c :: cs, d :: ds => (leafEq k c d).bind fun x => (eqL ks cs ds).map fun y => x && y
  | _, _, _ => none

def leavesF (g : TypeId → Option (List LK)) : List Field → Nat → Option (List LK)
  | [], _ => some []
  | f :: fs, off =>
    if f.name = "_" ∨ f.offset ≠ off then none
    else (g f.type).bind fun l => (leavesF g fs (off + l.length)).map fun m => l ++ m

def rep (l : List LK) : Nat → List LK
  | 0 => []
  | n + 1 => l ++ rep l n

def tyAgg (P : Program) (t : TypeId) : Option (Bool × Nat) :=
  match P.underlying t, P.info? t with
  | some d, some i => some (match d with | .struct _ | .array _ _ => true | _ => false, i.size)
  | _, _ => none

def leaves (P : Program) : Nat → TypeId → Option (List LK)
  | 0, _ => none
  | d + 1, t =>
    match P.underlying t, tyAgg P t with
    | some (.int _), some (_, 1) => some [.i]
    | some .bool, some (_, 1) => some [.b]
    | some .string, some (_, 1) => some [.s]
    | some (.struct fs), some (_, n) => if P.stoodInHeld t then none else (leavesF (leaves P d) fs.toList 0).bind fun l => if l.length = n then some l else none
    | some (.array k e), some (_, n) => (leaves P d e).bind fun l => if P.cellsOf e = l.length ∧ (rep l k).length = n then some (rep l k) else none
    | _, _ => none

theorem run_isAgg' {P : Program} {t : TypeId} {ag : Bool} {n : Nat} (h : tyAgg P t = some (ag, n)) (w : World) : (isAgg t).run P w = .ok ag w := by
  unfold tyAgg at h
  cases hd : P.underlying t with
  | none => simp [hd] at h
  | some d =>
    cases hi : P.info? t with
    | none => simp [hd, hi] at h
    | some i =>
      simp only [hd, hi, Option.some.injEq, Prod.mk.injEq] at h
      obtain ⟨h1, _⟩ := h
      subst h1
      cases d <;> simp [isAgg, run_underlying hd]

theorem run_sizeOf' {P : Program} {t : TypeId} {ag : Bool} {n : Nat} (h : tyAgg P t = some (ag, n)) (w : World) : (Go.sizeOf t).run P w = .ok n w := by
  unfold tyAgg at h
  cases hd : P.underlying t with
  | none => simp [hd] at h
  | some d =>
    cases hi : P.info? t with
    | none => simp [hd, hi] at h
    | some i =>
      simp only [hd, hi, Option.some.injEq, Prod.mk.injEq] at h
      simp [Go.sizeOf, typeInfo, hi, h.2]

theorem tyAgg_info {P : Program} {t : TypeId} {ag : Bool} {n : Nat} (h : tyAgg P t = some (ag, n)) : ∃ i, P.info? t = some i ∧ i.size = n := by
  unfold tyAgg at h
  cases hd : P.underlying t with
  | none => simp [hd] at h
  | some d =>
    cases hi : P.info? t with
    | none => simp [hd, hi] at h
    | some i =>
      simp only [hd, hi, Option.some.injEq, Prod.mk.injEq] at h
      exact ⟨i, rfl, h.2⟩

theorem tyAgg_cellsOf {P : Program} {t : TypeId} {ag : Bool} {n : Nat} (h : tyAgg P t = some (ag, n)) : P.cellsOf t = n := by
  obtain ⟨i, h1, h2⟩ := tyAgg_info h
  simp [Program.cellsOf, h1, h2]

theorem eqL_length : ∀ {ks : List LK} {cs ds : List Value} {r : Bool}, eqL ks cs ds = some r → cs.length = ks.length ∧ ds.length = ks.length
  | [], [], [], _, _ => by simp
  | k :: ks, c :: cs, d :: ds, r, h => by
    simp only [eqL, Option.bind_eq_some_iff, Option.map_eq_some_iff] at h
    obtain ⟨x, _, y, h2, _⟩ := h
    obtain ⟨h3, h4⟩ := eqL_length h2
    simp [h3, h4]
  | [], _ :: _, _, _, h => by simp [eqL] at h
  | [], [], _ :: _, _, h => by simp [eqL] at h
  | _ :: _, [], _, _, h => by simp [eqL] at h
  | _ :: _, _ :: _, [], _, h => by simp [eqL] at h

theorem eqL_append : ∀ {ks ls : List LK} {cs ds : List Value} {r : Bool}, eqL (ks ++ ls) cs ds = some r →
    ∃ x y, eqL ks (cs.take ks.length) (ds.take ks.length) = some x ∧ eqL ls (cs.drop ks.length) (ds.drop ks.length) = some y ∧ r = (x && y)
  | [], ls, cs, ds, r, h => ⟨true, r, by simp [eqL], by simpa using h, by simp⟩
  | k :: ks, ls, [], _, _, h => by simp [eqL] at h
  | k :: ks, ls, c :: cs, [], _, h => by simp [eqL] at h
  | k :: ks, ls, c :: cs, d :: ds, r, h => by
    simp only [List.cons_append, eqL, Option.bind_eq_some_iff, Option.map_eq_some_iff] at h
    obtain ⟨x, h1, y, h2, rfl⟩ := h
    obtain ⟨x', y', h3, h4, rfl⟩ := eqL_append h2
    refine ⟨x && x', y', ?_, by simpa using h4, by simp [Bool.and_assoc]⟩
    simp [eqL, h1, h3]

theorem leaves_len {P : Program} : ∀ {d : Nat} {t : TypeId} {l : List LK}, leaves P d t = some l → ∃ ag, tyAgg P t = some (ag, l.length)
  | 0, _, _, h => by simp [leaves] at h
  | d + 1, t, l, h => by
    simp only [leaves] at h
    split at h
    · rename_i h2; cases h; exact ⟨_, h2⟩
    · rename_i h2; cases h; exact ⟨_, h2⟩
    · rename_i h2; cases h; exact ⟨_, h2⟩
    · rename_i ag n _ h2
      split at h
      · cases h
      · simp only [Option.bind_eq_some_iff] at h
        obtain ⟨l', _, h3⟩ := h
        split at h3
        · rename_i e; cases h3; exact ⟨_, e ▸ h2⟩
        · cases h3
    · rename_i ag n _ h2
      simp only [Option.bind_eq_some_iff] at h
      obtain ⟨l', _, h3⟩ := h
      split at h3
      · rename_i e; cases h3; exact ⟨_, e.2 ▸ h2⟩
      · cases h3
    · cases h

/-- one value of type t out of its cells -/
def partOf (ag : Bool) (cs : List Value) : Value := if ag then .agg cs.toArray else cs.headD undef

theorem run_part' {P : Program} {t : TypeId} {ag : Bool} {n : Nat} (h : tyAgg P t = some (ag, n)) (hn : ag = false → n = 1) (xs : List Value) (off : Nat) (hl : off + n ≤ xs.length) (w : World) :
    (part t xs.toArray off).run P w = .ok (partOf ag ((xs.drop off).take n)) w := by
  unfold part
  simp only [Sem.run_bind, run_isAgg' h, Result.andThen_ok, Sem.run_ite]
  cases ag with
  | true =>
    simp only [if_true, run_sizeOf' h, Result.andThen_ok, Sem.run_pure, partOf]
    congr 2
    simp [List.extract_eq_take_drop]
  | false =>
    have := hn rfl
    subst this
    have hlt : off < xs.length := by omega
    simp only [Bool.false_eq_true, if_false, partOf, List.getElem?_toArray, List.getElem?_eq_getElem hlt]
    rw [List.drop_eq_getElem_cons hlt]
    rfl

theorem bytes_eq (x y : ByteArray) : (x.toList == y.toList) = decide (x = y) := by
  rw [Bool.eq_iff_iff]
  simp only [beq_iff_eq, decide_eq_true_eq, ByteArray.toList_eq]
  constructor
  · intro h
    obtain ⟨⟨x⟩⟩ := x
    obtain ⟨⟨y⟩⟩ := y
    simp at h
    rw [h]
  · rintro rfl; rfl

theorem equalIn_leaves {P : Program} (w : World) (m : Nat) : ∀ (d : Nat) (t : TypeId) (l : List LK) (ag : Bool), leaves P d t = some l → tyAgg P t = some (ag, l.length) →
    (ag = false → l.length = 1) ∧
    ∀ (cs ds : List Value) (r : Bool), eqL l cs ds = some r → (Op.equalIn (d + m) t (partOf ag cs) (partOf ag ds)).run P w = .ok r w
  | 0, _, _, _, h, _ => by simp [leaves] at h
  | d + 1, t, l, ag, h, hag => by
    have hd : d + 1 + m = (d + m) + 1 := by omega
    rw [hd]
    -- a leaf
    have leaf : ∀ (k : LK) (desc : TypeDesc), P.underlying t = some desc → (match desc with | .struct _ | .array _ _ => true | _ => false) = false → l = [k] →
        (∀ a b r, leafEq k a b = some r → (Op.equalIn (d + m + 1) t a b).run P w = .ok r w) →
        (ag = false → l.length = 1) ∧ ∀ (cs ds : List Value) (r : Bool), eqL l cs ds = some r → (Op.equalIn (d + m + 1) t (partOf ag cs) (partOf ag ds)).run P w = .ok r w := by
      intro k desc hdesc hna hl heq
      subst hl
      have hagf : ag = false := by
        unfold tyAgg at hag
        rw [hdesc] at hag
        cases hi : P.info? t with
        | none => simp [hi] at hag
        | some i => simp only [hi, Option.some.injEq, Prod.mk.injEq] at hag; rw [← hag.1]; exact hna
      subst hagf
      refine ⟨fun _ => rfl, fun cs ds r he => ?_⟩
      obtain ⟨h1, h2⟩ := eqL_length he
      obtain ⟨c, rfl⟩ := List.length_eq_one_iff.1 h1
      obtain ⟨d', rfl⟩ := List.length_eq_one_iff.1 h2
      simp only [eqL, Option.map_some, Option.bind_eq_some_iff, Option.some.injEq] at he
      obtain ⟨x, hx, rfl⟩ := he
      simpa [partOf] using heq c d' x hx
    simp only [leaves] at h
    split at h
    · rename_i k hu h2
      cases h
      refine leaf .i _ hu rfl rfl fun a b r hr => ?_
      cases a <;> cases b <;> simp [leafEq] at hr
      obtain ⟨rfl, rfl⟩ := hr
      rw [run_equalIn_int w _ t _ _ _ _ hu]; rfl
    · rename_i hu h2
      cases h
      refine leaf .b _ hu rfl rfl fun a b r hr => ?_
      cases a <;> cases b <;> simp [leafEq] at hr
      subst hr
      rw [run_equalIn_bool' w _ t _ _ hu]
      congr 1
    · rename_i hu h2
      cases h
      refine leaf .s _ hu rfl rfl fun a b r hr => ?_
      cases a <;> cases b <;> simp [leafEq] at hr
      subst hr
      rw [run_equalIn_string w _ t _ _ hu, bytes_eq]
    · rename_i fs _ n hu h2
      split at h
      · cases h
      rename_i hst
      simp only [Option.bind_eq_some_iff] at h
      obtain ⟨l', hf, h3⟩ := h
      split at h3
      · cases h3
        rename_i hn
        have hagt : ag = true := by
          unfold tyAgg at hag
          rw [hu] at hag
          cases hi : P.info? t with
          | none => simp [hi] at hag
          | some i => simp only [hi, Option.some.injEq, Prod.mk.injEq] at hag; exact hag.1.symm
        subst hagt
        refine ⟨fun e => (by cases e), fun cs ds r he => ?_⟩
        simp only [partOf, if_true]
        have hfo : P.fieldsOf t = fs := by simp [Program.fieldsOf, hu]
        rw [run_equalIn_struct w (d + m) t cs.toArray ds.toArray (by rw [hfo]; exact hu) (by simpa using hst), hfo]
        -- the fields, from off on
        have go : ∀ (gs : List Field) (off : Nat) (l : List LK), leavesF (leaves P d) gs off = some l → ∀ (r : Bool), eqL l (cs.drop off) (ds.drop off) = some r →
            (Op.eqFields (d + m) cs.toArray ds.toArray gs).run P w = .ok r w := by
          intro gs
          induction gs with
          | nil =>
            intro off l hl r he
            simp only [leavesF, Option.some.injEq] at hl
            subst hl
            cases hc : cs.drop off <;> cases hd : ds.drop off <;> simp [hc, hd, eqL] at he
            subst he
            simp [Op.eqFields]
          | cons f gs ih =>
            intro off l hl r he
            simp only [leavesF] at hl
            split at hl
            · cases hl
            rename_i hno
            simp only [not_or, Decidable.not_not] at hno
            obtain ⟨hname, hoff⟩ := hno
            simp only [Option.bind_eq_some_iff, Option.map_eq_some_iff] at hl
            obtain ⟨lf, h4, lg, h5, rfl⟩ := hl
            obtain ⟨x, y, e1, e2, rfl⟩ := eqL_append he
            obtain ⟨agf, hagf⟩ := leaves_len h4
            obtain ⟨hone, hrun⟩ := equalIn_leaves w m d f.type lf agf h4 hagf
            have hl1 := (eqL_length he).1
            have hl2 := (eqL_length he).2
            simp only [List.length_drop, List.length_append] at hl1 hl2
            by_cases hz : lf.length = 0
            · have : lf = [] := List.eq_nil_of_length_eq_zero hz
              subst this
              have hagt : agf = true := by
                cases agf with
                | true => rfl
                | false => have := hone rfl; simp at this
              subst hagt
              simp only [eqL, List.length_nil, List.take_zero, Option.some.injEq] at e1
              subst e1
              have r1 := hrun [] [] true rfl
              simp only [partOf, if_true] at r1
              have p1 : ∀ (zs : List Value), (part f.type zs.toArray f.offset).run P w = .ok (.agg #[]) w := fun zs => by
                unfold part
                simp only [Sem.run_bind, run_isAgg' hagf, Result.andThen_ok, if_true, run_sizeOf' hagf, Sem.run_pure]
                simp
              simp only [Op.eqFields, hname, ne_eq, not_false_eq_true, if_true, Sem.run_bind, p1, Result.andThen_ok, r1, Bool.not_true, Bool.false_eq_true, if_false, Bool.true_and]
              exact ih (off + 0) lg (by simpa using h5) y (by simpa using e2)
            · have p1 := run_part' hagf hone cs f.offset (by omega) w
              have p2 := run_part' hagf hone ds f.offset (by omega) w
              rw [hoff] at p1 p2
              have r1 := hrun _ _ _ e1
              simp only [Op.eqFields, hname, ne_eq, not_false_eq_true, if_true, Sem.run_bind, hoff, p1, p2, Result.andThen_ok, r1]
              cases x
              · simp
              · simp only [Bool.not_true, Bool.false_eq_true, if_false, Bool.true_and]
                exact ih _ lg h5 y (by simpa [List.drop_drop] using e2)
        exact go fs.toList 0 _ hf r (by simpa using he)
      · cases h3
    · rename_i k e _ n hu h2
      simp only [Option.bind_eq_some_iff] at h
      obtain ⟨l', hf, h3⟩ := h
      split at h3
      · cases h3
        rename_i hn
        obtain ⟨hce, hn⟩ := hn
        have hagt : ag = true := by
          unfold tyAgg at hag
          rw [hu] at hag
          cases hi : P.info? t with
          | none => simp [hi] at hag
          | some i => simp only [hi, Option.some.injEq, Prod.mk.injEq] at hag; exact hag.1.symm
        subst hagt
        refine ⟨fun e => (by cases e), fun cs ds r he => ?_⟩
        simp only [partOf, if_true]
        obtain ⟨age, hage⟩ := leaves_len hf
        obtain ⟨i, hi, _⟩ := tyAgg_info hage
        obtain ⟨hone, hrun⟩ := equalIn_leaves w m d e l' age hf hage
        rw [run_equalIn_array w (d + m) cs.toArray ds.toArray hu hi, hce]
        have go : ∀ (k j : Nat) (r : Bool), eqL (rep l' k) (cs.drop (j * l'.length)) (ds.drop (j * l'.length)) = some r →
            (Op.eqItems (d + m) e l'.length cs.toArray ds.toArray (List.range' j k)).run P w = .ok r w := by
          intro k
          induction k with
          | zero =>
            intro j r he
            simp only [rep] at he
            cases hc : cs.drop (j * l'.length) <;> cases hd : ds.drop (j * l'.length) <;> simp [hc, hd, eqL] at he
            subst he
            simp [Op.eqItems]
          | succ k ih =>
            intro j r he
            simp only [rep] at he
            obtain ⟨x, y, e1, e2, rfl⟩ := eqL_append he
            have hl1 := (eqL_length he).1
            have hl2 := (eqL_length he).2
            simp only [List.length_drop, List.length_append] at hl1 hl2
            have r1 := hrun _ _ _ e1
            simp only [List.range'_succ, Op.eqItems, Sem.run_bind]
            by_cases hz : l'.length = 0
            · have : l' = [] := List.eq_nil_of_length_eq_zero hz
              subst this
              have hagt : age = true := by
                cases age with
                | true => rfl
                | false => have := hone rfl; simp at this
              subst hagt
              have p1 : ∀ (zs : List Value) (o : Nat), (part e zs.toArray o).run P w = .ok (.agg #[]) w := fun zs o => by
                unfold part
                simp only [Sem.run_bind, run_isAgg' hage, Result.andThen_ok, if_true, run_sizeOf' hage, Sem.run_pure]
                simp
              simp only [eqL, List.length_nil, List.take_zero, Option.some.injEq] at e1
              subst e1
              have r1 := hrun [] [] true rfl
              simp only [partOf, if_true] at r1
              simp only [p1, Result.andThen_ok, r1, Bool.not_true, Bool.false_eq_true, if_false, Bool.true_and]
              exact ih (j + 1) y (by simpa using e2)
            · have hge : j * l'.length + l'.length ≤ cs.length ∧ j * l'.length + l'.length ≤ ds.length := by omega
              have p1 := run_part' hage hone cs (j * l'.length) hge.1 w
              have p2 := run_part' hage hone ds (j * l'.length) hge.2 w
              simp only [p1, p2, Result.andThen_ok, r1]
              cases x
              · simp
              · simp only [Bool.not_true, Bool.false_eq_true, if_false, Bool.true_and]
                exact ih (j + 1) y (by rw [Nat.add_mul, Nat.one_mul]; simpa [List.drop_drop] using e2)
        have := go k 0 r (by simpa using he)
        rwa [← List.range_eq_range'] at this
      · cases h3
    · cases h

end Eng
