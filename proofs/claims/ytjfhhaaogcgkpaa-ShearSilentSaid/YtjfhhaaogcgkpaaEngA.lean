/-
  THE ENGINE, PART A: abstract values and what they say of a world.
  An abstract value (AV) stands for a Go value of the model; memory that is never written any more is a value itself ('vs': the elements of a slice);
  memory that is written has a number and lies in the abstract heap.
-/
import Derived.OrdersIn
import Derived.RangeFuncIn
import Derived.Laws.AppendOwn
import Derived.Below
namespace Eng
open Go

inductive AV where
  | any
  | bool (b : Bool)
  | int (k : IntKind) (n : Int)
  | str (s : ByteArray)
  | nilptr
  | ptr (t esz i j : Nat)
  | vp (vals : List AV) (i j : Nat)
  | nilslice
  | slice (t esz i n : Nat)
  | vs (vals : List AV)
  | mapv (t : Nat)
  | nilmap
  | fn (f : Nat) (first captured : List AV)
  | yield (l : Nat)
  | nilfn
  | iface (t : Nat) (v : AV)
  | nilif
  | agg (cs : List AV)
  | tup (vs : List AV)
  deriving Inhabited

def AV.cells : AV → List AV
  | .agg cs => cs
  | v => [v]

/-- one cell, whatever it holds -/
def AV.sc : AV → Bool
  | .any | .agg _ | .tup _ => false
  | _ => true

structure Loc where
  b : Nat
  esz : Nat
  size : Nat

/-- the blocks of others, which this activation does not turn: what they held, and what of them was never written any more -/
structure Anchor where
  P : Nat → Prop
  ro : Nat → Option Obj
  hp : Nat → Option Obj

structure Ghost where
  ι : Nat → Option Loc
  ro : Nat → Option Obj
  an : Anchor

structure Ghost.sub (G G' : Ghost) : Prop where
  ι : ∀ t l, G.ι t = some l → G'.ι t = some l
  ro : ∀ r o, G.ro r = some o → G'.ro r = some o

structure Ghost.le (G G' : Ghost) : Prop extends Ghost.sub G G' where
  an : G'.an = G.an

theorem Ghost.le.rfl {G : Ghost} : G.le G := ⟨⟨fun _ _ h => h, fun _ _ h => h⟩, Eq.refl _⟩
theorem Ghost.le.trans {G G' G'' : Ghost} (h : G.le G') (h' : G'.le G'') : G.le G'' :=
  ⟨⟨fun t l x => h'.ι t l (h.ι t l x), fun t l x => h'.ro t l (h.ro t l x)⟩, h'.an.trans h.an⟩

/-- The cells l lie at b, o, in memory that is not written any more. -/
def RoCells (G : Ghost) (b o : Nat) (l : List Value) : Prop :=
  ∃ (cur : Array Value) (e : TypeId) (fr : Nat × Nat), G.ro b = some (.cells cur e fr) ∧ ∀ k c, l[k]? = some c → cur[o + k]? = some c

theorem RoCells.mono' {G G' : Ghost} {b o : Nat} {l : List Value} (h : G.sub G') (x : RoCells G b o l) : RoCells G' b o l :=
  let ⟨cur, e, fr, h1, h2⟩ := x; ⟨cur, e, fr, h.ro _ _ h1, h2⟩

mutual
def VRel (G : Ghost) : AV → Value → Prop
  | .any, _ => True
  | .bool b, cv => cv = .bool b
  | .int k n, cv => cv = .int k n
  | .str s, cv => cv = .string s
  | .nilptr, cv => cv = .pointer none
  | .ptr t esz i j, cv => ∃ l, G.ι t = some l ∧ l.esz = esz ∧ cv = .pointer (some ⟨l.b, i * esz + j, none⟩)
  | .vp vals i j, cv => ∃ b o esz, VRows G vals b o esz ∧ cv = .pointer (some ⟨b, o + i * esz + j, none⟩)
  | .nilslice, cv => cv = .slice none 0 0
  | .slice t esz i n, cv => ∃ l cap, G.ι t = some l ∧ l.esz = esz ∧ cv = .slice (some ⟨l.b, i * esz, none⟩) n cap ∧ n ≤ cap ∧ cap ≤ maxLen ∧ (i + cap) * esz = l.size
  | .vs vals, cv => (vals = [] ∧ cv = .slice none 0 0) ∨ ∃ b o esz cap, VRows G vals b o esz ∧ cv = .slice (some ⟨b, o, none⟩) vals.length cap ∧ vals.length ≤ cap
  | .mapv t, cv => ∃ l, G.ι t = some l ∧ cv = .map (some l.b)
  | .nilmap, cv => cv = .map none
  | .fn f first cap, cv => ∃ cf cc, VRels G first cf ∧ VRels G cap cc ∧ cv = .func (.func f) cf.toArray cc.toArray
  | .yield l, cv => ∃ x, G.ι l = some x ∧ cv = .func (.yield x.b) #[] #[]
  | .nilfn, cv => cv = .nilFunc
  | .iface t v, cv => ∃ c, VRel G v c ∧ cv = .iface t c
  | .nilif, cv => cv = .nilIface
  | .agg cs, cv => ∃ ccs, VRels G cs ccs ∧ (∀ c ∈ ccs, c.oneCell' = true) ∧ cv = .agg ccs.toArray
  | .tup vs, cv => ∃ ccs, VRels G vs ccs ∧ cv = .tuple ccs.toArray
def VRels (G : Ghost) : List AV → List Value → Prop
  | [], l => l = []
  | v :: vs, l => ∃ c cs, l = c :: cs ∧ VRel G v c ∧ VRels G vs cs
def VRows (G : Ghost) : List AV → Nat → Nat → Nat → Prop
  | [], _, _, _ => True
  | v :: vs, b, o, esz => (∃ cv, VRel G v cv ∧ v.cells.length = esz ∧ cv.cells.size = esz ∧ (∀ c ∈ cv.cells.toList, c.oneCell' = true) ∧ RoCells G b o cv.cells.toList) ∧ VRows G vs b (o + esz) esz
end

mutual
theorem VRel.mono' {G G' : Ghost} (h : G.sub G') : ∀ (v : AV) {cv : Value}, VRel G v cv → VRel G' v cv
  | .any, _, _ => by simp only [VRel]
  | .bool b, cv, x => by simpa only [VRel] using x
  | .int k n, cv, x => by simpa only [VRel] using x
  | .str s, cv, x => by simpa only [VRel] using x
  | .nilptr, cv, x => by simpa only [VRel] using x
  | .ptr t esz i j, cv, x => by
    simp only [VRel] at x ⊢
    obtain ⟨l, h1, h2⟩ := x
    exact ⟨l, h.ι _ _ h1, h2⟩
  | .vp vals i j, cv, x => by
    simp only [VRel] at x ⊢
    obtain ⟨b, o, esz, h1, h2⟩ := x
    exact ⟨b, o, esz, VRows.mono' h vals h1, h2⟩
  | .nilslice, cv, x => by simpa only [VRel] using x
  | .slice t esz i n, cv, x => by
    simp only [VRel] at x ⊢
    obtain ⟨l, cap, h1, h2⟩ := x
    exact ⟨l, cap, h.ι _ _ h1, h2⟩
  | .vs vals, cv, x => by
    simp only [VRel] at x ⊢
    rcases x with x | ⟨b, o, esz, cap, h1, h2⟩
    · exact .inl x
    · exact .inr ⟨b, o, esz, cap, VRows.mono' h vals h1, h2⟩
  | .mapv t, cv, x => by
    simp only [VRel] at x ⊢
    obtain ⟨l, h1, h2⟩ := x
    exact ⟨l, h.ι _ _ h1, h2⟩
  | .nilmap, cv, x => by simpa only [VRel] using x
  | .fn f first cap, cv, x => by
    simp only [VRel] at x ⊢
    obtain ⟨cf, cc, h1, h2, h3⟩ := x
    exact ⟨cf, cc, VRels.mono' h first h1, VRels.mono' h cap h2, h3⟩
  | .yield l, cv, x => by
    simp only [VRel] at x ⊢
    obtain ⟨l, h1, h2⟩ := x
    exact ⟨l, h.ι _ _ h1, h2⟩
  | .nilfn, cv, x => by simpa only [VRel] using x
  | .iface t v, cv, x => by
    simp only [VRel] at x ⊢
    obtain ⟨c, h1, h2⟩ := x
    exact ⟨c, VRel.mono' h v h1, h2⟩
  | .nilif, cv, x => by simpa only [VRel] using x
  | .agg cs, cv, x => by
    simp only [VRel] at x ⊢
    obtain ⟨ccs, h1, h2⟩ := x
    exact ⟨ccs, VRels.mono' h cs h1, h2⟩
  | .tup vs, cv, x => by
    simp only [VRel] at x ⊢
    obtain ⟨ccs, h1, h2⟩ := x
    exact ⟨ccs, VRels.mono' h vs h1, h2⟩
theorem VRels.mono' {G G' : Ghost} (h : G.sub G') : ∀ (vs : List AV) {l : List Value}, VRels G vs l → VRels G' vs l
  | [], l, x => by simpa only [VRels] using x
  | v :: vs, l, x => by
    simp only [VRels] at x ⊢
    obtain ⟨c, cs, h1, h2, h3⟩ := x
    exact ⟨c, cs, h1, VRel.mono' h v h2, VRels.mono' h vs h3⟩
theorem VRows.mono' {G G' : Ghost} (h : G.sub G') : ∀ (vs : List AV) {b o esz : Nat}, VRows G vs b o esz → VRows G' vs b o esz
  | [], _, _, _, _ => by simp only [VRows]
  | v :: vs, b, o, esz, x => by
    simp only [VRows] at x ⊢
    obtain ⟨⟨cv, h1, h2, h3, h4, h5⟩, h6⟩ := x
    exact ⟨⟨cv, VRel.mono' h v h1, h2, h3, h4, RoCells.mono' h h5⟩, VRows.mono' h vs h6⟩
end

theorem RoCells.mono {G G' : Ghost} {b o : Nat} {l : List Value} (h : G.le G') (x : RoCells G b o l) : RoCells G' b o l := RoCells.mono' h.tosub x
theorem VRel.mono {G G' : Ghost} (h : G.le G') (v : AV) {cv : Value} (x : VRel G v cv) : VRel G' v cv := VRel.mono' h.tosub v x
theorem VRels.mono {G G' : Ghost} (h : G.le G') (vs : List AV) {l : List Value} (x : VRels G vs l) : VRels G' vs l := VRels.mono' h.tosub vs x
theorem VRows.mono {G G' : Ghost} (h : G.le G') (vs : List AV) {b o esz : Nat} (x : VRows G vs b o esz) : VRows G' vs b o esz := VRows.mono' h.tosub vs x

/-! lists -/
theorem VRels.length {G : Ghost} : ∀ {vs : List AV} {l : List Value}, VRels G vs l → l.length = vs.length
  | [], l, h => by simp only [VRels] at h; simp [h]
  | v :: vs, l, h => by
    simp only [VRels] at h
    obtain ⟨c, cs, rfl, _, h3⟩ := h
    simp [VRels.length h3]

theorem VRels.get {G : Ghost} : ∀ {vs : List AV} {l : List Value}, VRels G vs l → ∀ (i : Nat) (v : AV), vs[i]? = some v → ∃ c : Value, l[i]? = some c ∧ VRel G v c
  | [], l, h, i, v, hv => by simp at hv
  | x :: vs, l, h, i, v, hv => by
    simp only [VRels] at h
    obtain ⟨c, cs, rfl, h2, h3⟩ := h
    cases i with
    | zero => simp at hv; subst hv; exact ⟨c, by simp, h2⟩
    | succ i => simp at hv; obtain ⟨c', h4, h5⟩ := VRels.get h3 i v hv; exact ⟨c', by simpa using h4, h5⟩

theorem VRels.append {G : Ghost} : ∀ {vs : List AV} {l : List Value} {us m}, VRels G vs l → VRels G us m → VRels G (vs ++ us) (l ++ m)
  | [], l, us, m, h, h' => by simp only [VRels] at h; subst h; simpa using h'
  | v :: vs, l, us, m, h, h' => by
    simp only [VRels] at h
    obtain ⟨c, cs, rfl, h2, h3⟩ := h
    simp only [List.cons_append, VRels]
    exact ⟨c, cs ++ m, rfl, h2, VRels.append h3 h'⟩

theorem VRels.take {G : Ghost} : ∀ {vs : List AV} {l : List Value} (n : Nat), VRels G vs l → VRels G (vs.take n) (l.take n)
  | [], l, n, h => by simp only [VRels] at h; subst h; simp [VRels]
  | v :: vs, l, n, h => by
    simp only [VRels] at h
    obtain ⟨c, cs, rfl, h2, h3⟩ := h
    cases n with
    | zero => simp [VRels]
    | succ n => simp only [List.take_succ_cons, VRels]; exact ⟨c, _, rfl, h2, VRels.take n h3⟩

theorem VRels.drop {G : Ghost} : ∀ {vs : List AV} {l : List Value} (n : Nat), VRels G vs l → VRels G (vs.drop n) (l.drop n)
  | [], l, n, h => by simp only [VRels] at h; subst h; simp [VRels]
  | v :: vs, l, n, h => by
    simp only [VRels] at h
    obtain ⟨c, cs, rfl, h2, h3⟩ := h
    cases n with
    | zero => simp only [List.drop_zero, VRels]; exact ⟨c, _, rfl, h2, h3⟩
    | succ n => simpa using VRels.drop n h3

theorem VRels.set {G : Ghost} : ∀ {vs : List AV} {l : List Value} (n : Nat) {v c}, VRels G vs l → VRel G v c → VRels G (vs.set n v) (l.set n c)
  | [], l, n, _, _, h, _ => by simp only [VRels] at h; subst h; simp [VRels]
  | v :: vs, l, n, v', c', h, hv => by
    simp only [VRels] at h
    obtain ⟨c, cs, rfl, h2, h3⟩ := h
    cases n with
    | zero => simp only [List.set_cons_zero, VRels]; exact ⟨c', cs, rfl, hv, h3⟩
    | succ n => simp only [List.set_cons_succ, VRels]; exact ⟨c, _, rfl, h2, VRels.set n h3 hv⟩

theorem VRels.any {G : Ghost} : ∀ (l : List Value), VRels G (List.replicate l.length .any) l
  | [] => by simp [VRels]
  | c :: l => by simp only [List.length_cons, List.replicate_succ, VRels]; exact ⟨c, l, rfl, by simp [VRel], VRels.any l⟩

theorem VRel.oneCell {G : Ghost} {v : AV} {c : Value} (h : VRel G v c) (hs : v.sc = true) : c.oneCell' = true := by
  cases v <;> simp only [VRel, AV.sc, Bool.false_eq_true] at h hs
  case bool => subst h; rfl
  case int => subst h; rfl
  case str => subst h; rfl
  case nilptr => subst h; rfl
  case ptr => obtain ⟨_, _, _, rfl⟩ := h; rfl
  case vp => obtain ⟨_, _, _, _, rfl⟩ := h; rfl
  case nilslice => subst h; rfl
  case slice => obtain ⟨_, _, _, _, rfl, _⟩ := h; rfl
  case vs => rcases h with ⟨_, rfl⟩ | ⟨_, _, _, _, _, rfl, _⟩ <;> rfl
  case mapv => obtain ⟨_, _, rfl⟩ := h; rfl
  case nilmap => subst h; rfl
  case fn => obtain ⟨_, _, _, _, rfl⟩ := h; rfl
  case yield => obtain ⟨_, _, rfl⟩ := h; rfl
  case nilfn => subst h; rfl
  case iface => obtain ⟨_, _, rfl⟩ := h; rfl
  case nilif => subst h; rfl

/-- the cells of a value: of an aggregate its own, else the value itself -/
theorem VRel.cells {G : Ghost} {v : AV} {c : Value} (h : VRel G v c) (hs : v.sc = true ∨ ∃ cs, v = .agg cs) : VRels G v.cells c.cells.toList ∧ ∀ x ∈ c.cells.toList, x.oneCell' = true := by
  rcases hs with hs | ⟨cs, rfl⟩
  · have h1 := h.oneCell hs
    have e1 : v.cells = [v] := by cases v <;> first | rfl | simp [AV.sc] at hs
    have e2 : c.cells = #[c] := by cases c <;> first | rfl | simp [Value.oneCell'] at h1
    rw [e1, e2]
    simp only [VRels, List.mem_singleton, forall_eq]
    exact ⟨⟨c, [], rfl, h, rfl⟩, h1⟩
  · simp only [VRel] at h
    obtain ⟨ccs, h1, h2, rfl⟩ := h
    simpa [AV.cells, Value.cells] using ⟨h1, h2⟩

end Eng
