/-
THE ENGINE, PART D: the operations that only compute.
THE ENGINE, PART E: the model yields what the pure operations say.
THE ENGINE, PART F: 'compP' is sound.
-/
import Derived.Test.YtabkbhpeeefmgaaEngC
namespace Eng
open Go
set_option linter.unusedSimpArgs false
set_option linter.unusedVariables false

/-- a value that is there only if c holds (else the model's 'undef') -/
def optv (c : Bool) (v : AV) : AV := if c then v else .tup []
theorem optv_true (v : AV) : optv true v = v := rfl
theorem optv_false (v : AV) : optv false v = .tup [] := rfl

def pickV : AV → AV → AV → Option AV
  | .bool c, a, b => some (if c then a else b)
  | _, _, _ => none

inductive NK where
  | p | s | m | f | i

inductive POp where
  | mov | pick
  | binI (op : BinOp) | shf (left : Bool) | binS (op : BinOp) | eqB (neg : Bool) | eqN (neg : Bool) (k : NK) | eqa (neg : Bool) (l : List LK)
  | neg | notB | conv (k : IntKind)
  | build (zero : List AV) (ps : List (Nat × Nat))
  | mkfn (f n : Nat)
  | faddr (off : Nat) | field (off size : Nat) (ag : Bool)
  | iaddrS (s : Nat) | iaddrA (n s : Nat)
  | idxA (n s : Nat) (ag : Bool) | idxS
  | ext (i : Nat)
  | lenS | lenT | lenC (n : Nat)
  | mm (isMax : Bool)
  | nilck
  | mkif (t : Nat)
  | slc (s : Nat) (lo hi mx : Bool)
  | slt (lo hi : Bool)

def binIV (op : BinOp) (k : IntKind) (a b : Int) : Option AV :=
  match op with
  | .add => some (.int k (k.wrap (a + b)))
  | .sub => some (.int k (k.wrap (a - b)))
  | .mul => some (.int k (k.wrap (a * b)))
  | .quo => if b = 0 then none else some (.int k (k.wrap (a.tdiv b)))
  | .rem => if b = 0 then none else some (.int k (a.tmod b))
  | .eql => some (.bool (decide (a = b)))
  | .neq => some (.bool (!decide (a = b)))
  | .lss => some (.bool (decide (a < b)))
  | .leq => some (.bool (decide (a ≤ b)))
  | .gtr => some (.bool (decide (b < a)))
  | .geq => some (.bool (decide (b ≤ a)))
  | .and => some (.int k (k.wrap (BitVec.ofInt k.bits a &&& BitVec.ofInt k.bits b).toNat))
  | .or => some (.int k (k.wrap (BitVec.ofInt k.bits a ||| BitVec.ofInt k.bits b).toNat))
  | .xor => some (.int k (k.wrap (BitVec.ofInt k.bits a ^^^ BitVec.ofInt k.bits b).toNat))
  | _ => none

def binSV (op : BinOp) (a b : ByteArray) : Option AV :=
  match op with
  | .add => if a.size + b.size ≤ 9223372036854775807 then some (.str (a ++ b)) else none
  | .eql => some (.bool (decide (a = b)))
  | .neq => some (.bool (!decide (a = b)))
  | .lss => some (.bool (Op.bytesLess a.toList b.toList))
  | _ => none

def eqNV : NK → AV → AV → Option Bool
  | .p, .nilptr, .nilptr => some true
  | .p, .ptr .., .nilptr => some false
  | .p, .vp .., .nilptr => some false
  | .s, .nilslice, .nilslice => some true
  | .s, .slice .., .nilslice => some false
  | .s, .vs (_ :: _), .nilslice => some false
  | .m, .nilmap, .nilmap => some true
  | .m, .mapv _, .nilmap => some false
  | .f, .nilfn, .nilfn => some true
  | .f, .fn .., .nilfn => some false
  | .i, .nilif, .nilif => some true
  | .i, .iface .., .nilif => some false
  | _, _, _ => none

def leafAV : LK → AV → AV → Option Bool
  | .i, .int k a, .int k' c => if k = k' then some (decide (a = c)) else none
  | .b, .bool a, .bool c => some (decide (a = c))
  | .s, .str a, .str c => some (decide (a = c))
  | _, _, _ => none

def eqAV : List LK → List AV → List AV → Option Bool
  | [], [], [] => some true
  | k :: ks, c :: cs, d :: ds => (leafAV k c d).bind fun x => (eqAV ks cs ds).map fun y => x && y
  | _, _, _ => none

def putL (cs : List AV) (off : Nat) (xs : List AV) : List AV := cs.take off ++ (xs ++ cs.drop (off + xs.length))

def buildF : List AV → List (Nat × Nat) → List AV → Option (List AV)
  | cs, [], [] => some cs
  | cs, (off, size) :: ps, v :: vs =>
    if v.cells.length = size ∧ off + size ≤ cs.length ∧ v.cells.all AV.sc = true then buildF (putL cs off v.cells) ps vs else none
  | _, _, _ => none

def mmF (isMax : Bool) : AV → List AV → Option AV
  | .int k a, [] => some (.int k a)
  | .int k a, .int k' b :: r => if k = k' then mmF isMax (.int k (if isMax then max a b else min a b)) r else none
  | _, _ => none

def iaddrSV (s : Nat) : AV → AV → Option AV
  | .slice t esz i n, .int _ m => if esz = s ∧ 0 ≤ m ∧ m.toNat < n then some (.ptr t esz (i + m.toNat) 0) else none
  | .vs vals, .int _ m => if 0 ≤ m then (vals[m.toNat]?).bind fun v => if v.cells.length = s then some (.vp vals m.toNat 0) else none else none
  | _, _ => none

def iaddrAV (n s : Nat) : AV → AV → Option AV
  | .ptr t esz i j, .int _ m => if 0 ≤ m ∧ m.toNat < n then (if esz = s ∧ j = 0 then some (.ptr t esz (i + m.toNat) 0) else some (.ptr t esz i (j + m.toNat * s))) else none
  | .vp vals i j, .int _ m => if 0 ≤ m ∧ m.toNat < n then some (.vp vals i (j + m.toNat * s)) else none
  | _, _ => none

def segV (cs : List AV) (off size : Nat) (ag : Bool) : Option AV :=
  if ag then (if off + size ≤ cs.length then some (.agg ((cs.drop off).take size)) else none) else cs[off]?

/-- the bounds of a slice expression -/
def bnd : Bool → Bool → Bool → Nat → List AV → Option (Nat × Nat)
  | false, false, false, len, [] => some (0, len)
  | true, false, false, len, [.int _ l] => if 0 ≤ l ∧ l.toNat ≤ len then some (l.toNat, len) else none
  | false, true, false, len, [.int _ h] => if 0 ≤ h ∧ h.toNat ≤ len then some (0, h.toNat) else none
  | true, true, false, len, [.int _ l, .int _ h] => if 0 ≤ l ∧ l ≤ h ∧ h.toNat ≤ len then some (l.toNat, h.toNat) else none
  | false, true, true, len, [.int _ h, .int _ m] => if h = m ∧ 0 ≤ h ∧ h.toNat ≤ len then some (0, h.toNat) else none
  | _, _, _, _, _ => none
def slcV (s : Nat) (mx : Bool) (vals : List AV) : Option (Nat × Nat) → Option AV
  | some p => if p.1 = 0 ∨ (vals.all fun v => decide (v.cells.length = s)) = true then some (if mx then .vx ((vals.drop p.1).take (p.2 - p.1)) else .vs ((vals.drop p.1).take (p.2 - p.1))) else none
  | none => none
/-- a part of a slice that is still written -/
def slcW (s t esz i n : Nat) : Option (Nat × Nat) → Option AV
  | some p => if esz = s ∧ p.1 < n ∧ p.1 ≤ p.2 ∧ p.2 ≤ n then some (.slice t esz (i + p.1) (p.2 - p.1)) else none
  | none => none

def evP : POp → List AV → Option AV
  | .mov, [x] => some x
  | .pick, [c, a, b] => pickV c a b
  | .binI op, [.int k a, .int k' b] => if k = k' then binIV op k a b else none
  | .shf left, [.int k a, .int _ b] => if b < 0 then none else some (.int k (if left then k.wrap (a * 2 ^ (min b.toNat k.bits)) else a.fdiv (2 ^ (min b.toNat k.bits))))
  | .binS op, [.str a, .str b] => binSV op a b
  | .eqB neg, [.bool a, .bool b] => some (.bool (if neg then !decide (a = b) else decide (a = b)))
  | .eqN neg k, [a, b] => (eqNV k a b).map fun r => .bool (if neg then !r else r)
  | .eqa neg l, [.agg a, .agg b] => (eqAV l a b).map fun r => .bool (if neg then !r else r)
  | .neg, [.int k a] => some (.int k (k.wrap (0 - a)))
  | .notB, [.bool a] => some (.bool !a)
  | .conv k, [.int _ a] => some (.int k (k.wrap a))
  | .build zero ps, xs => (buildF zero ps xs).map .agg
  | .mkfn f n, xs => some (.fn f (xs.take n) (xs.drop n))
  | .faddr off, [.ptr t esz i j] => some (.ptr t esz i (j + off))
  | .faddr off, [.vp vals i j] => some (.vp vals i (j + off))
  | .field off size ag, [.agg cs] => segV cs off size ag
  | .iaddrS s, [x, i] => iaddrSV s x i
  | .iaddrA n s, [x, i] => iaddrAV n s x i
  | .idxA n s ag, [.agg cs, .int _ m] => if 0 ≤ m ∧ m.toNat < n then segV cs (m.toNat * s) s ag else none
  | .idxS, [.str b, .int _ m] => if 0 ≤ m then (b.data.toList[m.toNat]?).map fun c => .int .u8 c.toNat else none
  | .ext i, [.tup vs] => vs[i]?
  | .lenT, [.str b] => some (.int .i64 b.size)
  | .lenS, [.slice _ _ _ n] => some (.int .i64 n)
  | .lenS, [.vs vals] => some (.int .i64 vals.length)
  | .lenS, [.nilslice] => some (.int .i64 0)
  | .lenC n, _ => some (.int .i64 n)
  | .mm isMax, x :: xs => mmF isMax x xs
  | .nilck, [.ptr t esz i j] => some (.ptr t esz i j)
  | .nilck, [.vp vals i j] => some (.vp vals i j)
  | .nilck, [.fn f a b] => some (.fn f a b)
  | .nilck, [.yield l] => some (.yield l)
  | .mkif t, [x] => some (.iface t x)
  | .slc s lo hi mx, .vs vals :: rest => slcV s mx vals (bnd lo hi mx vals.length rest)
  | .slc s lo hi false, .slice t esz i n :: rest => slcW s t esz i n (bnd lo hi false n rest)
  | .slt lo hi, .str b :: rest => (bnd lo hi false b.size rest).map fun p => .str (b.extract p.1 p.2)
  | _, _ => none

/-! constants -/
def absS : Value → Option AV
  | .bool b => some (.bool b)
  | .int k n => some (.int k n)
  | .string s => some (.str s)
  | .pointer none => some .nilptr
  | .slice none 0 0 => some .nilslice
  | .map none => some .nilmap
  | .nilFunc => some .nilfn
  | .nilIface => some .nilif
  | .func (.func f) ⟨[]⟩ ⟨[]⟩ => some (.fn f [] [])
  | .func (.yield _) _ _ => none
  | _ => none

def absL : List Value → Option (List AV)
  | [] => some []
  | v :: vs => (absS v).bind fun a => (absL vs).map fun r => a :: r

def absC : Value → Option AV
  | .agg cs => (absL cs.toList).map .agg
  | .tuple ⟨[]⟩ => some (.tup [])
  | v => absS v

theorem absS_rel {v : Value} {a : AV} (h : absS v = some a) (G : Ghost) : VRel G a v ∧ a.sc = true := by
  unfold absS at h
  split at h <;> first | cases h | skip
  all_goals exact ⟨by simp [VRel, VRels], rfl⟩

theorem absL_rel : ∀ {vs : List Value} {as : List AV}, absL vs = some as → ∀ (G : Ghost), VRels G as vs ∧ as.all AV.sc = true ∧ ∀ c ∈ vs, c.oneCell' = true
  | [], as, h, G => by simp only [absL, Option.some.injEq] at h; subst h; simp [VRels]
  | v :: vs, as, h, G => by
    simp only [absL, Option.bind_eq_some_iff, Option.map_eq_some_iff] at h
    obtain ⟨a, h1, r, h2, rfl⟩ := h
    obtain ⟨h3, h4⟩ := absS_rel h1 G
    obtain ⟨h5, h6, h7⟩ := absL_rel h2 G
    refine ⟨by simp only [VRels]; exact ⟨v, vs, rfl, h3, h5⟩, by simp [h4, h6], fun c hc => ?_⟩
    rcases List.mem_cons.1 hc with rfl | hc
    · exact h3.oneCell h4
    · exact h7 c hc

theorem absC_rel {v : Value} {a : AV} (h : absC v = some a) (G : Ghost) : VRel G a v := by
  unfold absC at h
  split at h
  · simp only [Option.map_eq_some_iff] at h
    obtain ⟨as, h1, rfl⟩ := h
    obtain ⟨h2, _, h4⟩ := absL_rel h1 G
    simp only [VRel]
    exact ⟨_, h2, h4, by simp⟩
  · cases h; simp [VRel, VRels]
  · exact (absS_rel h G).1

/-! out of the model's operations -/
def fplaces (P : Program) : List Field → Option (List (Nat × Nat))
  | [] => some []
  | f :: fs => (P.info? f.type).bind fun i => (fplaces P fs).map fun r => (f.offset, i.size) :: r

def partsAt (pl : Nat → Option (Nat × Nat)) : List (Nat × Operand) → Option (List (Nat × Nat))
  | [] => some []
  | (i, _) :: ps => (pl i).bind fun p => (partsAt pl ps).map fun r => p :: r

def isC : Operand → Bool
  | .const _ => true
  | _ => false

def nilOp (op : BinOp) (k : NK) (x y : Operand) : Option (POp × List Operand) :=
  if isC y then (match op with | .eql => some (.eqN false k, [x, y]) | .neq => some (.eqN true k, [x, y]) | _ => none) else none

def compP (P : Program) : Op → Option (POp × List Operand)
  | .move x | .assign x => some (.mov, [x])
  | .pick c a b => some (.pick, [c, a, b])
  | .binOp op t x y _ =>
    match P.underlying t with
    | some (.int _) => (match op with | .shl => some (.shf true, [x, y]) | .shr => some (.shf false, [x, y]) | _ => some (.binI op, [x, y]))
    | some .string => some (.binS op, [x, y])
    | some .bool => (match op with | .eql => some (.eqB false, [x, y]) | .neq => some (.eqB true, [x, y]) | _ => none)
    | some (.struct _) | some (.array ..) =>
      if P.eqGuardType P.depth t then none else
      (match op with
       | .eql => (leaves P 8 t).map fun l => (.eqa false l, [x, y])
       | .neq => (leaves P 8 t).map fun l => (.eqa true l, [x, y])
       | _ => none)
    | some (.pointer _) => nilOp op .p x y
    | some (.slice _) => nilOp op .s x y
    | some (.map ..) => nilOp op .m x y
    | some (.func ..) => nilOp op .f x y
    | some (.interface _) => nilOp op .i x y
    | _ => none
  | .unOp op _ x => (match op with | .neg => some (.neg, [x]) | .not => some (.notB, [x]) | _ => none)
  | .convert src dst x =>
    match P.underlying src, P.underlying dst with
    | some _, some (.int k) => some (.conv k, [x])
    | _, _ => none
  | .build t parts =>
    match P.underlying t, (P.info? t).bind (·.zero) with
    | some (.struct fs), some z =>
      (fplaces P fs.toList).bind fun pl => (absL z.cells.toList).bind fun zs => (partsAt (pl[·]?) parts.toList).map fun ps => (.build zs ps, parts.toList.map (·.2))
    | some (.array _ e), some z =>
      (P.info? e).bind fun i => (absL z.cells.toList).bind fun zs => (partsAt (fun k => some (k * i.size, i.size)) parts.toList).map fun ps => (.build zs ps, parts.toList.map (·.2))
    | _, _ => none
  | .makeFunc (.func f) first captured => some (.mkfn f first.size, first.toList ++ captured.toList)
  | .fieldAddr s x k =>
    match P.underlying s with
    | some (.struct fs) => (fs[k]?).bind fun f => (P.info? f.type).bind fun i => if i.size = 0 then none else some (.faddr f.offset, [x])
    | _ => none
  | .field s x k =>
    match P.underlying s with
    | some (.struct fs) => (fs[k]?).bind fun f => (tyAgg P f.type).bind fun (ag, n) => if ag = false ∧ n ≠ 1 then none else some (.field f.offset n ag, [x])
    | _ => none
  | .indexAddr t x ix =>
    match P.underlying t with
    | some (.slice e) => (P.info? e).map fun i => (.iaddrS i.size, [x, ix])
    | some (.array n e) => (P.info? e).map fun i => (.iaddrA n i.size, [x, ix])
    | _ => none
  | .index t x ix =>
    match P.underlying t with
    | some (.array n e) => (tyAgg P e).bind fun (ag, s) => if ag = false ∧ s ≠ 1 then none else some (.idxA n s ag, [x, ix])
    | some .string => some (.idxS, [x, ix])
    | _ => none
  | .slice t x lo hi mx =>
    match P.underlying t with
    | some (.slice e) => (P.info? e).map fun i => (.slc i.size lo.isSome hi.isSome mx.isSome, x :: (lo.toList ++ (hi.toList ++ mx.toList)))
    | some .string => if mx.isSome then none else some (.slt lo.isSome hi.isSome, x :: (lo.toList ++ hi.toList))
    | _ => none
  | .extract x i => some (.ext i, [x])
  | .nilCheck x => some (.nilck, [x])
  | .makeInterface t x => if P.concrete t then some (.mkif t, [x]) else none
  | .call { callee := .builtin b, args, argTypes } =>
    match b, args.toList, (argTypes[0]?).bind P.underlying with
    | .len, [x], some (.slice _) => some (.lenS, [x])
    | .len, [x], some .string => some (.lenT, [x])
    | .len, [x], some (.array n _) => some (.lenC n, [x])
    | .min, xs, some (.int _) => some (.mm false, xs)
    | .max, xs, some (.int _) => some (.mm true, xs)
    | _, _, _ => none
  | _ => none

end Eng

namespace Eng
open Go
set_option linter.unusedSimpArgs false
set_option linter.unusedVariables false

/-- what a pure operation owes -/
def Yields1 (P : Program) (G : Ghost) (ρ : Operand → Value) (o : Oper) (v : AV) : Prop :=
  ∃ cv, VRel G v cv ∧ ∀ w, (execOp ρ o).run P w = .ok (.value cv) w

theorem vrels1 {G : Ghost} {x : AV} {l : List Value} (h : VRels G [x] l) : ∃ c, l = [c] ∧ VRel G x c := by
  simp only [VRels] at h
  obtain ⟨c, cs, rfl, h1, rfl⟩ := h
  exact ⟨c, rfl, h1⟩
theorem vrels2 {G : Ghost} {x y : AV} {l : List Value} (h : VRels G [x, y] l) : ∃ c d, l = [c, d] ∧ VRel G x c ∧ VRel G y d := by
  simp only [VRels] at h
  obtain ⟨c, cs, rfl, h1, d, ds, rfl, h2, rfl⟩ := h
  exact ⟨c, d, rfl, h1, h2⟩
theorem vrels3 {G : Ghost} {x y z : AV} {l : List Value} (h : VRels G [x, y, z] l) : ∃ c d e, l = [c, d, e] ∧ VRel G x c ∧ VRel G y d ∧ VRel G z e := by
  simp only [VRels] at h
  obtain ⟨c, cs, rfl, h1, d, ds, rfl, h2, e, es, rfl, h3, rfl⟩ := h
  exact ⟨c, d, e, rfl, h1, h2, h3⟩

/-- operands of one, two, three values -/
theorem map1 {ρ : Operand → Value} {xs : List Operand} {c : Value} (h : xs.map ρ = [c]) : ∃ x, xs = [x] ∧ ρ x = c := by
  cases xs with
  | nil => simp at h
  | cons x xs => cases xs with
    | nil => simp at h; exact ⟨x, rfl, h⟩
    | cons y ys => simp at h

theorem run_eqGuard_other {P : Program} (op : BinOp) (t : TypeId) (x y : Operand) (a b : Value) (hagg : ∀ xs ys, ¬ (a = .agg xs ∧ b = .agg ys)) (hn : ¬ (a = .nilIface ∧ b = .nilIface) ∨ isC y = true) (w : World) :
    (eqGuard op t x y a b).run P w = .ok () w := by
  have key : (match a, b with
      | .nilIface, .nilIface => isC y = true
      | .agg _, .agg _ => False
      | _, _ => True) → (eqGuard op t x y a b).run P w = .ok () w := by
    intro h
    cases op <;> first | rfl | skip
    all_goals
      cases a <;> cases b <;> first | rfl | (exact h.elim) | skip
      cases y <;> simp [isC] at h
      simp [eqGuard]
  apply key
  cases a <;> cases b <;> first | trivial | (exact hn.resolve_left (fun h => h ⟨rfl, rfl⟩)) | (exact hagg _ _ ⟨rfl, rfl⟩)

theorem eqL_of {G : Ghost} : ∀ {l : List LK} {as bs : List AV} {r : Bool} {cs ds : List Value}, eqAV l as bs = some r → VRels G as cs → VRels G bs ds → eqL l cs ds = some r
  | [], [], [], r, cs, ds, h, h1, h2 => by
    simp only [VRels] at h1 h2
    subst h1; subst h2
    simpa [eqAV, eqL] using h
  | k :: ks, a :: as, b :: bs, r, cs, ds, h, h1, h2 => by
    simp only [VRels] at h1 h2
    obtain ⟨c, cs, rfl, hc, hcs⟩ := h1
    obtain ⟨d, ds, rfl, hd, hds⟩ := h2
    simp only [eqAV, Option.bind_eq_some_iff, Option.map_eq_some_iff] at h
    obtain ⟨x, h3, y, h4, rfl⟩ := h
    have h5 := eqL_of h4 hcs hds
    have h6 : leafEq k c d = some x := by
      cases k <;> cases a <;> simp [leafAV] at h3 <;> cases b <;> simp [leafAV] at h3 <;> simp only [VRel] at hc hd <;> subst hc <;> subst hd <;> simpa [leafEq] using h3
    simp [eqL, h6, h5]
  | [], _ :: _, _, _, _, _, h, _, _ => by simp [eqAV] at h
  | [], [], _ :: _, _, _, _, h, _, _ => by simp [eqAV] at h
  | _ :: _, [], _, _, _, _, h, _, _ => by simp [eqAV] at h
  | _ :: _, _ :: _, [], _, _, _, h, _, _ => by simp [eqAV] at h

theorem seg_sound {P : Program} {G : Ghost} {t : TypeId} {ag : Bool} {n : Nat} (h : tyAgg P t = some (ag, n)) (hn : ag = false → n = 1) {cs : List AV} {ccs : List Value} (hr : VRels G cs ccs)
    (h1 : ∀ c ∈ ccs, c.oneCell' = true) {off : Nat} {v : AV} (hv : segV cs off n ag = some v) :
    ∃ cv, VRel G v cv ∧ ∀ w, (part t ccs.toArray off).run P w = .ok cv w := by
  have hl := hr.length
  unfold segV at hv
  cases ag with
  | true =>
    simp only [if_true] at hv
    split at hv
    · rename_i hle
      cases hv
      refine ⟨.agg ((ccs.drop off).take n).toArray, ?_, fun w => ?_⟩
      · simp only [VRel]
        exact ⟨_, (hr.drop off).take n, fun c hc => h1 c (List.mem_of_mem_drop (List.mem_of_mem_take hc)), rfl⟩
      · have := run_part' h hn ccs off (by omega) w
        simpa [partOf] using this
    · cases hv
  | false =>
    have := hn rfl
    subst this
    simp only [Bool.false_eq_true, if_false] at hv
    obtain ⟨c, h2, h3⟩ := hr.get off v hv
    obtain ⟨hlt, hc⟩ := List.getElem?_eq_some_iff.1 h2
    refine ⟨c, h3, fun w => ?_⟩
    have := run_part' h hn ccs off (by omega) w
    rw [List.drop_eq_getElem_cons hlt, hc] at this
    simpa [partOf] using this

/-- the cells of a built value -/
theorem foldl_put (v : List Value) : ∀ (j off : Nat) (cs : Array Value), off + j + v.length ≤ cs.size →
    ((v.zipIdx j).foldl (fun cs (p : Value × Nat) => cs.setIfInBounds (off + p.2) p.1) cs).toList = cs.toList.take (off + j) ++ (v ++ cs.toList.drop (off + j + v.length)) := by
  induction v with
  | nil => intro j off cs _; simp
  | cons c v ih =>
    intro j off cs h
    simp only [List.length_cons] at h
    simp only [List.zipIdx_cons, List.foldl_cons]
    rw [ih (j + 1) off _ (by simp; omega)]
    have hlt : off + j < cs.toList.length := by simp; omega
    have e1 : (cs.setIfInBounds (off + j) c).toList = cs.toList.set (off + j) c := by simp
    rw [e1, List.set_eq_take_append_cons_drop, if_pos hlt]
    generalize hA : cs.toList.take (off + j) = A
    have hAl : A.length = off + j := by rw [← hA]; simp; omega
    have e2 : (A ++ c :: cs.toList.drop (off + j + 1)).take (off + (j + 1)) = A ++ [c] := by
      rw [List.take_append, hAl, List.take_of_length_le (by omega)]
      have : off + (j + 1) - (off + j) = 1 := by omega
      rw [this]; rfl
    have e3 : (A ++ c :: cs.toList.drop (off + j + 1)).drop (off + (j + 1) + v.length) = cs.toList.drop (off + j + (v.length + 1)) := by
      rw [List.drop_append, hAl, List.drop_eq_nil_of_le (by omega), List.nil_append]
      have : off + (j + 1) + v.length - (off + j) = v.length + 1 := by omega
      rw [this, List.drop_succ_cons, List.drop_drop]
      congr 1
      omega
    rw [e2, e3]
    simp

theorem fill_sound {G : Ghost} {ρ : Operand → Value} {pl : Nat → Option (Nat × Nat)} : ∀ {parts : List (Nat × Operand)} {ps : List (Nat × Nat)} {vals cs cs' : List AV} {ccs : Array Value},
    partsAt pl parts = some ps → VRels G vals (parts.map fun p => ρ p.2) → buildF cs ps vals = some cs' → VRels G cs ccs.toList → (∀ c ∈ ccs.toList, c.oneCell' = true) →
    ∃ ccs', Instr.fill pl ccs (parts.map fun p => (p.1, ρ p.2)) = some ccs' ∧ VRels G cs' ccs'.toList ∧ ∀ c ∈ ccs'.toList, c.oneCell' = true
  | [], ps, vals, cs, cs', ccs, hp, hv, hb, hr, h1 => by
    simp only [partsAt, Option.some.injEq] at hp
    subst hp
    simp only [List.map_nil] at hv
    cases vals with
    | nil => simp only [buildF, Option.some.injEq] at hb; subst hb; exact ⟨ccs, rfl, hr, h1⟩
    | cons v vs => simp [VRels] at hv
  | (i, x) :: parts, ps, vals, cs, cs', ccs, hp, hv, hb, hr, h1 => by
    simp only [partsAt, Option.bind_eq_some_iff, Option.map_eq_some_iff] at hp
    obtain ⟨⟨off, size⟩, hpl, ps', hps', rfl⟩ := hp
    cases vals with
    | nil => simp [VRels] at hv
    | cons v vs =>
      simp only [List.map_cons, VRels] at hv
      obtain ⟨c, rest, he, hc, hrest⟩ := hv
      simp only [List.cons.injEq] at he
      obtain ⟨rfl, rfl⟩ := he
      simp only [buildF] at hb
      split at hb
      · rename_i hcond
        obtain ⟨hsz, hle, hsc⟩ := hcond
        have hag : v.sc = true ∨ ∃ cs, v = .agg cs := by
          cases v <;> first | exact .inr ⟨_, rfl⟩ | exact .inl rfl | (simp [AV.cells, AV.sc] at hsc)
        obtain ⟨hcr, hc1⟩ := hc.cells hag
        have hcl := hcr.length
        have hl := hr.length
        simp only [Array.length_toList] at hcl hl
        have hfold := foldl_put (ρ x).cells.toList 0 off ccs (by simp; omega)
        simp only [Nat.add_zero] at hfold
        have hnew : VRels G (putL cs off v.cells) (((ρ x).cells.toList.zipIdx 0).foldl (fun cs (p : Value × Nat) => cs.setIfInBounds (off + p.2) p.1) ccs).toList := by
          rw [hfold]
          simp only [putL, Array.length_toList, hcl]
          exact (hr.take off).append (hcr.append (hr.drop _))
        have h1' : ∀ c ∈ (((ρ x).cells.toList.zipIdx 0).foldl (fun cs (p : Value × Nat) => cs.setIfInBounds (off + p.2) p.1) ccs).toList, c.oneCell' = true := by
          rw [hfold]
          intro c hc
          rcases List.mem_append.1 hc with hc | hc
          · exact h1 c (List.mem_of_mem_take hc)
          · rcases List.mem_append.1 hc with hc | hc
            · exact hc1 c hc
            · exact h1 c (List.mem_of_mem_drop hc)
        obtain ⟨ccs', h2, h3, h4⟩ := fill_sound hps' hrest hb hnew h1'
        refine ⟨ccs', ?_, h3, h4⟩
        simp only [List.map_cons, Instr.fill, hpl]
        have hcond : ((ρ x).cells.size ≠ size || off + (ρ x).cells.size > ccs.size) = false := by
          simp; omega
        simp only [ne_eq] at hcond
        rw [if_neg (by simp; omega)]
        have hz : (ρ x).cells.zipIdx.foldl (fun cs x => match x with | (c, j) => cs.setIfInBounds (off + j) c) ccs = (((ρ x).cells.toList.zipIdx 0).foldl (fun cs (p : Value × Nat) => cs.setIfInBounds (off + p.2) p.1) ccs) := by
          rw [← Array.foldl_toList]
          simp
        rw [← hz] at h2
        exact h2
      · cases hb

theorem run_places {P : Program} : ∀ {fs : List Field} {pl : List (Nat × Nat)}, fplaces P fs = some pl → ∀ w, ((fs.mapM fun f => do pure (f.offset, ← Go.sizeOf f.type) : Sem (List (Nat × Nat)))).run P w = .ok pl w
  | [], pl, h, w => by simp only [fplaces, Option.some.injEq] at h; subst h; rfl
  | f :: fs, pl, h, w => by
    simp only [fplaces, Option.bind_eq_some_iff, Option.map_eq_some_iff] at h
    obtain ⟨i, hi, r, hr, rfl⟩ := h
    have := run_places hr w
    have hs : (Go.sizeOf f.type).run P w = .ok i.size w := by simp [Go.sizeOf, typeInfo, hi]
    simp only [List.mapM_cons, Sem.run_bind, hs, Result.andThen_ok, Sem.run_pure, this]

end Eng

namespace Eng
open Go
set_option linter.unusedSimpArgs false
set_option linter.unusedVariables false

theorem vint {G : Ghost} {k : IntKind} {n : Int} : VRel G (.int k n) (.int k n) := by simp only [VRel]
theorem vbool {G : Ghost} {b : Bool} : VRel G (.bool b) (.bool b) := by simp only [VRel]
theorem vstr {G : Ghost} {b : ByteArray} : VRel G (.str b) (.string b) := by simp only [VRel]

theorem int_beq (a b : Int) : (a == b) = decide (a = b) := by rw [Bool.eq_iff_iff]; simp
theorem int_bne (a b : Int) : (a != b) = !decide (a = b) := by simp [bne, int_beq]

theorem one {G : Ghost} {vals : List AV} {c : Value} (h : VRels G vals [c]) : ∃ a, vals = [a] ∧ VRel G a c := by
  cases vals with
  | nil => simp [VRels] at h
  | cons a vs => cases vs with
    | nil => obtain ⟨d, hd, h1⟩ := vrels1 h; cases hd; exact ⟨a, rfl, h1⟩
    | cons b vs => have := h.length; simp at this
theorem two {G : Ghost} {vals : List AV} {c d : Value} (h : VRels G vals [c, d]) : ∃ a b, vals = [a, b] ∧ VRel G a c ∧ VRel G b d := by
  have := h.length
  match vals, this, h with
  | [a, b], _, h => obtain ⟨c', d', hd, h1, h2⟩ := vrels2 h; cases hd; exact ⟨a, b, rfl, h1, h2⟩
theorem three {G : Ghost} {vals : List AV} {c d e : Value} (h : VRels G vals [c, d, e]) : ∃ a b x, vals = [a, b, x] ∧ VRel G a c ∧ VRel G b d ∧ VRel G x e := by
  have := h.length
  match vals, this, h with
  | [a, b, x], _, h => obtain ⟨c', d', e', hd, h1, h2, h3⟩ := vrels3 h; cases hd; exact ⟨a, b, x, rfl, h1, h2, h3⟩

section
variable {P : Program} {G : Ghost} {ρ : Operand → Value} {o : Oper} {v : AV} {vals : List AV}

theorem Yields1.of {cv : Value} (h : VRel G v cv) (hr : ∀ w, (execOp ρ o).run P w = .ok (.value cv) w) : Yields1 P G ρ o v := ⟨cv, h, hr⟩

theorem s_mov {x : Operand} (ho : o.op = .move x ∨ o.op = .assign x) (hv : VRels G vals [ρ x]) (he : evP .mov vals = some v) : Yields1 P G ρ o v := by
  obtain ⟨a, rfl, h1⟩ := one hv
  · simp only [evP, Option.some.injEq] at he
    subst he
    exact .of h1 fun w => by rcases ho with ho | ho <;> simp [execOp, ho]

theorem s_pick {c a b : Operand} (ho : o.op = .pick c a b) (hv : VRels G vals [ρ c, ρ a, ρ b]) (he : evP .pick vals = some v) : Yields1 P G ρ o v := by
  obtain ⟨x, y, z, rfl, h1, h2, h3⟩ := three hv
  · clear hv
    simp only [evP] at he
    cases x <;> simp [pickV] at he
    rename_i t
    simp only [VRel] at h1
    subst he
    cases t
    · exact ⟨ρ b, by simpa using h3, fun w => by simp [execOp, ho, h1, asBool]⟩
    · exact ⟨ρ a, by simpa using h2, fun w => by simp [execOp, ho, h1, asBool]⟩

theorem run_bin_int {op : BinOp} {k : IntKind} {a b : Int} {r : AV} (h : binIV op k a b = some r) (G : Ghost) (t : TypeId) :
    ∃ cv, VRel G r cv ∧ ∀ w, (binOp op t (.int k a) (.int k b)).run P w = .ok cv w := by
  cases op <;> simp only [binIV, Option.some.injEq] at h <;> try (cases h; done)
  case quo =>
    split at h
    · cases h
    · rename_i hb; cases h; exact ⟨_, vint, fun w => by simp [binOp, Op.intDiv, hb]⟩
  case rem =>
    split at h
    · cases h
    · rename_i hb; cases h; exact ⟨_, vint, fun w => by simp [binOp, Op.intDiv, hb]⟩
  all_goals subst h
  case add | sub | mul => exact ⟨_, vint, fun w => by simp [binOp, Op.intArith]⟩
  case and | or | xor => exact ⟨_, vint, fun w => by simp [binOp, Op.intBits]⟩
  all_goals
    refine ⟨_, vbool, fun w => ?_⟩
    simp only [binOp, Op.intCmp, ne_eq, not_true, if_false, int_beq, int_bne, Sem.run_pure]
    try rfl

theorem s_binI {op : BinOp} {t yt : TypeId} {x y : Operand} (ho : o.op = .binOp op t x y yt) (hv : VRels G vals [ρ x, ρ y]) (he : evP (.binI op) vals = some v) : Yields1 P G ρ o v := by
  obtain ⟨a, b, rfl, h1, h2⟩ := two hv
  · clear hv
    cases a <;> simp [evP] at he
    rename_i k n
    cases b <;> simp [evP] at he
    rename_i k' m
    obtain ⟨rfl, he⟩ := he
    simp only [VRel] at h1 h2
    obtain ⟨cv, h3, h4⟩ := run_bin_int (P := P) he G t
    refine ⟨cv, h3, fun w => ?_⟩
    have hg := run_eqGuard_other (P := P) op t x y (ρ x) (ρ y) (by simp [h1]) (.inl (by simp [h1])) w
    simp only [execOp, ho, Sem.run_bind, hg, Result.andThen_ok]
    rw [h1, h2, h4]
    rfl

theorem s_shf {left : Bool} {t yt : TypeId} {x y : Operand} (ho : o.op = .binOp (if left then .shl else .shr) t x y yt) (hv : VRels G vals [ρ x, ρ y]) (he : evP (.shf left) vals = some v) : Yields1 P G ρ o v := by
  obtain ⟨a, b, rfl, h1, h2⟩ := two hv
  · clear hv
    cases a <;> simp [evP] at he
    rename_i k n
    cases b <;> simp [evP] at he
    rename_i k' m
    obtain ⟨hm, he⟩ := he
    simp only [VRel] at h1 h2
    subst he
    have hm' : ¬ m < 0 := by omega
    refine ⟨_, vint, fun w => ?_⟩
    have hg := run_eqGuard_other (P := P) (if left then .shl else .shr) t x y (ρ x) (ρ y) (by simp [h1]) (.inl (by simp [h1])) w
    simp only [execOp, ho, Sem.run_bind, hg, Result.andThen_ok]
    rw [h1, h2]
    cases left <;> simp [binOp, Op.shift, hm']

theorem s_binS {op : BinOp} {t yt : TypeId} {x y : Operand} (ho : o.op = .binOp op t x y yt) (hv : VRels G vals [ρ x, ρ y]) (he : evP (.binS op) vals = some v) : Yields1 P G ρ o v := by
  obtain ⟨a, b, rfl, h1, h2⟩ := two hv
  · clear hv
    cases a <;> simp [evP] at he
    rename_i n
    cases b <;> simp [evP] at he
    rename_i m
    simp only [VRel] at h1 h2
    have hg := fun w => run_eqGuard_other (P := P) op t x y (ρ x) (ρ y) (by simp [h1]) (.inl (by simp [h1])) w
    have key : ∀ cv, VRel G v cv → (∀ w, (binOp op t (.string n) (.string m)).run P w = .ok cv w) → Yields1 P G ρ o v := fun cv hcv hr => by
      refine ⟨cv, hcv, fun w => ?_⟩
      simp only [execOp, ho, Sem.run_bind, hg, Result.andThen_ok]
      rw [h1, h2, hr]
      rfl
    cases op <;> simp only [binSV, Option.some.injEq] at he <;> try (cases he; done)
    case add =>
      split at he
      · rename_i hle
        cases he
        refine key _ vstr fun w => ?_
        have : ¬ ((n.size + m.size : Nat) : Int) > IntKind.i64.max := by
          have : IntKind.i64.max = 9223372036854775807 := by decide
          rw [this]; omega
        simp only [binOp, Op.stringOp, if_neg this]
        rfl
      · cases he
    all_goals
      subst he
      refine key _ vbool fun w => ?_
      simp only [binOp, Op.stringOp, bytes_eq]
      rfl

theorem s_eqB {neg : Bool} {t yt : TypeId} {x y : Operand} (ht : P.underlying t = some .bool) (ho : o.op = .binOp (if neg then .neq else .eql) t x y yt) (hv : VRels G vals [ρ x, ρ y]) (he : evP (.eqB neg) vals = some v) : Yields1 P G ρ o v := by
  obtain ⟨a, b, rfl, h1, h2⟩ := two hv
  · clear hv
    cases a <;> simp [evP] at he
    rename_i n
    cases b <;> simp [evP] at he
    rename_i m
    subst he
    simp only [VRel] at h1 h2
    have hg := fun w => run_eqGuard_other (P := P) (if neg then .neq else .eql) t x y (ρ x) (ρ y) (by simp [h1]) (.inl (by simp [h1])) w
    have hq : ∀ w, (Op.equal t (.bool n) (.bool m)).run P w = .ok (n == m) w := fun w => run_equalIn_bool' w 9999 t n m ht
    have e : (n == m) = decide (n = m) := by cases n <;> cases m <;> rfl
    refine ⟨_, vbool, fun w => ?_⟩
    simp only [execOp, ho, Sem.run_bind, hg, Result.andThen_ok]
    rw [h1, h2]
    cases neg <;> simp [binOp, hq, e]

end
end Eng
