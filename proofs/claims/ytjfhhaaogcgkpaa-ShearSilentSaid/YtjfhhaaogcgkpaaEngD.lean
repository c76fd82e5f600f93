/-
  THE ENGINE, PART D: the operations that only compute.
-/
import Derived.Test.YtjfhhaaogcgkpaaEngC
namespace Eng
open Go
set_option linter.unusedSimpArgs false
set_option linter.unusedVariables false

/-- a value that is there only if c holds (else the model's 'undef') -/
def optv (c : Bool) (v : AV) : AV := if c then v else .tup []
theorem optv_true (v : AV) : optv true v = v := rfl
theorem optv_false (v : AV) : optv false v = .tup [] := rfl

def pickV : AV → AV → AV → Option AV
  | .bool c, a, b => some (if c then a else b)
  | _, _, _ => none

inductive NK where
  | p | s | m | f | i

inductive POp where
  | mov | pick
  | binI (op : BinOp) | shf (left : Bool) | binS (op : BinOp) | eqB (neg : Bool) | eqN (neg : Bool) (k : NK) | eqa (neg : Bool) (l : List LK)
  | neg | notB | conv (k : IntKind)
  | build (zero : List AV) (ps : List (Nat × Nat))
  | mkfn (f n : Nat)
  | faddr (off : Nat) | field (off size : Nat) (ag : Bool)
  | iaddrS (s : Nat) | iaddrA (n s : Nat)
  | idxA (n s : Nat) (ag : Bool) | idxS
  | ext (i : Nat)
  | lenS | lenT | lenC (n : Nat)
  | mm (isMax : Bool)
  | nilck
  | mkif (t : Nat)

def binIV (op : BinOp) (k : IntKind) (a b : Int) : Option AV :=
  match op with
  | .add => some (.int k (k.wrap (a + b)))
  | .sub => some (.int k (k.wrap (a - b)))
  | .mul => some (.int k (k.wrap (a * b)))
  | .quo => if b = 0 then none else some (.int k (k.wrap (a.tdiv b)))
  | .rem => if b = 0 then none else some (.int k (a.tmod b))
  | .eql => some (.bool (decide (a = b)))
  | .neq => some (.bool (!decide (a = b)))
  | .lss => some (.bool (decide (a < b)))
  | .leq => some (.bool (decide (a ≤ b)))
  | .gtr => some (.bool (decide (b < a)))
  | .geq => some (.bool (decide (b ≤ a)))
  | _ => none

def binSV (op : BinOp) (a b : ByteArray) : Option AV :=
  match op with
  | .add => if a.size + b.size ≤ 9223372036854775807 then some (.str (a ++ b)) else none
  | .eql => some (.bool (decide (a = b)))
  | .neq => some (.bool (!decide (a = b)))
  | .lss => some (.bool (Op.bytesLess a.toList b.toList))
  | _ => none

def eqNV : NK → AV → AV → Option Bool
  | .p, .nilptr, .nilptr => some true
  | .p, .ptr .., .nilptr => some false
  | .p, .vp .., .nilptr => some false
  | .s, .nilslice, .nilslice => some true
  | .s, .slice .., .nilslice => some false
  | .m, .nilmap, .nilmap => some true
  | .m, .mapv _, .nilmap => some false
  | .f, .nilfn, .nilfn => some true
  | .f, .fn .., .nilfn => some false
  | .i, .nilif, .nilif => some true
  | .i, .iface .., .nilif => some false
  | _, _, _ => none

def leafAV : LK → AV → AV → Option Bool
  | .i, .int k a, .int k' c => if k = k' then some (decide (a = c)) else none
  | .b, .bool a, .bool c => some (decide (a = c))
  | .s, .str a, .str c => some (decide (a = c))
  | _, _, _ => none

def eqAV : List LK → List AV → List AV → Option Bool
  | [], [], [] => some true
  | k :: ks, c :: cs, d :: ds => (leafAV k c d).bind fun x => (eqAV ks cs ds).map fun y => x && y
  | _, _, _ => none

def putL (cs : List AV) (off : Nat) (xs : List AV) : List AV := cs.take off ++ (xs ++ cs.drop (off + xs.length))

def buildF : List AV → List (Nat × Nat) → List AV → Option (List AV)
  | cs, [], [] => some cs
  | cs, (off, size) :: ps, v :: vs =>
    if v.cells.length = size ∧ off + size ≤ cs.length ∧ v.cells.all AV.sc = true then buildF (putL cs off v.cells) ps vs else none
  | _, _, _ => none

def mmF (isMax : Bool) : AV → List AV → Option AV
  | .int k a, [] => some (.int k a)
  | .int k a, .int k' b :: r => if k = k' then mmF isMax (.int k (if isMax then max a b else min a b)) r else none
  | _, _ => none

def iaddrSV (s : Nat) : AV → AV → Option AV
  | .slice t esz i n, .int _ m => if esz = s ∧ 0 ≤ m ∧ m.toNat < n then some (.ptr t esz (i + m.toNat) 0) else none
  | .vs vals, .int _ m => if 0 ≤ m then (vals[m.toNat]?).bind fun v => if v.cells.length = s then some (.vp vals m.toNat 0) else none else none
  | _, _ => none

def iaddrAV (n s : Nat) : AV → AV → Option AV
  | .ptr t esz i j, .int _ m => if 0 ≤ m ∧ m.toNat < n then (if esz = s ∧ j = 0 then some (.ptr t esz (i + m.toNat) 0) else some (.ptr t esz i (j + m.toNat * s))) else none
  | .vp vals i j, .int _ m => if 0 ≤ m ∧ m.toNat < n then some (.vp vals i (j + m.toNat * s)) else none
  | _, _ => none

def segV (cs : List AV) (off size : Nat) (ag : Bool) : Option AV :=
  if ag then (if off + size ≤ cs.length then some (.agg ((cs.drop off).take size)) else none) else cs[off]?

def evP : POp → List AV → Option AV
  | .mov, [x] => some x
  | .pick, [c, a, b] => pickV c a b
  | .binI op, [.int k a, .int k' b] => if k = k' then binIV op k a b else none
  | .shf left, [.int k a, .int _ b] => if b < 0 then none else some (.int k (if left then k.wrap (a * 2 ^ (min b.toNat k.bits)) else a.fdiv (2 ^ (min b.toNat k.bits))))
  | .binS op, [.str a, .str b] => binSV op a b
  | .eqB neg, [.bool a, .bool b] => some (.bool (if neg then !decide (a = b) else decide (a = b)))
  | .eqN neg k, [a, b] => (eqNV k a b).map fun r => .bool (if neg then !r else r)
  | .eqa neg l, [.agg a, .agg b] => (eqAV l a b).map fun r => .bool (if neg then !r else r)
  | .neg, [.int k a] => some (.int k (k.wrap (0 - a)))
  | .notB, [.bool a] => some (.bool !a)
  | .conv k, [.int _ a] => some (.int k (k.wrap a))
  | .build zero ps, xs => (buildF zero ps xs).map .agg
  | .mkfn f n, xs => some (.fn f (xs.take n) (xs.drop n))
  | .faddr off, [.ptr t esz i j] => some (.ptr t esz i (j + off))
  | .faddr off, [.vp vals i j] => some (.vp vals i (j + off))
  | .field off size ag, [.agg cs] => segV cs off size ag
  | .iaddrS s, [x, i] => iaddrSV s x i
  | .iaddrA n s, [x, i] => iaddrAV n s x i
  | .idxA n s ag, [.agg cs, .int _ m] => if 0 ≤ m ∧ m.toNat < n then segV cs (m.toNat * s) s ag else none
  | .idxS, [.str b, .int _ m] => if 0 ≤ m then (b.data.toList[m.toNat]?).map fun c => .int .u8 c.toNat else none
  | .ext i, [.tup vs] => vs[i]?
  | .lenT, [.str b] => some (.int .i64 b.size)
  | .lenS, [.slice _ _ _ n] => some (.int .i64 n)
  | .lenS, [.vs vals] => some (.int .i64 vals.length)
  | .lenS, [.nilslice] => some (.int .i64 0)
  | .lenC n, _ => some (.int .i64 n)
  | .mm isMax, x :: xs => mmF isMax x xs
  | .nilck, [.ptr t esz i j] => some (.ptr t esz i j)
  | .nilck, [.vp vals i j] => some (.vp vals i j)
  | .nilck, [.fn f a b] => some (.fn f a b)
  | .nilck, [.yield l] => some (.yield l)
  | .mkif t, [x] => some (.iface t x)
  | _, _ => none

/-! constants -/
def absS : Value → Option AV
  | .bool b => some (.bool b)
  | .int k n => some (.int k n)
  | .string s => some (.str s)
  | .pointer none => some .nilptr
  | .slice none 0 0 => some .nilslice
  | .map none => some .nilmap
  | .nilFunc => some .nilfn
  | .nilIface => some .nilif
  | .func (.func f) ⟨[]⟩ ⟨[]⟩ => some (.fn f [] [])
  | .func (.yield _) _ _ => none
  | _ => none

def absL : List Value → Option (List AV)
  | [] => some []
  | v :: vs => (absS v).bind fun a => (absL vs).map fun r => a :: r

def absC : Value → Option AV
  | .agg cs => (absL cs.toList).map .agg
  | .tuple ⟨[]⟩ => some (.tup [])
  | v => absS v

theorem absS_rel {v : Value} {a : AV} (h : absS v = some a) (G : Ghost) : VRel G a v ∧ a.sc = true := by
  unfold absS at h
  split at h <;> first | cases h | skip
  all_goals exact ⟨by simp [VRel, VRels], rfl⟩

theorem absL_rel : ∀ {vs : List Value} {as : List AV}, absL vs = some as → ∀ (G : Ghost), VRels G as vs ∧ as.all AV.sc = true ∧ ∀ c ∈ vs, c.oneCell' = true
  | [], as, h, G => by simp only [absL, Option.some.injEq] at h; subst h; simp [VRels]
  | v :: vs, as, h, G => by
    simp only [absL, Option.bind_eq_some_iff, Option.map_eq_some_iff] at h
    obtain ⟨a, h1, r, h2, rfl⟩ := h
    obtain ⟨h3, h4⟩ := absS_rel h1 G
    obtain ⟨h5, h6, h7⟩ := absL_rel h2 G
    refine ⟨by simp only [VRels]; exact ⟨v, vs, rfl, h3, h5⟩, by simp [h4, h6], fun c hc => ?_⟩
    rcases List.mem_cons.1 hc with rfl | hc
    · exact h3.oneCell h4
    · exact h7 c hc

theorem absC_rel {v : Value} {a : AV} (h : absC v = some a) (G : Ghost) : VRel G a v := by
  unfold absC at h
  split at h
  · simp only [Option.map_eq_some_iff] at h
    obtain ⟨as, h1, rfl⟩ := h
    obtain ⟨h2, _, h4⟩ := absL_rel h1 G
    simp only [VRel]
    exact ⟨_, h2, h4, by simp⟩
  · cases h; simp [VRel, VRels]
  · exact (absS_rel h G).1

/-! out of the model's operations -/
def fplaces (P : Program) : List Field → Option (List (Nat × Nat))
  | [] => some []
  | f :: fs => (P.info? f.type).bind fun i => (fplaces P fs).map fun r => (f.offset, i.size) :: r

def partsAt (pl : Nat → Option (Nat × Nat)) : List (Nat × Operand) → Option (List (Nat × Nat))
  | [] => some []
  | (i, _) :: ps => (pl i).bind fun p => (partsAt pl ps).map fun r => p :: r

def isC : Operand → Bool
  | .const _ => true
  | _ => false

def nilOp (op : BinOp) (k : NK) (x y : Operand) : Option (POp × List Operand) :=
  if isC y then (match op with | .eql => some (.eqN false k, [x, y]) | .neq => some (.eqN true k, [x, y]) | _ => none) else none

def compP (P : Program) : Op → Option (POp × List Operand)
  | .move x | .assign x => some (.mov, [x])
  | .pick c a b => some (.pick, [c, a, b])
  | .binOp op t x y _ =>
    match P.underlying t with
    | some (.int _) => (match op with | .shl => some (.shf true, [x, y]) | .shr => some (.shf false, [x, y]) | _ => some (.binI op, [x, y]))
    | some .string => some (.binS op, [x, y])
    | some .bool => (match op with | .eql => some (.eqB false, [x, y]) | .neq => some (.eqB true, [x, y]) | _ => none)
    | some (.struct _) | some (.array ..) =>
      if P.eqGuardType P.depth t then none else
      (match op with
       | .eql => (leaves P 8 t).map fun l => (.eqa false l, [x, y])
       | .neq => (leaves P 8 t).map fun l => (.eqa true l, [x, y])
       | _ => none)
    | some (.pointer _) => nilOp op .p x y
    | some (.slice _) => nilOp op .s x y
    | some (.map ..) => nilOp op .m x y
    | some (.func ..) => nilOp op .f x y
    | some (.interface _) => nilOp op .i x y
    | _ => none
  | .unOp op _ x => (match op with | .neg => some (.neg, [x]) | .not => some (.notB, [x]) | _ => none)
  | .convert src dst x =>
    match P.underlying src, P.underlying dst with
    | some _, some (.int k) => some (.conv k, [x])
    | _, _ => none
  | .build t parts =>
    match P.underlying t, (P.info? t).bind (·.zero) with
    | some (.struct fs), some z =>
      (fplaces P fs.toList).bind fun pl => (absL z.cells.toList).bind fun zs => (partsAt (pl[·]?) parts.toList).map fun ps => (.build zs ps, parts.toList.map (·.2))
    | some (.array _ e), some z =>
      (P.info? e).bind fun i => (absL z.cells.toList).bind fun zs => (partsAt (fun k => some (k * i.size, i.size)) parts.toList).map fun ps => (.build zs ps, parts.toList.map (·.2))
    | _, _ => none
  | .makeFunc (.func f) first captured => some (.mkfn f first.size, first.toList ++ captured.toList)
  | .fieldAddr s x k =>
    match P.underlying s with
    | some (.struct fs) => (fs[k]?).bind fun f => (P.info? f.type).bind fun i => if i.size = 0 then none else some (.faddr f.offset, [x])
    | _ => none
  | .field s x k =>
    match P.underlying s with
    | some (.struct fs) => (fs[k]?).bind fun f => (tyAgg P f.type).bind fun (ag, n) => if ag = false ∧ n ≠ 1 then none else some (.field f.offset n ag, [x])
    | _ => none
  | .indexAddr t x ix =>
    match P.underlying t with
    | some (.slice e) => (P.info? e).map fun i => (.iaddrS i.size, [x, ix])
    | some (.array n e) => (P.info? e).map fun i => (.iaddrA n i.size, [x, ix])
    | _ => none
  | .index t x ix =>
    match P.underlying t with
    | some (.array n e) => (tyAgg P e).bind fun (ag, s) => if ag = false ∧ s ≠ 1 then none else some (.idxA n s ag, [x, ix])
    | some .string => some (.idxS, [x, ix])
    | _ => none
  | .extract x i => some (.ext i, [x])
  | .nilCheck x => some (.nilck, [x])
  | .makeInterface t x => if P.concrete t then some (.mkif t, [x]) else none
  | .call { callee := .builtin b, args, argTypes } =>
    match b, args.toList, (argTypes[0]?).bind P.underlying with
    | .len, [x], some (.slice _) => some (.lenS, [x])
    | .len, [x], some .string => some (.lenT, [x])
    | .len, [x], some (.array n _) => some (.lenC n, [x])
    | .min, xs, some (.int _) => some (.mm false, xs)
    | .max, xs, some (.int _) => some (.mm true, xs)
    | _, _, _ => none
  | _ => none

end Eng
