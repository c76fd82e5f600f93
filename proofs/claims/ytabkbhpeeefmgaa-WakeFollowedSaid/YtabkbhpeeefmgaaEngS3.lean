/-
THE ENGINE, PART S1: rules by which the simplifier runs compiled code. Each by 'rfl', or nearly so.
THE ENGINE, PART S2: rules for the simplifier: steps.
THE ENGINE, PART S3: contexts; lists of encoded things; weakening, for the simplifier.
-/
import Derived.Test.YtabkbhpeeefmgaaEngZ
namespace Eng
open Go Go.RowKit
set_option linter.unusedSimpArgs false
set_option linter.unusedVariables false

/-! ### what only computes -/
section
variable (x y z : AV) (k : IntKind) (a b : Int) (p q : Bool) (l l' : List AV)
theorem e_mov : evP .mov [x] = some x := rfl
theorem e_pick : evP .pick [x, y, z] = pickV x y z := rfl
theorem e_add : evP (.binI .add) [.int k a, .int k b] = some (.int k (k.wrap (a + b))) := by simp [evP, binIV]
theorem e_sub : evP (.binI .sub) [.int k a, .int k b] = some (.int k (k.wrap (a - b))) := by simp [evP, binIV]
theorem e_mul : evP (.binI .mul) [.int k a, .int k b] = some (.int k (k.wrap (a * b))) := by simp [evP, binIV]
theorem e_quo : evP (.binI .quo) [.int k a, .int k b] = if b = 0 then none else some (.int k (k.wrap (a.tdiv b))) := by simp [evP, binIV]
theorem e_rem : evP (.binI .rem) [.int k a, .int k b] = if b = 0 then none else some (.int k (a.tmod b)) := by simp [evP, binIV]
theorem e_and : evP (.binI .and) [.int k a, .int k b] = some (.int k (k.wrap (BitVec.ofInt k.bits a &&& BitVec.ofInt k.bits b).toNat)) := by simp [evP, binIV]
theorem e_or : evP (.binI .or) [.int k a, .int k b] = some (.int k (k.wrap (BitVec.ofInt k.bits a ||| BitVec.ofInt k.bits b).toNat)) := by simp [evP, binIV]
theorem e_eql : evP (.binI .eql) [.int k a, .int k b] = some (.bool (decide (a = b))) := by simp [evP, binIV]
theorem e_neq : evP (.binI .neq) [.int k a, .int k b] = some (.bool (!decide (a = b))) := by simp [evP, binIV]
theorem e_lss : evP (.binI .lss) [.int k a, .int k b] = some (.bool (decide (a < b))) := by simp [evP, binIV]
theorem e_leq : evP (.binI .leq) [.int k a, .int k b] = some (.bool (decide (a ≤ b))) := by simp [evP, binIV]
theorem e_gtr : evP (.binI .gtr) [.int k a, .int k b] = some (.bool (decide (b < a))) := by simp [evP, binIV]
theorem e_geq : evP (.binI .geq) [.int k a, .int k b] = some (.bool (decide (b ≤ a))) := by simp [evP, binIV]
theorem e_eqB : evP (.eqB false) [.bool p, .bool q] = some (.bool (decide (p = q))) := rfl
theorem e_neB : evP (.eqB true) [.bool p, .bool q] = some (.bool (!decide (p = q))) := rfl
theorem e_eqN (n : NK) : evP (.eqN false n) [x, y] = (eqNV n x y).map fun r => .bool r := rfl
theorem e_neN (n : NK) : evP (.eqN true n) [x, y] = (eqNV n x y).map fun r => .bool !r := rfl
theorem e_eqa (n : List LK) : evP (.eqa false n) [.agg l, .agg l'] = (eqAV n l l').map fun r => .bool r := rfl
theorem e_nea (n : List LK) : evP (.eqa true n) [.agg l, .agg l'] = (eqAV n l l').map fun r => .bool !r := rfl
theorem e_neg : evP .neg [.int k a] = some (.int k (k.wrap (0 - a))) := rfl
theorem e_not : evP .notB [.bool p] = some (.bool !p) := rfl
theorem e_conv (k' : IntKind) : evP (.conv k') [.int k a] = some (.int k' (k'.wrap a)) := rfl
theorem e_build (ps : List (Nat × Nat)) : evP (.build l ps) l' = (buildF l ps l').map .agg := rfl
theorem e_mkfn (f n : Nat) : evP (.mkfn f n) l = some (.fn f (l.take n) (l.drop n)) := rfl
theorem e_faddr (off t esz i j : Nat) : evP (.faddr off) [.ptr t esz i j] = some (.ptr t esz i (j + off)) := rfl
theorem e_faddrV (off i j : Nat) : evP (.faddr off) [.vp l i j] = some (.vp l i (j + off)) := rfl
theorem e_field (off size : Nat) (ag : Bool) : evP (.field off size ag) [.agg l] = segV l off size ag := rfl
theorem e_iaddrS (s : Nat) : evP (.iaddrS s) [x, y] = iaddrSV s x y := rfl
theorem e_iaddrA (n s : Nat) : evP (.iaddrA n s) [x, y] = iaddrAV n s x y := rfl
theorem e_idxA (n s : Nat) (ag : Bool) : evP (.idxA n s ag) [.agg l, .int k a] = if 0 ≤ a ∧ a.toNat < n then segV l (a.toNat * s) s ag else none := rfl
theorem e_ext (i : Nat) : evP (.ext i) [.tup l] = l[i]? := rfl
theorem e_lenT (s : ByteArray) : evP .lenT [.str s] = some (.int .i64 s.size) := rfl
theorem e_lenS (t esz i n : Nat) : evP .lenS [.slice t esz i n] = some (.int .i64 n) := rfl
theorem e_lenV : evP .lenS [.vs l] = some (.int .i64 l.length) := rfl
theorem e_lenN : evP .lenS [.nilslice] = some (.int .i64 0) := rfl
theorem e_lenC (n : Nat) : evP (.lenC n) l = some (.int .i64 n) := rfl
theorem e_min : evP (.mm false) [.int k a, .int k b] = some (.int k (min a b)) := by simp [evP, mmF]
theorem e_max : evP (.mm true) [.int k a, .int k b] = some (.int k (max a b)) := by simp [evP, mmF]
theorem e_nilP (t esz i j : Nat) : evP .nilck [.ptr t esz i j] = some (.ptr t esz i j) := rfl
theorem e_nilV (i j : Nat) : evP .nilck [.vp l i j] = some (.vp l i j) := rfl
theorem e_nilF (f : Nat) : evP .nilck [.fn f l l'] = some (.fn f l l') := rfl
theorem e_nilY (f : Nat) : evP .nilck [.yield f] = some (.yield f) := rfl

theorem ia_slice (s t n i : Nat) : iaddrSV s (.slice t s i n) (.int k a) = if 0 ≤ a ∧ a.toNat < n then some (.ptr t s (i + a.toNat) 0) else none := by simp [iaddrSV]
theorem ia_vs (s : Nat) : iaddrSV s (.vs l) (.int k a) = if 0 ≤ a then obind (l[a.toNat]?) (fun v => if v.cells.length = s then some (.vp l a.toNat 0) else none) else none := rfl
theorem ia_arr (n s t esz i j : Nat) : iaddrAV n s (.ptr t esz i j) (.int k a) = if 0 ≤ a ∧ a.toNat < n then (if esz = s ∧ j = 0 then some (.ptr t esz (i + a.toNat) 0) else some (.ptr t esz i (j + a.toNat * s))) else none := rfl
theorem ia_arrV (n s i j : Nat) : iaddrAV n s (.vp l i j) (.int k a) = if 0 ≤ a ∧ a.toNat < n then some (.vp l i (j + a.toNat * s)) else none := rfl
theorem sg_t (off size : Nat) : segV l off size true = if off + size ≤ l.length then some (.agg ((l.drop off).take size)) else none := rfl
theorem sg_f (off size : Nat) : segV l off size false = l[off]? := rfl
theorem eq_nil : eqAV [] [] [] = some true := rfl
theorem eq_i (n : List LK) : eqAV (.i :: n) (.int k a :: l) (.int k b :: l') = (eqAV n l l').map fun y => decide (a = b) && y := by simp [eqAV, leafAV]
theorem eq_b (n : List LK) : eqAV (.b :: n) (.bool p :: l) (.bool q :: l') = (eqAV n l l').map fun y => decide (p = q) && y := by simp [eqAV, leafAV]
theorem eq_s (n : List LK) (s t : ByteArray) : eqAV (.s :: n) (.str s :: l) (.str t :: l') = (eqAV n l l').map fun y => decide (s = t) && y := by simp [eqAV, leafAV]
theorem bf_nil : buildF l [] [] = some l := rfl
theorem bf_cons (off size : Nat) (ps : List (Nat × Nat)) : buildF l ((off, size) :: ps) (x :: l') = if x.cells.length = size ∧ off + size ≤ l.length ∧ x.cells.all AV.sc = true then buildF (putL l off x.cells) ps l' else none := rfl
theorem cells_int : (AV.int k a).cells = [.int k a] := rfl
theorem cells_bool : (AV.bool p).cells = [.bool p] := rfl
theorem cells_str (s : ByteArray) : (AV.str s).cells = [.str s] := rfl
theorem cells_agg : (AV.agg l).cells = l := rfl
theorem cells_slice (t esz i n : Nat) : (AV.slice t esz i n).cells = [.slice t esz i n] := rfl
theorem cells_vs : (AV.vs l).cells = [.vs l] := rfl
theorem cells_nil : AV.nilslice.cells = [.nilslice] := rfl
theorem cells_ptr (t esz i j : Nat) : (AV.ptr t esz i j).cells = [.ptr t esz i j] := rfl
theorem cells_fn (f : Nat) : (AV.fn f l l').cells = [.fn f l l'] := rfl
theorem sc_int : (AV.int k a).sc = true := rfl
theorem sc_bool : (AV.bool p).sc = true := rfl
theorem sc_str (s : ByteArray) : (AV.str s).sc = true := rfl
theorem sc_agg : (AV.agg l).sc = false := rfl
theorem sc_slice (t esz i n : Nat) : (AV.slice t esz i n).sc = true := rfl
theorem sc_vs : (AV.vs l).sc = true := rfl
theorem sc_nil : AV.nilslice.sc = true := rfl
theorem sc_ptr (t esz i j : Nat) : (AV.ptr t esz i j).sc = true := rfl
theorem sc_fn (f : Nat) : (AV.fn f l l').sc = true := rfl
theorem ag_agg : (AV.agg l).isAgg = true := rfl
theorem ag_int : (AV.int k a).isAgg = false := rfl
theorem ag_bool : (AV.bool p).isAgg = false := rfl

/-! ### slots -/
theorem gt_0 : getT (x :: l) 0 = x := rfl
theorem gt_s (n : Nat) : getT (x :: l) (n + 1) = getT l n := rfl
theorem st_0 : setT (x :: l) 0 y = y :: l := rfl
theorem st_s (n : Nat) : setT (x :: l) (n + 1) y = x :: setT l n y := rfl
theorem ev_t (n : Nat) : evO l (.t n) = getT l n := rfl
theorem ev_c : evO l (.c x) = x := rfl
theorem evs_nil : evs l [] = [] := rfl
theorem evs_cons (o : Opd) (os : List Opd) : evs l (o :: os) = evO l o :: evs l os := rfl
end

/-! ### memory -/
section
variable (hp : List HEnt) (e ty esz g t i j n : Nat) (vals l : List AV) (x v : AV) (blk : ABlk)
theorem ge_eq : getE (⟨t, g, blk⟩ :: hp) t = some ⟨t, g, blk⟩ := by simp [getE]
theorem ge_ne (u : Nat) (h : (t = u) = False) : getE (⟨t, g, blk⟩ :: hp) u = getE hp u := by simp [getE, h]
theorem ge_nil (u : Nat) : getE [] u = none := rfl
theorem sb_nil : setB [] t g blk = [] := rfl
theorem sb_eq (blk' : ABlk) : setB (⟨t, g, blk⟩ :: hp) t g blk' = ⟨t, g, blk'⟩ :: setB hp t g blk' := by simp [setB]
theorem sb_ne (g' : Nat) (blk' : ABlk) (u : Nat) (h : (g = g') = False) : setB (⟨u, g, blk⟩ :: hp) t g' blk' = ⟨u, g, blk⟩ :: setB hp t g' blk' := by simp [setB, h]
theorem sb_gone (blk' : ABlk) (u : Nat) (h : (u = t) = False) : setB (⟨u, g, blk⟩ :: hp) t g blk' = setB hp t g blk' := by simp [setB, h]
theorem dg_nil : dropG [] t g = [] := rfl
theorem dg_eq : dropG (⟨t, g, blk⟩ :: hp) t g = ⟨t, g, blk⟩ :: dropG hp t g := by simp [dropG]
theorem dg_ne (g' : Nat) (u : Nat) (h : (g = g') = False) : dropG (⟨u, g, blk⟩ :: hp) t g' = ⟨u, g, blk⟩ :: dropG hp t g' := by simp [dropG, h]
theorem dg_gone (u : Nat) (h : (u = t) = False) : dropG (⟨u, g, blk⟩ :: hp) t g = dropG hp t g := by simp [dropG, h]

/-- a load out of a found block -/
def ldE (size : Nat) (ag : Bool) (esz i j : Nat) : Option HEnt → Option AV
  | some ⟨_, _, .rows _ esz' vals⟩ => if esz = esz' then rd esz vals i j size ag else none
  | _ => none
theorem ld_ptr (lk : Look) (size : Nat) (ag : Bool) : loadV lk size ag (.ptr t esz i j) = ldE size ag esz i j (lk t) := rfl
theorem ld_vp (lk : Look) (size : Nat) (ag : Bool) : loadV lk size ag (.vp vals i j) = rdV vals i j size ag := rfl
theorem ldE_some (size : Nat) (ag : Bool) : ldE size ag esz i j (some ⟨t, g, .rows ty esz vals⟩) = rd esz vals i j size ag := by simp [ldE]
/-- a cell of a row, or of what there is -/
def rdC (j : Nat) : Option AV → Option AV
  | some v => v.cells[j]?
  | none => none
theorem rd_f (size : Nat) : rd esz vals i j size false = rdC j (vals[i]?) := by unfold rd rdC; cases vals[i]? <;> simp
theorem rdC_some : rdC j (some v) = v.cells[j]? := rfl
def rdA (esz j size : Nat) : Option AV → Option AV
  | some v => if j = 0 ∧ size = esz then (if v.isAgg then some v else none) else some (.agg ((v.cells.drop j).take size))
  | none => none
theorem rd_t (size : Nat) (h : (j + size ≤ esz) = True) : rd esz vals i j size true = rdA esz j size (vals[i]?) := by
  unfold rd rdA
  simp only [if_true, h]
  cases vals[i]? <;> simp
theorem rdA_all (cs : List AV) (size : Nat) : rdA size 0 size (some (.agg cs)) = some (.agg cs) := by simp [rdA, AV.isAgg]
theorem rdA_part (size : Nat) (h : (j = 0 ∧ size = esz) = False) : rdA esz j size (some v) = some (.agg ((v.cells.drop j).take size)) := by simp only [rdA, h, if_false]
def rdW (j size : Nat) (ag : Bool) : Option AV → Option AV
  | some v => if ag then
      if j = 0 ∧ size = v.cells.length then (if v.isAgg then some v else none)
      else if j + size ≤ v.cells.length then some (.agg ((v.cells.drop j).take size)) else none
    else v.cells[j]?
  | none => none
theorem rdV_eq (size : Nat) (ag : Bool) : rdV vals i j size ag = rdW j size ag (vals[i]?) := by unfold rdV rdW; cases vals[i]? <;> rfl
theorem rdW_f (size : Nat) : rdW j size false (some v) = v.cells[j]? := rfl
theorem rdW_all (cs : List AV) (size : Nat) (h : (size = cs.length) = True) : rdW 0 size true (some (.agg cs)) = some (.agg cs) := by simp [rdW, h, AV.isAgg, AV.cells]
theorem rdW_part (size : Nat) (h : (j = 0 ∧ size = v.cells.length) = False) (h' : (j + size ≤ v.cells.length) = True) : rdW j size true (some v) = some (.agg ((v.cells.drop j).take size)) := by simp only [rdW, h, h', if_false, if_true]

/-- a store into a found block -/
def stE (size : Nat) (ag : Bool) (t esz i j : Nat) (x : AV) : Option HEnt → Option Eff
  | some ⟨_, g, .rows e esz' vals⟩ => if esz = esz' then (wr esz vals i j size ag x).map fun vals' => .set t g (.rows e esz vals') else none
  | _ => none
theorem sto_ptr (lk : Look) (size : Nat) (ag : Bool) : storeV lk size ag (.ptr t esz i j) x = stE size ag t esz i j x (lk t) := rfl
def toSet (t g e esz : Nat) (vals : List AV) : Eff := .set t g (.rows e esz vals)
theorem stE_some (size : Nat) (ag : Bool) : stE size ag t esz i j x (some ⟨t, g, .rows ty esz vals⟩) = (wr esz vals i j size ag x).map (toSet t g ty esz) := by simp [stE]; rfl
def wrC (vals : List AV) (i j : Nat) (x : AV) : Option AV → Option (List AV)
  | some (.agg cs) => if j < cs.length then some (vals.set i (.agg (cs.set j x))) else none
  | some v => if j = 0 then some (vals.set i x) else none
  | none => none
end

end Eng

namespace Eng
open Go Go.RowKit
set_option linter.unusedSimpArgs false
set_option linter.unusedVariables false

section
variable (cs : Ctx) (hx : HCtx) (tm : List AV) (hp : List HEnt) (nx d n e esz bytes i j t g : Nat) (xs : List Opd) (o : POp) (ag want b c : Bool) (x a : Opd) (v : AV) (vals l : List AV) (K : Post) (P : Program)

/-! writing -/
def wrA (esz : Nat) (vals : List AV) (i j size : Nat) (xs : List AV) : Option AV → Option (List AV)
  | some v => if j = 0 ∧ size = esz then some (vals.set i (.agg xs)) else some (vals.set i (.agg (v.cells.take j ++ (xs ++ v.cells.drop (j + size)))))
  | none => none
theorem wr_f (size : Nat) (h : v.sc = true) : wr esz vals i j size false v = wrC vals i j v (vals[i]?) := by
  unfold wr wrC
  simp only [h, Bool.false_eq_true, if_false, if_true]
  cases vals[i]? with
  | none => rfl
  | some u => cases u <;> rfl
theorem wr_t (size : Nat) (h : (l.length = size) = True) (h' : l.all AV.sc = true) (h'' : (j + size ≤ esz) = True) : wr esz vals i j size true (.agg l) = wrA esz vals i j size l (vals[i]?) := by
  unfold wr wrA
  simp only [h, h', h'', if_true, true_and, and_self]
  cases vals[i]? with
  | none => simp
  | some u => simp
theorem wrA_all (size : Nat) : wrA size vals i 0 size l (some v) = some (vals.set i (.agg l)) := by simp [wrA]
theorem wrA_part (size : Nat) (h : (j = 0 ∧ size = esz) = False) : wrA esz vals i j size l (some v) = some (vals.set i (.agg (v.cells.take j ++ (l ++ v.cells.drop (j + size))))) := by simp only [wrA, h, if_false]
theorem wrC_agg : wrC vals i j v (some (.agg l)) = if j < l.length then some (vals.set i (.agg (l.set j v))) else none := rfl
theorem wrC_0 (u : AV) (h : u.isAgg = false) : wrC vals i 0 v (some u) = some (vals.set i v) := by
  cases u <;> first | rfl | (simp [AV.isAgg] at h)

/-! the state behind an operation -/
def putT (tm : List AV) (hp : List HEnt) (nx : Nat) : Option Nat → AV → Option AState
  | some d, v => some ⟨setT tm d v, hp, nx⟩
  | none, _ => some ⟨tm, hp, nx⟩
theorem putT_s : putT tm hp nx (some d) v = some ⟨setT tm d v, hp, nx⟩ := rfl
theorem putT_n : putT tm hp nx none v = some ⟨tm, hp, nx⟩ := rfl
theorem putV_eq (dst : Option Nat) : putV ⟨tm, hp, nx⟩ dst = putT tm hp nx dst := by funext v; cases dst <;> rfl
def putS (tm : List AV) (hp : List HEnt) (nx : Nat) (f : Eff) : Option AState := some ⟨tm, applyE f hp, nx + 1⟩
theorem putS_set (ty : Nat) : putS tm hp nx (toSet t g ty esz vals) = some ⟨tm, setB hp t g (.rows ty esz vals), nx + 1⟩ := rfl
def putA (tm : List AV) (hp : List HEnt) (nx d : Nat) (r : AV × Eff) : Option AState := some ⟨setT tm d r.1, applyE r.2 hp, nx + 1⟩
theorem putA_eq (f : Eff) : putA tm hp nx d (v, f) = some ⟨setT tm d v, applyE f hp, nx + 1⟩ := rfl
theorem ap_no : applyE .no hp = hp := rfl
theorem ap_new (en : HEnt) : applyE (.new en) hp = en :: hp := rfl
theorem ap_set (k : ABlk) : applyE (.set t g k) hp = setB hp t g k := rfl
theorem ap_ext (en : HEnt) : applyE (.ext t g en) hp = en :: dropG hp t g := rfl

/-! operations without a guard -/
def fbsV (esz : Nat) (vals : List AV) : Option AV := if vals.all (fun v => decide (v.cells.length = esz) && v.cells.all AV.sc) then some (.vs vals) else none
def boxF (tm : List AV) (hp : List HEnt) (nx d e : Nat) (v : AV) : Option AState := if v.sc = true then some ⟨setT tm d (.ptr nx 1 0 0), ⟨nx, nx, .rows e 1 [v]⟩ :: hp, nx + 1⟩ else none
def boxT (tm : List AV) (hp : List HEnt) (nx d e esz n : Nat) : AV → Option AState
  | .agg l => if l.length = n * esz ∧ l.all AV.sc = true then some ⟨setT tm d (.ptr nx esz 0 0), ⟨nx, nx, .rows e esz (if n = 1 then [.agg l] else rowsOf esz n l)⟩ :: hp, nx + 1⟩ else none
  | _ => none
def bslV (tm : List AV) (hp : List HEnt) (nx d e esz : Nat) (vals : List AV) : Option AState :=
  if vals.all (fun v => decide (v.cells.length = esz) && v.cells.all AV.sc) then some ⟨setT tm d (.slice nx esz 0 vals.length), ⟨nx, nx, .rows e esz vals⟩ :: hp, nx + 1⟩ else none
theorem s_p (dst : Option Nat) : step cs ⟨dst, .p o, xs, none⟩ ⟨tm, hp, nx⟩ = obind (evP o (evs tm xs)) (putT tm hp nx dst) := by rw [← putV_eq]; rfl
theorem s_load1 : step cs ⟨some d, .load n ag, [x], none⟩ ⟨tm, hp, nx⟩ = obind (loadV (getE hp) n ag (evO tm x)) (putT tm hp nx (some d)) := rfl
theorem s_call1 (f : Nat) (dst : Option Nat) : step cs ⟨dst, .call f, xs, none⟩ ⟨tm, hp, nx⟩ = obind (callV cs (getE hp) f (evs tm xs)) (putT tm hp nx dst) := by rw [← putV_eq]; rfl
theorem s_callv1 (dst : Option Nat) : step cs ⟨dst, .callv, xs, none⟩ ⟨tm, hp, nx⟩ = obind (valOp cs (getE hp) .callv (evs tm xs)) (putT tm hp nx dst) := by rw [← putV_eq]; rfl
theorem s_fbs1 : step cs ⟨some d, .fbs esz, xs, none⟩ ⟨tm, hp, nx⟩ = obind (fbsV esz (evs tm xs)) (putT tm hp nx (some d)) := rfl
theorem s_alloc1 : step cs ⟨some d, .alloc e esz vals, [], none⟩ ⟨tm, hp, nx⟩ = some ⟨setT tm d (.ptr nx esz 0 0), ⟨nx, nx, .rows e esz vals⟩ :: hp, nx + 1⟩ := rfl
theorem s_boxF1 : step cs ⟨some d, .box e 1 1 false, [x], none⟩ ⟨tm, hp, nx⟩ = boxF tm hp nx d e (evO tm x) := by
  unfold boxF
  simp only [step, stepR, AOp.isEff, if_true, evs, effOp, Bool.false_eq_true, if_false, and_true]
  split <;> rfl
theorem s_boxT1 : step cs ⟨some d, .box e esz n true, [x], none⟩ ⟨tm, hp, nx⟩ = boxT tm hp nx d e esz n (evO tm x) := by
  simp only [step, stepR, AOp.isEff, if_true, evs, effOp]
  cases evO tm x <;> simp only [AV.isAgg, Bool.false_eq_true, false_and, if_false, boxT] <;> try rfl
  simp only [AV.cells, true_and]
  split <;> rfl
theorem s_bsl1 : step cs ⟨some d, .bsl e esz, xs, none⟩ ⟨tm, hp, nx⟩ = bslV tm hp nx d e esz (evs tm xs) := by
  unfold bslV
  simp only [step, stepR, AOp.isEff, if_true, effOp]
  split <;> rfl
theorem s_store1 : step cs ⟨none, .store n ag, [a, x], none⟩ ⟨tm, hp, nx⟩ = obind (storeV (getE hp) n ag (evO tm a) (evO tm x)) (putS tm hp nx) := by
  simp only [step, stepR, AOp.isEff, if_true, evs, effOp]
  cases storeV (getE hp) n ag (evO tm a) (evO tm x) <;> rfl
theorem s_app1 : step cs ⟨some d, .app e esz bytes, [a, x], none⟩ ⟨tm, hp, nx⟩ = obind (appV (getE hp) nx e esz bytes (evO tm a) (evO tm x)) (putA tm hp nx d) := rfl
theorem boxF_sc (h : v.sc = true) : boxF tm hp nx d e v = some ⟨setT tm d (.ptr nx 1 0 0), ⟨nx, nx, .rows e 1 [v]⟩ :: hp, nx + 1⟩ := by unfold boxF; rw [if_pos h]
theorem boxT_1 (h : (l.length = esz) = True) (h' : l.all AV.sc = true) : boxT tm hp nx d e esz 1 (.agg l) = some ⟨setT tm d (.ptr nx esz 0 0), ⟨nx, nx, .rows e esz [.agg l]⟩ :: hp, nx + 1⟩ := by
  simp only [boxT, Nat.one_mul, h, h', and_self, if_true]
theorem boxT_1n (h : (l.length = n) = True) (h' : l.all AV.sc = true) (h1 : (n = 1) = False) : boxT tm hp nx d e 1 n (.agg l) = some ⟨setT tm d (.ptr nx 1 0 0), ⟨nx, nx, .rows e 1 l⟩ :: hp, nx + 1⟩ := by
  simp only [boxT, Nat.mul_one, h, h', and_self, if_true, h1, if_false, rowsOf]
theorem valOp_callv (lk : Look) (f : Nat) (first cap : List AV) : valOp cs lk .callv (.fn f first cap :: vals) = callV cs lk f (first ++ vals ++ cap) := rfl
theorem fbs_ok (h : vals.all (fun v => decide (v.cells.length = esz) && v.cells.all AV.sc) = true) : fbsV esz vals = some (.vs vals) := by unfold fbsV; rw [if_pos h]
theorem bsl_ok (h : vals.all (fun v => decide (v.cells.length = esz) && v.cells.all AV.sc) = true) : bslV tm hp nx d e esz vals = some ⟨setT tm d (.slice nx esz 0 vals.length), ⟨nx, nx, .rows e esz vals⟩ :: hp, nx + 1⟩ := by unfold bslV; rw [if_pos h]

/-! calls -/
def callK (cs : Ctx) (f : Nat) (vals : List AV) : Option (List AV) → Option AV
  | some as => (cs f as).bind fun v => if vals.any isSl = false ∨ v.flatV = true then some v else none
  | none => none
theorem callV_eq (lk : Look) (f : Nat) : callV cs lk f vals = callK cs f vals (purs lk vals) := by unfold callV callK; cases purs lk vals <;> rfl
def callR (vals : List AV) : Option AV → Option AV
  | some v => if vals.any isSl = false ∨ v.flatV = true then some v else none
  | none => none
theorem callK_some (f : Nat) : callK cs f vals (some l) = callR vals (cs f l) := by
  show (cs f l).bind (fun v => if vals.any isSl = false ∨ v.flatV = true then some v else none) = callR vals (cs f l)
  cases cs f l <;> rfl
theorem callR_pure (h : vals.any isSl = false) : callR vals (some v) = some v := by simp [callR, h]
theorem callR_flat (h : v.flatV = true) : callR vals (some v) = some v := by simp [callR, h]
theorem pu_nil (lk : Look) : purs lk [] = some [] := rfl
def consO (v : Option AV) (r : Option (List AV)) : Option (List AV) := v.bind fun a => r.map fun r => a :: r
theorem pu_cons (lk : Look) : purs lk (v :: vals) = consO (pur lk v) (purs lk vals) := rfl
theorem consO_some : consO (some v) (some l) = some (v :: l) := rfl
section
variable (lk : Look) (k : IntKind) (m : Int) (p : Bool) (s : ByteArray) (l' : List AV)
theorem p_int : pur lk (.int k m) = some (.int k m) := rfl
theorem p_bool : pur lk (.bool p) = some (.bool p) := rfl
theorem p_str : pur lk (.str s) = some (.str s) := rfl
theorem p_agg : pur lk (.agg l) = some (.agg l) := rfl
theorem p_vs : pur lk (.vs l) = some (.vs l) := rfl
theorem p_fn : pur lk (.fn n l l') = some (.fn n l l') := rfl
theorem p_nil : pur lk .nilslice = some (.vs []) := rfl
theorem p_ptr : pur lk (.ptr t esz i j) = some (.ptr t esz i j) := rfl
theorem p_vp : pur lk (.vp l i j) = some (.vp l i j) := rfl
def purE (esz i n : Nat) : Option HEnt → Option AV
  | some ⟨_, _, .rows _ esz' vals⟩ => if esz = esz' ∧ i + n ≤ vals.length then some (.vs ((vals.drop i).take n)) else none
  | _ => none
theorem p_slice : pur lk (.slice t esz i n) = purE esz i n (lk t) := rfl
theorem purE_some (ty : Nat) : purE esz i n (some ⟨t, g, .rows ty esz vals⟩) = if i + n ≤ vals.length then some (.vs ((vals.drop i).take n)) else none := by simp [purE]
theorem pR_tup : purR lk (.tup l) = (purs lk l).map .tup := rfl
theorem pR_int : purR lk (.int k m) = some (.int k m) := rfl
theorem pR_bool : purR lk (.bool p) = some (.bool p) := rfl
theorem pR_agg : purR lk (.agg l) = some (.agg l) := rfl
theorem pR_vs : purR lk (.vs l) = some (.vs l) := rfl
theorem pR_nil : purR lk .nilslice = some (.vs []) := rfl
theorem pR_str : purR lk (.str s) = some (.str s) := rfl
theorem pR_slice : purR lk (.slice t esz i n) = pur lk (.slice t esz i n) := rfl
theorem pR_fn : purR lk (.fn n l l') = some (.fn n l l') := rfl
theorem sl_int : isSl (.int k m) = false := rfl
theorem sl_bool : isSl (.bool p) = false := rfl
theorem sl_str : isSl (.str s) = false := rfl
theorem sl_agg : isSl (.agg l) = false := rfl
theorem sl_vs : isSl (.vs l) = false := rfl
theorem sl_fn : isSl (.fn n l l') = false := rfl
theorem sl_nil : isSl .nilslice = false := rfl
theorem sl_ptr : isSl (.ptr t esz i j) = false := rfl
theorem sl_vp : isSl (.vp l i j) = false := rfl
theorem sl_slice : isSl (.slice t esz i n) = true := rfl
theorem n_int : sub1 noId (.int k m) = .int k m := rfl
theorem n_bool : sub1 noId (.bool p) = .bool p := rfl
theorem n_str : sub1 noId (.str s) = .str s := rfl
theorem n_agg : sub1 noId (.agg l) = .agg (subs noId l) := rfl
theorem n_vs : sub1 noId (.vs l) = .vs (subs noId l) := rfl
theorem n_tup : sub1 noId (.tup l) = .tup (subs noId l) := rfl
theorem n_nil : subs noId [] = [] := rfl
theorem n_cons : subs noId (v :: l) = sub1 noId v :: subs noId l := rfl
theorem n_nils : sub1 noId .nilslice = .nilslice := rfl
end

/-! append -/
section
variable (lk : Look) (id : Nat)
def appN (id e esz bytes : Nat) : Option (List AV) → Option (AV × Eff)
  | some xs => if xs.length = 0 then some (.nilslice, .no)
      else if xs.length * bytes ≤ 140737488355328 ∧ xs.length ≤ maxLen then some (.slice id esz 0 xs.length, .new ⟨id, id, .rows e esz xs⟩) else none
  | none => none
theorem app_nil : appV lk id e esz bytes .nilslice v = appN id e esz bytes (srcV lk esz v) := by simp only [appV]; cases srcV lk esz v <;> rfl
def appX (id e esz bytes t n g : Nat) (vals : List AV) : Option (List AV) → Option (AV × Eff)
  | some xs => if n = vals.length ∧ (n + xs.length) * bytes ≤ 140737488355328 ∧ n + xs.length ≤ maxLen then some (.slice id esz 0 (n + xs.length), .ext t g ⟨id, g, .rows e esz (vals ++ xs)⟩) else none
  | none => none
def appE (lk : Look) (id e esz bytes t n : Nat) (v : AV) : Option HEnt → Option (AV × Eff)
  | some ⟨_, g, .rows e' esz' vals⟩ => if esz' = esz ∧ e' = e then appX id e esz bytes t n g vals (srcV lk esz v) else none
  | _ => none
theorem app_sl : appV lk id e esz bytes (.slice t esz 0 n) v = appE lk id e esz bytes t n v (lk t) := by
  simp only [appV]
  cases lk t with
  | none => rfl
  | some en =>
    obtain ⟨_, g, blk⟩ := en
    cases blk with
    | obj _ => rfl
    | rows e' esz' vals =>
      simp only [appE]
      cases srcV lk esz v with
      | none => simp [appX]
      | some xs =>
        simp only [Option.bind_some, appX]
        by_cases h1 : esz' = esz <;> by_cases h2 : e' = e <;> simp [h1, h2]
theorem appE_some : appE lk id e esz bytes t n v (some ⟨t, g, .rows e esz vals⟩) = appX id e esz bytes t n g vals (srcV lk esz v) := by simp [appE]
theorem src_vs (h : l.all (fun v => decide (v.cells.length = esz)) = true) : srcV lk esz (.vs l) = some l := by simp only [srcV, h, if_true]
theorem src_nil : srcV lk esz .nilslice = some [] := rfl
def srcE (esz i n : Nat) : Option HEnt → Option (List AV)
  | some ⟨_, _, .rows _ esz' vals⟩ => if esz' = esz ∧ i + n ≤ vals.length then some ((vals.drop i).take n) else none
  | _ => none
theorem src_sl : srcV lk esz (.slice t esz i n) = srcE esz i n (lk t) := by
  simp only [srcV, srcE]
  cases lk t with
  | none => rfl
  | some en =>
    obtain ⟨_, g, blk⟩ := en
    cases blk with
    | obj _ => rfl
    | rows e' esz' vals => simp
theorem srcE_some (ty : Nat) : srcE esz i n (some ⟨t, g, .rows ty esz vals⟩) = if i + n ≤ vals.length then some ((vals.drop i).take n) else none := by simp [srcE]
end

/-! operations with a guard -/
theorem g_t (b : Bool) : gbool true (.bool b) = some b := rfl
theorem g_f (b : Bool) : gbool false (.bool b) = some (!b) := rfl
def gP (d : Option Nat) (tm : List AV) (hp : List HEnt) (nx : Nat) (o : POp) (xs : List Opd) (c : Bool) : Option AState := obind (gif c (evP o (evs tm xs))) (putT tm hp nx d)
def gL (d : Option Nat) (tm : List AV) (hp : List HEnt) (nx n : Nat) (ag : Bool) (x : Opd) (c : Bool) : Option AState := obind (gif c (loadV (getE hp) n ag (evO tm x))) (putT tm hp nx d)
def gC (cs : Ctx) (d : Option Nat) (tm : List AV) (hp : List HEnt) (nx f : Nat) (xs : List Opd) (c : Bool) : Option AState := obind (gif c (callV cs (getE hp) f (evs tm xs))) (putT tm hp nx d)
def gV (cs : Ctx) (d : Option Nat) (tm : List AV) (hp : List HEnt) (nx : Nat) (xs : List Opd) (c : Bool) : Option AState := obind (gif c (valOp cs (getE hp) .callv (evs tm xs))) (putT tm hp nx d)
def gF (d : Option Nat) (tm : List AV) (hp : List HEnt) (nx esz : Nat) (xs : List Opd) (c : Bool) : Option AState := obind (gif c (fbsV esz (evs tm xs))) (putT tm hp nx d)
def gE (cs : Ctx) (o : AOper) (d : Option Nat) (tm : List AV) (hp : List HEnt) (nx : Nat) (c : Bool) : Option AState := if c then step cs o ⟨tm, hp, nx⟩ else putT tm hp nx d (.tup [])
theorem q_p (dst : Option Nat) : step cs ⟨dst, .p o, xs, some (g, want)⟩ ⟨tm, hp, nx⟩ = obind (gbool want (getT tm g)) (gP dst tm hp nx o xs) := by
  have : stepG cs ⟨dst, .p o, xs, some (g, want)⟩ ⟨tm, hp, nx⟩ = gP dst tm hp nx o xs := by funext c; unfold gP; rw [← putV_eq]; rfl
  rw [← this]; rfl
theorem q_load (dst : Option Nat) : step cs ⟨dst, .load n ag, [x], some (g, want)⟩ ⟨tm, hp, nx⟩ = obind (gbool want (getT tm g)) (gL dst tm hp nx n ag x) := by
  have : stepG cs ⟨dst, .load n ag, [x], some (g, want)⟩ ⟨tm, hp, nx⟩ = gL dst tm hp nx n ag x := by funext c; unfold gL; rw [← putV_eq]; rfl
  rw [← this]; rfl
theorem q_call (dst : Option Nat) (f : Nat) : step cs ⟨dst, .call f, xs, some (g, want)⟩ ⟨tm, hp, nx⟩ = obind (gbool want (getT tm g)) (gC cs dst tm hp nx f xs) := by
  have : stepG cs ⟨dst, .call f, xs, some (g, want)⟩ ⟨tm, hp, nx⟩ = gC cs dst tm hp nx f xs := by funext c; unfold gC; rw [← putV_eq]; rfl
  rw [← this]; rfl
theorem q_callv (dst : Option Nat) : step cs ⟨dst, .callv, xs, some (g, want)⟩ ⟨tm, hp, nx⟩ = obind (gbool want (getT tm g)) (gV cs dst tm hp nx xs) := by
  have : stepG cs ⟨dst, .callv, xs, some (g, want)⟩ ⟨tm, hp, nx⟩ = gV cs dst tm hp nx xs := by funext c; unfold gV; rw [← putV_eq]; rfl
  rw [← this]; rfl
theorem q_fbs (dst : Option Nat) : step cs ⟨dst, .fbs esz, xs, some (g, want)⟩ ⟨tm, hp, nx⟩ = obind (gbool want (getT tm g)) (gF dst tm hp nx esz xs) := by
  have : stepG cs ⟨dst, .fbs esz, xs, some (g, want)⟩ ⟨tm, hp, nx⟩ = gF dst tm hp nx esz xs := by funext c; unfold gF; rw [← putV_eq]; rfl
  rw [← this]; rfl
theorem q_eff (dst : Option Nat) (op : AOp) (h : op.isEff = true) : step cs ⟨dst, op, xs, some (g, want)⟩ ⟨tm, hp, nx⟩ = obind (gbool want (getT tm g)) (gE cs ⟨dst, op, xs, none⟩ dst tm hp nx) := by
  have : stepG cs ⟨dst, op, xs, some (g, want)⟩ ⟨tm, hp, nx⟩ = gE cs ⟨dst, op, xs, none⟩ dst tm hp nx := by
    funext c
    simp only [stepG, h, if_true, gE]
    cases c with
    | true => rfl
    | false => cases dst <;> rfl
  rw [← this]; rfl
theorem gE_t (op : AOper) : gE cs op (some d) tm hp nx true = step cs op ⟨tm, hp, nx⟩ := rfl
theorem gE_f (op : AOper) : gE cs op (some d) tm hp nx false = some ⟨setT tm d (.tup []), hp, nx⟩ := rfl
theorem gE_nt (op : AOper) : gE cs op none tm hp nx true = step cs op ⟨tm, hp, nx⟩ := rfl
theorem gE_nf (op : AOper) : gE cs op none tm hp nx false = some ⟨tm, hp, nx⟩ := rfl
theorem gP_eq (dst : Option Nat) : gP dst tm hp nx o xs c = obind (gif c (evP o (evs tm xs))) (putT tm hp nx dst) := rfl
theorem gL_eq (dst : Option Nat) : gL dst tm hp nx n ag x c = obind (gif c (loadV (getE hp) n ag (evO tm x))) (putT tm hp nx dst) := rfl
theorem gC_eq (dst : Option Nat) (f : Nat) : gC cs dst tm hp nx f xs c = obind (gif c (callV cs (getE hp) f (evs tm xs))) (putT tm hp nx dst) := rfl
theorem gV_eq (dst : Option Nat) : gV cs dst tm hp nx xs c = obind (gif c (valOp cs (getE hp) .callv (evs tm xs))) (putT tm hp nx dst) := rfl
theorem gF_eq (dst : Option Nat) : gF dst tm hp nx esz xs c = obind (gif c (fbsV esz (evs tm xs))) (putT tm hp nx dst) := rfl

/-! regions and code -/
variable (os : List AOper) (op : AOper) (s : AState)
theorem r_nil : run cs [] s = some s := rfl
theorem r_cons : run cs (op :: os) s = obind (step cs op s) (run cs os) := rfl
theorem rd_nil : runD cs os [] s = run cs os s := rfl
theorem rh_no : runH cs noHx os s = run cs os s := by
  induction os generalizing s with
  | nil => rfl
  | cons o os ih =>
    have h1 : stepH cs noHx o s = step cs o s := by
      unfold stepH
      split
      · unfold stepC
        split
        · split <;> rfl
        · rfl
      · unfold stepC
        split
        · split <;> rfl
        · rfl
      · rfl
    simp only [runH, run, h1]
    congr 1
    funext s
    exact ih s
theorem rh_nil : runH cs hx [] s = some s := rfl
theorem rh_cons : runH cs hx (op :: os) s = obind (stepH cs hx op s) (runH cs hx os) := rfl
theorem h_p (dst : Option Nat) (gd : Option (Nat × Bool)) : stepH cs hx ⟨dst, .p o, xs, gd⟩ s = step cs ⟨dst, .p o, xs, gd⟩ s := rfl
theorem h_load (dst : Option Nat) (gd : Option (Nat × Bool)) : stepH cs hx ⟨dst, .load n ag, xs, gd⟩ s = step cs ⟨dst, .load n ag, xs, gd⟩ s := rfl
theorem h_fbs (dst : Option Nat) (gd : Option (Nat × Bool)) : stepH cs hx ⟨dst, .fbs n, xs, gd⟩ s = step cs ⟨dst, .fbs n, xs, gd⟩ s := rfl
theorem h_alloc (dst : Option Nat) (gd : Option (Nat × Bool)) : stepH cs hx ⟨dst, .alloc e esz vals, xs, gd⟩ s = step cs ⟨dst, .alloc e esz vals, xs, gd⟩ s := rfl
theorem h_box (dst : Option Nat) (gd : Option (Nat × Bool)) : stepH cs hx ⟨dst, .box e esz n ag, xs, gd⟩ s = step cs ⟨dst, .box e esz n ag, xs, gd⟩ s := rfl
theorem h_bsl (dst : Option Nat) (gd : Option (Nat × Bool)) : stepH cs hx ⟨dst, .bsl e esz, xs, gd⟩ s = step cs ⟨dst, .bsl e esz, xs, gd⟩ s := rfl
theorem h_store (dst : Option Nat) (gd : Option (Nat × Bool)) : stepH cs hx ⟨dst, .store n ag, xs, gd⟩ s = step cs ⟨dst, .store n ag, xs, gd⟩ s := rfl
theorem h_app (dst : Option Nat) (gd : Option (Nat × Bool)) : stepH cs hx ⟨dst, .app e esz bytes, xs, gd⟩ s = step cs ⟨dst, .app e esz bytes, xs, gd⟩ s := rfl
theorem h_call (dst : Option Nat) (f : Nat) (h : (f = 987654321) = False) : stepH cs hx ⟨dst, .call f, xs, none⟩ ⟨tm, hp, nx⟩ = orStep cs ⟨dst, .call f, xs, none⟩ ⟨tm, hp, nx⟩ (hx f (evs tm xs) hp nx) := by
  simp only [stepH, target, h, if_false, stepC]
theorem h_callg (dst : Option Nat) (f : Nat) (gd : Nat × Bool) : stepH cs hx ⟨dst, .call f, xs, some gd⟩ s = step cs ⟨dst, .call f, xs, some gd⟩ s := by
  simp only [stepH]
  cases target (AOp.call f) (evs s.tm xs) <;> rfl
def callT (cs : Ctx) (hx : HCtx) (o : AOper) (s : AState) : List AV → Option AState
  | .fn f first cap :: vals => if f = 987654321 then step cs o s else orStep cs o s (hx f (first ++ vals ++ cap) s.hp s.next)
  | .yield t :: vals => orStep cs o s (hx 987654321 (.yield t :: vals) s.hp s.next)
  | _ => step cs o s
theorem h_callv (dst : Option Nat) : stepH cs hx ⟨dst, .callv, xs, none⟩ ⟨tm, hp, nx⟩ = callT cs hx ⟨dst, .callv, xs, none⟩ ⟨tm, hp, nx⟩ (evs tm xs) := by
  simp only [stepH]
  cases h : evs tm xs with
  | nil => rfl
  | cons v vs =>
    cases v <;> try rfl
    case fn f first cap =>
      simp only [target, callT]
      split <;> rfl
theorem callT_fn (f : Nat) (first cap : List AV) (h : (f = 987654321) = False) : callT cs hx op ⟨tm, hp, nx⟩ (.fn f first cap :: vals) = orStep cs op ⟨tm, hp, nx⟩ (hx f (first ++ vals ++ cap) hp nx) := by
  simp only [callT, h, if_false]
theorem callT_y (t : Nat) : callT cs hx op ⟨tm, hp, nx⟩ (.yield t :: vals) = orStep cs op ⟨tm, hp, nx⟩ (hx 987654321 (.yield t :: vals) hp nx) := rfl
theorem or_none : orStep cs op s none = step cs op s := rfl
theorem or_some (dst : Option Nat) (o' : AOp) (gd : Option (Nat × Bool)) (hp' : List HEnt) (nx' : Nat) : orStep cs ⟨dst, o', xs, gd⟩ ⟨tm, hp, nx⟩ (some (v, hp', nx')) = putT tm hp' nx' dst v := by cases dst <;> rfl
theorem w_skip : AW P cs hx n .skip K s = K .normal s := rfl
theorem w_ops : AW P cs hx n (.ops false [] os) K s = okN (K .normal) (runH cs hx os s) := rfl
theorem w_opsD (ps : List (Nat × Nat)) : AW P cs hx n (.ops true ps os) K s = okN (K .normal) (runD cs os ps s) := rfl
theorem w_seq (y z : AC) : AW P cs hx n (.seq y z) K s = AW P cs hx n y (eThen (AW P cs hx n z K) K) s := rfl
theorem w_cond (y z : AC) : AW P cs hx n (.cond x y z) K ⟨tm, hp, nx⟩ = condV (AW P cs hx n y K) (AW P cs hx n z K) ⟨tm, hp, nx⟩ (evO tm x) := rfl
theorem w_block (y : AC) : AW P cs hx n (.block i y) K s = AW P cs hx n y (eBlk i K) s := rfl
theorem w_exit : AW P cs hx n (.exit i) K s = K (.exit i) s := rfl
theorem w_ret : AW P cs hx n .ret K s = K .ret s := rfl
theorem w_loop (y : AC) : AW P cs hx n (.loop y) K s = Cor P (YH P hx) n (.loop y) K s := rfl
theorem w_rf (y z : AC) (ps : List Nat) : AW P cs hx n (.rf x ps y z) K s = Cor P (YH P hx) n (.rf x ps y z) K s := rfl
theorem okN_some (f : AState → Prop) : okN f (some s) = f s := rfl
theorem condV_b (f g : AState → Prop) (p : Bool) : condV f g s (.bool p) = ((p = true → f s) ∧ (p = false → g s)) := rfl
theorem condV_t (f g : AState → Prop) : condV f g s (.bool true) = f s := by simp [condV]
theorem condV_f (f g : AState → Prop) : condV f g s (.bool false) = g s := by simp [condV]
theorem bg_eq (args : List AV) : bg n args hp nx = ⟨args ++ List.replicate (n - args.length) .any, hp, nx⟩ := rfl
theorem res_eq (rs : List RV) : resV ⟨tm, hp, nx⟩ rs = (rvs (getE hp) tm rs).map resOf := rfl
theorem rvs_nil (lk : Look) : rvs lk tm [] = some [] := rfl
theorem rvs_cons (lk : Look) (q : RV) (rs : List RV) : rvs lk tm (q :: rs) = consO (rv1 lk tm q) (rvs lk tm rs) := rfl
theorem rv_t (lk : Look) : rv1 lk tm (.tmp t) = some (getT tm t) := rfl
theorem rv_c (lk : Look) : rv1 lk tm (.cell d n ag) = loadV lk n ag (getT tm d) := rfl
theorem ro_1 : resOf [v] = v := rfl
theorem ro_0 : resOf [] = .tup [] := rfl
theorem ro_2 (u : AV) : resOf (v :: u :: l) = .tup (v :: u :: l) := rfl
end

/-! slices of slices, clipped ones -/
section
variable (cs : Ctx) (lk : Look) (tm : List AV) (hp : List HEnt) (nx id e esz bytes n m s : Nat) (l r : List AV) (v : AV) (k : IntKind) (a b c : Int) (lo hi mx : Bool)
theorem e_slc : evP (.slc s lo hi mx) (.vs l :: r) = slcV s mx l (bnd lo hi mx l.length r) := rfl
theorem bd_0 : bnd false false false n [] = some (0, n) := rfl
theorem bd_l : bnd true false false n [.int k a] = if 0 ≤ a ∧ a.toNat ≤ n then some (a.toNat, n) else none := rfl
theorem bd_h : bnd false true false n [.int k a] = if 0 ≤ a ∧ a.toNat ≤ n then some (0, a.toNat) else none := rfl
theorem bd_lh : bnd true true false n [.int k a, .int k b] = if 0 ≤ a ∧ a ≤ b ∧ b.toNat ≤ n then some (a.toNat, b.toNat) else none := rfl
theorem bd_hm : bnd false true true n [.int k a, .int k b] = if a = b ∧ 0 ≤ a ∧ a.toNat ≤ n then some (0, a.toNat) else none := rfl
theorem sv_0 : slcV s false l (some (0, n)) = some (.vs (l.take n)) := by simp [slcV]
theorem sv_0x : slcV s true l (some (0, n)) = some (.vx (l.take n)) := by simp [slcV]
theorem sv_n (h : (l.all fun v => decide (v.cells.length = s)) = true) : slcV s false l (some (m, n)) = some (.vs ((l.drop m).take (n - m))) := by simp only [slcV, h, or_true, if_true, Bool.false_eq_true, if_false]
theorem e_min3 : evP (.mm false) [.int k a, .int k b, .int k c] = some (.int k (min (min a b) c)) := by simp [evP, mmF]
theorem e_max3 : evP (.mm true) [.int k a, .int k b, .int k c] = some (.int k (max (max a b) c)) := by simp [evP, mmF]
def appC (id e esz bytes : Nat) (vals : List AV) : Option (List AV) → Option (AV × Eff)
  | some xs => if (vals.all fun v => decide (v.cells.length = esz)) = true ∧ 0 < xs.length ∧ (vals.length + xs.length) * bytes ≤ 140737488355328 ∧ vals.length + xs.length ≤ maxLen then
      some (.slice id esz 0 (vals.length + xs.length), .new ⟨id, id, .rows e esz (vals ++ xs)⟩) else none
  | none => none
theorem app_vx : appV lk id e esz bytes (.vx l) v = appC id e esz bytes l (srcV lk esz v) := by simp only [appV]; cases srcV lk esz v <;> rfl
theorem p_vx : pur lk (.vx l) = some (.vx l) := rfl
theorem pR_vx : purR lk (.vx l) = some (.vx l) := rfl
theorem n_vx : sub1 noId (.vx l) = .vx (subs noId l) := rfl
theorem sl_vx : isSl (.vx l) = false := rfl
theorem tl_vx : tidL (.vx l :: r) = tidL r := rfl
theorem cells_vx : (AV.vx l).cells = [.vx l] := rfl
theorem sc_vx : (AV.vx l).sc = true := rfl
end
end Eng

namespace Eng
open Go Go.RowKit
set_option linter.unusedSimpArgs false
set_option linter.unusedVariables false

def noC : Ctx := fun _ _ => none
theorem noC_good (P : Program) : Good P noC := fun _ _ _ h => by simp [noC] at h
def addC (f : Nat) (c : List AV → Option AV) (cs : Ctx) : Ctx := fun g args => if g = f then c args else cs g args
/-- the contracts of one function -/
def Fn (P : Program) (f : Nat) (c : List AV → Option AV) : Prop := ∀ args v, c args = some v → FOk P f args v
theorem addC_good {P : Program} {f : Nat} {c : List AV → Option AV} {cs : Ctx} (h : Fn P f c) (hcs : Good P cs) : Good P (addC f c cs) := fun g args v hv => by
  unfold addC at hv
  split at hv
  · rename_i e; subst e; exact h args v hv
  · exact hcs g args v hv
theorem addC_eq (f : Nat) (c : List AV → Option AV) (cs : Ctx) (args : List AV) : addC f c cs f args = c args := by simp [addC]
theorem addC_ne (f g : Nat) (c : List AV → Option AV) (cs : Ctx) (args : List AV) (h : (g = f) = False) : addC f c cs g args = cs g args := by simp [addC, h]

def addH (f : Nat) (c : List AV → List HEnt → Nat → Option (AV × List HEnt × Nat)) (hx : HCtx) : HCtx := fun g args hp nx => if g = f then c args hp nx else hx g args hp nx
def Hn (P : Program) (f : Nat) (c : List AV → List HEnt → Nat → Option (AV × List HEnt × Nat)) : Prop := ∀ args hp nx v hp' nx', c args hp nx = some (v, hp', nx') → LOk P f args hp nx v hp' nx'
theorem YH_add {P : Program} {f : Nat} {c : List AV → List HEnt → Nat → Option (AV × List HEnt × Nat)} {hx : HCtx} {G : Ghost} (hf : yld ≠ f) (h : YH P hx G) : YH P (addH f c hx) G := fun t vals hp nx v hp' nx' hv => by
  unfold addH at hv
  rw [if_neg hf] at hv
  exact h _ _ _ _ _ _ _ hv
theorem addH_good {P : Program} {f : Nat} {c : List AV → List HEnt → Nat → Option (AV × List HEnt × Nat)} {hx : HCtx} (h : Hn P f c) (hh : HGood P hx) : HGood P (addH f c hx) := fun g args hp nx v hp' nx' hg hv => by
  unfold addH at hv
  split at hv
  · rename_i e; subst e; exact h _ _ _ _ _ _ hv
  · exact hh _ _ _ _ _ _ _ hg hv
theorem addH_eq (f : Nat) (c : List AV → List HEnt → Nat → Option (AV × List HEnt × Nat)) (hx : HCtx) (args : List AV) (hp : List HEnt) (nx : Nat) : addH f c hx f args hp nx = c args hp nx := by simp [addH]
theorem addH_ne (f g : Nat) (c : List AV → List HEnt → Nat → Option (AV × List HEnt × Nat)) (hx : HCtx) (args : List AV) (hp : List HEnt) (nx : Nat) (h : (g = f) = False) : addH f c hx g args hp nx = hx g args hp nx := by simp [addH, h]
theorem noHx_eq (f : Nat) (args : List AV) (hp : List HEnt) (nx : Nat) : noHx f args hp nx = none := rfl

/-- an int -/
abbrev I (n : Int) : AV := .int .i64 n
abbrev B (b : Bool) : AV := .bool b

/-! values without numbers stay as they are -/
mutual
theorem sub1_free {φ : Nat → Fate} : ∀ {v : AV}, sub1 noId v = v → sub1 φ v = v
  | .ptr t esz i j, h => by simp [sub1, noId] at h
  | .vp vals i j, h => by
    simp only [sub1, AV.vp.injEq, and_true] at h ⊢
    exact subs_free h
  | .slice t esz i n, h => by simp [sub1, noId] at h
  | .vs vals, h => by
    simp only [sub1, AV.vs.injEq] at h ⊢
    exact subs_free h
  | .vx vals, h => by
    simp only [sub1, AV.vx.injEq] at h ⊢
    exact subs_free h
  | .mapv t, h => by simp [sub1, noId] at h
  | .fn f first cap, h => by
    simp only [sub1, AV.fn.injEq, true_and] at h ⊢
    exact ⟨subs_free h.1, subs_free h.2⟩
  | .yield t, h => by simp [sub1, noId] at h
  | .iface t v, h => by
    simp only [sub1, AV.iface.injEq, true_and] at h ⊢
    exact sub1_free h
  | .agg cs, h => by
    simp only [sub1, AV.agg.injEq] at h ⊢
    exact subs_free h
  | .tup us, h => by
    simp only [sub1, AV.tup.injEq] at h ⊢
    exact subs_free h
  | .any, _ => rfl
  | .bool b, _ => rfl
  | .int k n, _ => rfl
  | .str s, _ => rfl
  | .nilptr, _ => rfl
  | .nilslice, _ => rfl
  | .nilmap, _ => rfl
  | .nilfn, _ => rfl
  | .nilif, _ => rfl
theorem subs_free {φ : Nat → Fate} : ∀ {l : List AV}, subs noId l = l → subs φ l = l
  | [], _ => rfl
  | v :: vs, h => by
    simp only [subs, List.cons.injEq] at h ⊢
    exact ⟨sub1_free h.1, subs_free h.2⟩
end

theorem subs_mapE {α : Type} (φ : Nat → Fate) (f : α → AV) (h : ∀ x, sub1 φ (f x) = f x) (l : List α) : subs φ (l.map f) = l.map f := by
  rw [subs_map, List.map_map]
  exact List.map_congr_left fun x _ => h x

theorem subs_I (φ : Nat → Fate) (l : List Int) : subs φ (l.map I) = l.map I := subs_mapE φ _ (fun _ => rfl) l

def decI : AV → Option Int
  | .int .i64 n => some n
  | _ => none
theorem decI_I (n : Int) : decI (.int .i64 n) = some n := rfl
theorem decI_inv {v : AV} {n : Int} (h : decI v = some n) : v = .int .i64 n := by
  unfold decI at h
  split at h
  · cases h; rfl
  · cases h

def decL {α : Type} (dec : AV → Option α) : List AV → Option (List α)
  | [] => some []
  | v :: vs => (dec v).bind fun a => (decL dec vs).map fun r => a :: r
theorem decL_nil {α : Type} (dec : AV → Option α) : decL dec [] = some [] := rfl
def consL {α : Type} : Option α → Option (List α) → Option (List α)
  | some a, some l => some (a :: l)
  | _, _ => none
theorem consL_some {α : Type} (a : α) (l : List α) : consL (some a) (some l) = some (a :: l) := rfl
theorem decL_cons {α : Type} (dec : AV → Option α) (v : AV) (vs : List AV) : decL dec (v :: vs) = consL (dec v) (decL dec vs) := by
  simp only [decL]
  cases dec v <;> cases decL dec vs <;> rfl
theorem decL_map {α : Type} (dec : AV → Option α) (enc : α → AV) (h : ∀ x, dec (enc x) = some x) : ∀ l : List α, decL dec (l.map enc) = some l
  | [] => rfl
  | x :: l => by rw [List.map_cons, decL_cons, h, decL_map dec enc h l]; rfl
theorem decL_inv {α : Type} (dec : AV → Option α) (enc : α → AV) (h : ∀ v x, dec v = some x → v = enc x) : ∀ {vs : List AV} {l : List α}, decL dec vs = some l → vs = l.map enc
  | [], l, hl => by simp only [decL, Option.some.injEq] at hl; subst hl; rfl
  | v :: vs, l, hl => by
    simp only [decL, Option.bind_eq_some_iff, Option.map_eq_some_iff] at hl
    obtain ⟨a, h1, r, h2, rfl⟩ := hl
    rw [h v a h1, decL_inv dec enc h h2]; rfl

/-! ### weakening -/
theorem Wkn.to (k : Wk) {s s2 : AState} {b : Nat} (hb : k.b = b) (hk : k.ok (idg s.hp) = true) (he : k.st s = s2) : Wkn b s s2 := by
  subst hb; subst he; exact Wkn.of k hk

/-- nothing but slots is forgotten -/
def keepF (ks : List Nat) : Nat → List AV → List AV
  | _, [] => []
  | i, v :: vs => (if memN ks i then v else .any) :: keepF ks (i + 1) vs

theorem keepF_sound {G : Ghost} (ks : List Nat) : ∀ {tm : List AV} {l : List Value} (i : Nat), VRels G tm l → VRels G (keepF ks i tm) l
  | [], l, i, h => by simpa only [keepF, VRels] using h
  | v :: vs, l, i, h => by
    simp only [keepF, VRels] at h ⊢
    obtain ⟨c, cs, h1, h2, h3⟩ := h
    refine ⟨c, cs, h1, ?_, keepF_sound ks (i + 1) h3⟩
    split
    · exact h2
    · simp only [VRel]

theorem Wkn.keep (ks : List Nat) {tm : List AV} {hp : List HEnt} {nx b : Nat} {tm2 : List AV} (he : keepF ks 0 tm = tm2) : Wkn b ⟨tm, hp, nx⟩ ⟨tm2, hp, nx⟩ := fun E hE G a w hs => by
  subst he
  exact ⟨G, keepF_sound ks 0 hs.tm, hs.hp, hs.df, hs.le, hs.kp⟩

section
variable (ks : List Nat) (φ : Nat → Fate) (i n : Nat) (v : AV) (l : List AV)
theorem kF_nil : keepF ks i [] = [] := rfl
theorem kF_t (h : memN ks i = true) : keepF ks i (v :: l) = v :: keepF ks (i + 1) l := by simp [keepF, h]
theorem kF_f (h : memN ks i = false) : keepF ks i (v :: l) = .any :: keepF ks (i + 1) l := by simp [keepF, h]
theorem kT_nil : keepT ks φ i [] = [] := rfl
theorem kT_t (h : memN ks i = true) : keepT ks φ i (v :: l) = sub1 φ v :: keepT ks φ (i + 1) l := by simp [keepT, h]
theorem kT_f (h : memN ks i = false) : keepT ks φ i (v :: l) = .any :: keepT ks φ (i + 1) l := by simp [keepT, h]
theorem mN_nil : memN [] n = false := rfl
theorem mN_eq (r : List Nat) : memN (n :: r) n = true := by simp [memN]
theorem mN_ne (a : Nat) (r : List Nat) (h : (a = n) = False) : memN (a :: r) n = memN r n := by simp [memN, h]
end

/-- 64 bits hold it -/
theorem wrap64 {n : Int} (h1 : -9223372036854775808 ≤ n) (h2 : n ≤ 9223372036854775807) : IntKind.wrap .i64 n = n := by
  unfold IntKind.wrap IntKind.bits IntKind.signed
  simp
  omega

end Eng
