/-
  THE ENGINE, PART S1: rules by which the simplifier runs compiled code. Each by 'rfl', or nearly so.
-/
import Derived.Test.YtjfhhaaogcgkpaaEngZ
namespace Eng
open Go Go.RowKit
set_option linter.unusedSimpArgs false
set_option linter.unusedVariables false

/-! ### what only computes -/
section
variable (x y z : AV) (k : IntKind) (a b : Int) (p q : Bool) (l l' : List AV)
theorem e_mov : evP .mov [x] = some x := rfl
theorem e_pick : evP .pick [x, y, z] = pickV x y z := rfl
theorem e_add : evP (.binI .add) [.int k a, .int k b] = some (.int k (k.wrap (a + b))) := by simp [evP, binIV]
theorem e_sub : evP (.binI .sub) [.int k a, .int k b] = some (.int k (k.wrap (a - b))) := by simp [evP, binIV]
theorem e_mul : evP (.binI .mul) [.int k a, .int k b] = some (.int k (k.wrap (a * b))) := by simp [evP, binIV]
theorem e_quo : evP (.binI .quo) [.int k a, .int k b] = if b = 0 then none else some (.int k (k.wrap (a.tdiv b))) := by simp [evP, binIV]
theorem e_rem : evP (.binI .rem) [.int k a, .int k b] = if b = 0 then none else some (.int k (a.tmod b)) := by simp [evP, binIV]
theorem e_eql : evP (.binI .eql) [.int k a, .int k b] = some (.bool (decide (a = b))) := by simp [evP, binIV]
theorem e_neq : evP (.binI .neq) [.int k a, .int k b] = some (.bool (!decide (a = b))) := by simp [evP, binIV]
theorem e_lss : evP (.binI .lss) [.int k a, .int k b] = some (.bool (decide (a < b))) := by simp [evP, binIV]
theorem e_leq : evP (.binI .leq) [.int k a, .int k b] = some (.bool (decide (a ≤ b))) := by simp [evP, binIV]
theorem e_gtr : evP (.binI .gtr) [.int k a, .int k b] = some (.bool (decide (b < a))) := by simp [evP, binIV]
theorem e_geq : evP (.binI .geq) [.int k a, .int k b] = some (.bool (decide (b ≤ a))) := by simp [evP, binIV]
theorem e_eqB : evP (.eqB false) [.bool p, .bool q] = some (.bool (decide (p = q))) := rfl
theorem e_neB : evP (.eqB true) [.bool p, .bool q] = some (.bool (!decide (p = q))) := rfl
theorem e_eqN (n : NK) : evP (.eqN false n) [x, y] = (eqNV n x y).map fun r => .bool r := rfl
theorem e_neN (n : NK) : evP (.eqN true n) [x, y] = (eqNV n x y).map fun r => .bool !r := rfl
theorem e_eqa (n : List LK) : evP (.eqa false n) [.agg l, .agg l'] = (eqAV n l l').map fun r => .bool r := rfl
theorem e_nea (n : List LK) : evP (.eqa true n) [.agg l, .agg l'] = (eqAV n l l').map fun r => .bool !r := rfl
theorem e_neg : evP .neg [.int k a] = some (.int k (k.wrap (0 - a))) := rfl
theorem e_not : evP .notB [.bool p] = some (.bool !p) := rfl
theorem e_conv (k' : IntKind) : evP (.conv k') [.int k a] = some (.int k' (k'.wrap a)) := rfl
theorem e_build (ps : List (Nat × Nat)) : evP (.build l ps) l' = (buildF l ps l').map .agg := rfl
theorem e_mkfn (f n : Nat) : evP (.mkfn f n) l = some (.fn f (l.take n) (l.drop n)) := rfl
theorem e_faddr (off t esz i j : Nat) : evP (.faddr off) [.ptr t esz i j] = some (.ptr t esz i (j + off)) := rfl
theorem e_faddrV (off i j : Nat) : evP (.faddr off) [.vp l i j] = some (.vp l i (j + off)) := rfl
theorem e_field (off size : Nat) (ag : Bool) : evP (.field off size ag) [.agg l] = segV l off size ag := rfl
theorem e_iaddrS (s : Nat) : evP (.iaddrS s) [x, y] = iaddrSV s x y := rfl
theorem e_iaddrA (n s : Nat) : evP (.iaddrA n s) [x, y] = iaddrAV n s x y := rfl
theorem e_idxA (n s : Nat) (ag : Bool) : evP (.idxA n s ag) [.agg l, .int k a] = if 0 ≤ a ∧ a.toNat < n then segV l (a.toNat * s) s ag else none := rfl
theorem e_ext (i : Nat) : evP (.ext i) [.tup l] = l[i]? := rfl
theorem e_lenT (s : ByteArray) : evP .lenT [.str s] = some (.int .i64 s.size) := rfl
theorem e_lenS (t esz i n : Nat) : evP .lenS [.slice t esz i n] = some (.int .i64 n) := rfl
theorem e_lenV : evP .lenS [.vs l] = some (.int .i64 l.length) := rfl
theorem e_lenN : evP .lenS [.nilslice] = some (.int .i64 0) := rfl
theorem e_lenC (n : Nat) : evP (.lenC n) l = some (.int .i64 n) := rfl
theorem e_min : evP (.mm false) [.int k a, .int k b] = some (.int k (min a b)) := by simp [evP, mmF]
theorem e_max : evP (.mm true) [.int k a, .int k b] = some (.int k (max a b)) := by simp [evP, mmF]
theorem e_nilP (t esz i j : Nat) : evP .nilck [.ptr t esz i j] = some (.ptr t esz i j) := rfl
theorem e_nilV (i j : Nat) : evP .nilck [.vp l i j] = some (.vp l i j) := rfl
theorem e_nilF (f : Nat) : evP .nilck [.fn f l l'] = some (.fn f l l') := rfl
theorem e_nilY (f : Nat) : evP .nilck [.yield f] = some (.yield f) := rfl

theorem ia_slice (s t n i : Nat) : iaddrSV s (.slice t s i n) (.int k a) = if 0 ≤ a ∧ a.toNat < n then some (.ptr t s (i + a.toNat) 0) else none := by simp [iaddrSV]
theorem ia_vs (s : Nat) : iaddrSV s (.vs l) (.int k a) = if 0 ≤ a then obind (l[a.toNat]?) (fun v => if v.cells.length = s then some (.vp l a.toNat 0) else none) else none := rfl
theorem ia_arr (n s t esz i j : Nat) : iaddrAV n s (.ptr t esz i j) (.int k a) = if 0 ≤ a ∧ a.toNat < n then (if esz = s ∧ j = 0 then some (.ptr t esz (i + a.toNat) 0) else some (.ptr t esz i (j + a.toNat * s))) else none := rfl
theorem ia_arrV (n s i j : Nat) : iaddrAV n s (.vp l i j) (.int k a) = if 0 ≤ a ∧ a.toNat < n then some (.vp l i (j + a.toNat * s)) else none := rfl
theorem sg_t (off size : Nat) : segV l off size true = if off + size ≤ l.length then some (.agg ((l.drop off).take size)) else none := rfl
theorem sg_f (off size : Nat) : segV l off size false = l[off]? := rfl
theorem eq_nil : eqAV [] [] [] = some true := rfl
theorem eq_i (n : List LK) : eqAV (.i :: n) (.int k a :: l) (.int k b :: l') = (eqAV n l l').map fun y => decide (a = b) && y := by simp [eqAV, leafAV]
theorem eq_b (n : List LK) : eqAV (.b :: n) (.bool p :: l) (.bool q :: l') = (eqAV n l l').map fun y => decide (p = q) && y := by simp [eqAV, leafAV]
theorem eq_s (n : List LK) (s t : ByteArray) : eqAV (.s :: n) (.str s :: l) (.str t :: l') = (eqAV n l l').map fun y => decide (s = t) && y := by simp [eqAV, leafAV]
theorem bf_nil : buildF l [] [] = some l := rfl
theorem bf_cons (off size : Nat) (ps : List (Nat × Nat)) : buildF l ((off, size) :: ps) (x :: l') = if x.cells.length = size ∧ off + size ≤ l.length ∧ x.cells.all AV.sc = true then buildF (putL l off x.cells) ps l' else none := rfl
theorem cells_int : (AV.int k a).cells = [.int k a] := rfl
theorem cells_bool : (AV.bool p).cells = [.bool p] := rfl
theorem cells_str (s : ByteArray) : (AV.str s).cells = [.str s] := rfl
theorem cells_agg : (AV.agg l).cells = l := rfl
theorem cells_slice (t esz i n : Nat) : (AV.slice t esz i n).cells = [.slice t esz i n] := rfl
theorem cells_vs : (AV.vs l).cells = [.vs l] := rfl
theorem cells_nil : AV.nilslice.cells = [.nilslice] := rfl
theorem cells_ptr (t esz i j : Nat) : (AV.ptr t esz i j).cells = [.ptr t esz i j] := rfl
theorem cells_fn (f : Nat) : (AV.fn f l l').cells = [.fn f l l'] := rfl
theorem sc_int : (AV.int k a).sc = true := rfl
theorem sc_bool : (AV.bool p).sc = true := rfl
theorem sc_str (s : ByteArray) : (AV.str s).sc = true := rfl
theorem sc_agg : (AV.agg l).sc = false := rfl
theorem sc_slice (t esz i n : Nat) : (AV.slice t esz i n).sc = true := rfl
theorem sc_vs : (AV.vs l).sc = true := rfl
theorem sc_nil : AV.nilslice.sc = true := rfl
theorem sc_ptr (t esz i j : Nat) : (AV.ptr t esz i j).sc = true := rfl
theorem sc_fn (f : Nat) : (AV.fn f l l').sc = true := rfl
theorem ag_agg : (AV.agg l).isAgg = true := rfl
theorem ag_int : (AV.int k a).isAgg = false := rfl
theorem ag_bool : (AV.bool p).isAgg = false := rfl

/-! ### slots -/
theorem gt_0 : getT (x :: l) 0 = x := rfl
theorem gt_s (n : Nat) : getT (x :: l) (n + 1) = getT l n := rfl
theorem st_0 : setT (x :: l) 0 y = y :: l := rfl
theorem st_s (n : Nat) : setT (x :: l) (n + 1) y = x :: setT l n y := rfl
theorem ev_t (n : Nat) : evO l (.t n) = getT l n := rfl
theorem ev_c : evO l (.c x) = x := rfl
theorem evs_nil : evs l [] = [] := rfl
theorem evs_cons (o : Opd) (os : List Opd) : evs l (o :: os) = evO l o :: evs l os := rfl
end

/-! ### memory -/
section
variable (hp : List HEnt) (e ty esz g t i j n : Nat) (vals l : List AV) (x v : AV) (blk : ABlk)
theorem ge_eq : getE (⟨t, g, blk⟩ :: hp) t = some ⟨t, g, blk⟩ := by simp [getE]
theorem ge_ne (u : Nat) (h : (t = u) = False) : getE (⟨t, g, blk⟩ :: hp) u = getE hp u := by simp [getE, h]
theorem ge_nil (u : Nat) : getE [] u = none := rfl
theorem sb_nil : setB [] t g blk = [] := rfl
theorem sb_eq (blk' : ABlk) : setB (⟨t, g, blk⟩ :: hp) t g blk' = ⟨t, g, blk'⟩ :: setB hp t g blk' := by simp [setB]
theorem sb_ne (g' : Nat) (blk' : ABlk) (u : Nat) (h : (g = g') = False) : setB (⟨u, g, blk⟩ :: hp) t g' blk' = ⟨u, g, blk⟩ :: setB hp t g' blk' := by simp [setB, h]
theorem sb_gone (blk' : ABlk) (u : Nat) (h : (u = t) = False) : setB (⟨u, g, blk⟩ :: hp) t g blk' = setB hp t g blk' := by simp [setB, h]
theorem dg_nil : dropG [] t g = [] := rfl
theorem dg_eq : dropG (⟨t, g, blk⟩ :: hp) t g = ⟨t, g, blk⟩ :: dropG hp t g := by simp [dropG]
theorem dg_ne (g' : Nat) (u : Nat) (h : (g = g') = False) : dropG (⟨u, g, blk⟩ :: hp) t g' = ⟨u, g, blk⟩ :: dropG hp t g' := by simp [dropG, h]
theorem dg_gone (u : Nat) (h : (u = t) = False) : dropG (⟨u, g, blk⟩ :: hp) t g = dropG hp t g := by simp [dropG, h]

/-- a load out of a found block -/
def ldE (size : Nat) (ag : Bool) (esz i j : Nat) : Option HEnt → Option AV
  | some ⟨_, _, .rows _ esz' vals⟩ => if esz = esz' then rd esz vals i j size ag else none
  | _ => none
theorem ld_ptr (lk : Look) (size : Nat) (ag : Bool) : loadV lk size ag (.ptr t esz i j) = ldE size ag esz i j (lk t) := rfl
theorem ld_vp (lk : Look) (size : Nat) (ag : Bool) : loadV lk size ag (.vp vals i j) = rdV vals i j size ag := rfl
theorem ldE_some (size : Nat) (ag : Bool) : ldE size ag esz i j (some ⟨t, g, .rows ty esz vals⟩) = rd esz vals i j size ag := by simp [ldE]
/-- a cell of a row, or of what there is -/
def rdC (j : Nat) : Option AV → Option AV
  | some v => v.cells[j]?
  | none => none
theorem rd_f (size : Nat) : rd esz vals i j size false = rdC j (vals[i]?) := by unfold rd rdC; cases vals[i]? <;> simp
theorem rdC_some : rdC j (some v) = v.cells[j]? := rfl
def rdA (esz j size : Nat) : Option AV → Option AV
  | some v => if j = 0 ∧ size = esz then (if v.isAgg then some v else none) else some (.agg ((v.cells.drop j).take size))
  | none => none
theorem rd_t (size : Nat) (h : (j + size ≤ esz) = True) : rd esz vals i j size true = rdA esz j size (vals[i]?) := by
  unfold rd rdA
  simp only [if_true, h]
  cases vals[i]? <;> simp
theorem rdA_all (cs : List AV) (size : Nat) : rdA size 0 size (some (.agg cs)) = some (.agg cs) := by simp [rdA, AV.isAgg]
theorem rdA_part (size : Nat) (h : (j = 0 ∧ size = esz) = False) : rdA esz j size (some v) = some (.agg ((v.cells.drop j).take size)) := by simp only [rdA, h, if_false]
def rdW (j size : Nat) (ag : Bool) : Option AV → Option AV
  | some v => if ag then
      if j = 0 ∧ size = v.cells.length then (if v.isAgg then some v else none)
      else if j + size ≤ v.cells.length then some (.agg ((v.cells.drop j).take size)) else none
    else v.cells[j]?
  | none => none
theorem rdV_eq (size : Nat) (ag : Bool) : rdV vals i j size ag = rdW j size ag (vals[i]?) := by unfold rdV rdW; cases vals[i]? <;> rfl
theorem rdW_f (size : Nat) : rdW j size false (some v) = v.cells[j]? := rfl
theorem rdW_all (cs : List AV) (size : Nat) (h : (size = cs.length) = True) : rdW 0 size true (some (.agg cs)) = some (.agg cs) := by simp [rdW, h, AV.isAgg, AV.cells]
theorem rdW_part (size : Nat) (h : (j = 0 ∧ size = v.cells.length) = False) (h' : (j + size ≤ v.cells.length) = True) : rdW j size true (some v) = some (.agg ((v.cells.drop j).take size)) := by simp only [rdW, h, h', if_false, if_true]

/-- a store into a found block -/
def stE (size : Nat) (ag : Bool) (t esz i j : Nat) (x : AV) : Option HEnt → Option Eff
  | some ⟨_, g, .rows e esz' vals⟩ => if esz = esz' then (wr esz vals i j size ag x).map fun vals' => .set t g (.rows e esz vals') else none
  | _ => none
theorem sto_ptr (lk : Look) (size : Nat) (ag : Bool) : storeV lk size ag (.ptr t esz i j) x = stE size ag t esz i j x (lk t) := rfl
def toSet (t g e esz : Nat) (vals : List AV) : Eff := .set t g (.rows e esz vals)
theorem stE_some (size : Nat) (ag : Bool) : stE size ag t esz i j x (some ⟨t, g, .rows ty esz vals⟩) = (wr esz vals i j size ag x).map (toSet t g ty esz) := by simp [stE]; rfl
def wrC (vals : List AV) (i j : Nat) (x : AV) : Option AV → Option (List AV)
  | some (.agg cs) => if j < cs.length then some (vals.set i (.agg (cs.set j x))) else none
  | some v => if j = 0 then some (vals.set i x) else none
  | none => none
end

end Eng
