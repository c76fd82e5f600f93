/-
  THE ENGINE, PART S5: rules for the simplifier: regions whose order is drawn.
-/
import Derived.Test.YtjfhhaaogcgkpaaEngS4
namespace Eng
open Go Go.RowKit
set_option linter.unusedSimpArgs false
set_option linter.unusedVariables false

def gids (hp : List HEnt) (ts : List Nat) : List Nat := ts.filterMap fun t => (getE hp t).map (·.grp)
def consG : Option HEnt → List Nat → List Nat
  | some e, r => e.grp :: r
  | none, r => r
def wS : Option Eff → Option Nat
  | some f => wG f
  | none => none
def wA : Option (AV × Eff) → Option Nat
  | some p => wG p.2
  | none => none
def gtF : List FP → Nat → FP
  | [], _ => ([], none)
  | f :: _, 0 => f
  | _ :: l, n + 1 => gtF l n
def allI (log : List FP) : List (Nat × Nat) → Bool
  | [] => true
  | p :: ps => indep (gtF log p.1) (gtF log p.2) && allI log ps
def chkD (ps : List (Nat × Nat)) : Option (AState × List FP) → Option AState
  | some p => if allI p.2 ps then some p.1 else none
  | none => none
def rlK (cs : Ctx) (os : List AOper) (log : List FP) (f : FP) : Option AState → Option (AState × List FP)
  | some s => runL cs os s (log ++ [f])
  | none => none

theorem gtF_eq : ∀ (l : List FP) (n : Nat), gtF l n = l.getD n ([], none)
  | [], n => by simp [gtF]
  | f :: l, 0 => by simp [gtF]
  | f :: l, n + 1 => by simp [gtF, gtF_eq l n]

theorem allI_eq (log : List FP) : ∀ ps : List (Nat × Nat), allI log ps = ps.all (fun (i, j) => indep (log.getD i ([], none)) (log.getD j ([], none)))
  | [] => rfl
  | (i, j) :: ps => by simp only [allI, List.all_cons, gtF_eq, allI_eq log ps]

section
variable (cs : Ctx) (os : List AOper) (o : AOper) (p : Nat × Nat) (ps : List (Nat × Nat)) (s : AState) (log : List FP) (tm : List AV) (hp : List HEnt) (nx n e esz bytes t g g' : Nat) (ag : Bool) (x a : Opd) (xs : List Opd) (gd : Option (Nat × Bool)) (d : Option Nat) (v : AV) (l vals : List AV) (f : FP) (q : POp)
theorem rd_ps : runD cs os (p :: ps) s = chkD (p :: ps) (runL cs os s []) := by
  simp only [runD, chkD]
  cases runL cs os s [] with
  | none => rfl
  | some r => simp only [Option.bind_some, allI_eq]
theorem rl_nil : runL cs [] s log = some (s, log) := rfl
theorem rl_cons : runL cs (o :: os) s log = rlK cs os log (fpO o s) (step cs o s) := by
  simp only [runL, rlK]
  cases step cs o s <;> rfl
theorem rlK_some : rlK cs os log f (some s) = runL cs os s (log ++ [f]) := rfl
theorem chkD_some : chkD ps (some (s, log)) = if allI log ps then some s else none := rfl
theorem al_nil : allI log [] = true := rfl
theorem al_cons (i j : Nat) : allI log ((i, j) :: ps) = (indep (gtF log i) (gtF log j) && allI log ps) := rfl
theorem gF_0 (fs : List FP) : gtF (f :: fs) 0 = f := rfl
theorem gF_s (fs : List FP) : gtF (f :: fs) (n + 1) = gtF fs n := rfl
theorem id_nn (b c : List Nat) : indep (b, none) (c, none) = true := rfl
theorem mem_memN (b : List Nat) : b.contains n = memN b n := by
  cases h : memN b n with
  | true => simpa using memN_iff.1 h
  | false =>
    have : ¬ n ∈ b := fun x => by rw [memN_iff.2 x] at h; cases h
    simpa using this
theorem id_sn (b c : List Nat) : indep (b, some g) (c, none) = !memN c g := by simp [indep, mem_memN, -List.contains_eq_mem]
theorem id_ns (b c : List Nat) : indep (b, none) (c, some g) = !memN b g := by simp [indep, mem_memN, -List.contains_eq_mem]
theorem id_ss (b c : List Nat) : indep (b, some g) (c, some g') = (!memN c g && !(decide (g' = g)) && !memN b g') := by
  simp only [indep, mem_memN]
  have : (some g' != some g) = !(decide (g' = g)) := by by_cases h : g' = g <;> simp [h, bne]
  rw [this]
theorem f_p : fpO ⟨d, .p q, xs, gd⟩ s = ([], none) := rfl
theorem f_fbs : fpO ⟨d, .fbs n, xs, gd⟩ s = ([], none) := rfl
theorem f_load : fpO ⟨d, .load n ag, xs, gd⟩ ⟨tm, hp, nx⟩ = (gids hp (tidL (evs tm xs)), none) := rfl
theorem f_call : fpO ⟨d, .call n, xs, gd⟩ ⟨tm, hp, nx⟩ = (gids hp (tidL (evs tm xs)), none) := rfl
theorem f_callv : fpO ⟨d, .callv, xs, gd⟩ ⟨tm, hp, nx⟩ = (gids hp (tids .callv (evs tm xs)), none) := rfl
theorem t_callv (m : Nat) (b c : List AV) : tids .callv (.fn m b c :: l) = tidL (b ++ l ++ c) := rfl
theorem f_alloc : fpO ⟨d, .alloc e esz vals, [], gd⟩ ⟨tm, hp, nx⟩ = ([], some nx) := rfl
theorem f_boxF (h : (evO tm x).sc = true) : fpO ⟨d, .box e 1 1 false, [x], gd⟩ ⟨tm, hp, nx⟩ = ([], some nx) := by
  simp [fpO, tids, AOp.isEff, evs, effOp, h, wG]
theorem f_bsl (h : (evs tm xs).all (fun v => decide (v.cells.length = esz) && v.cells.all AV.sc) = true) : fpO ⟨d, .bsl e esz, xs, gd⟩ ⟨tm, hp, nx⟩ = ([], some nx) := by
  simp only [fpO, tids, AOp.isEff, if_true, effOp, h, Option.bind_some, wG, List.filterMap_nil]
theorem f_store : fpO ⟨d, .store n ag, [a, x], gd⟩ ⟨tm, hp, nx⟩ = (gids hp (tidL [evO tm a, evO tm x]), wS (storeV (getE hp) n ag (evO tm a) (evO tm x))) := by
  simp only [fpO, tids, AOp.isEff, if_true, effOp, evs, gids]
  cases storeV (getE hp) n ag (evO tm a) (evO tm x) <;> rfl
theorem f_app : fpO ⟨d, .app e esz bytes, [a, x], gd⟩ ⟨tm, hp, nx⟩ = (gids hp (tidL [evO tm a, evO tm x]), wA (appV (getE hp) nx e esz bytes (evO tm a) (evO tm x))) := by
  simp only [fpO, tids, AOp.isEff, if_true, effOp, evs, gids]
  cases appV (getE hp) nx e esz bytes (evO tm a) (evO tm x) <;> rfl
theorem wS_set (ty : Nat) : wS (some (toSet t g ty esz vals)) = some g := rfl
theorem wA_no : wA (some (v, .no)) = none := rfl
theorem wA_new (blk : ABlk) (i : Nat) : wA (some (v, .new ⟨i, g, blk⟩)) = some g := rfl
theorem wA_ext (en : HEnt) : wA (some (v, .ext t g en)) = some g := rfl
theorem gi_nil : gids hp [] = [] := rfl
theorem gi_cons (ts : List Nat) : gids hp (t :: ts) = consG (getE hp t) (gids hp ts) := by
  simp only [gids, List.filterMap_cons]
  cases getE hp t <;> rfl
theorem cG_some (i : Nat) (blk : ABlk) (r : List Nat) : consG (some ⟨i, g, blk⟩) r = g :: r := rfl
theorem cG_none (r : List Nat) : consG none r = r := rfl
theorem tl_nil : tidL [] = [] := rfl
theorem tl_ptr (i j : Nat) : tidL (.ptr t esz i j :: l) = t :: tidL l := rfl
theorem tl_slice (i j : Nat) : tidL (.slice t esz i j :: l) = t :: tidL l := rfl
theorem tl_int (k : IntKind) (m : Int) : tidL (.int k m :: l) = tidL l := rfl
theorem tl_bool (b : Bool) : tidL (.bool b :: l) = tidL l := rfl
theorem tl_str (b : ByteArray) : tidL (.str b :: l) = tidL l := rfl
theorem tl_agg : tidL (.agg vals :: l) = tidL l := rfl
theorem tl_tup : tidL (.tup vals :: l) = tidL l := rfl
theorem tl_vs : tidL (.vs vals :: l) = tidL l := rfl
theorem tl_vp (i j : Nat) : tidL (.vp vals i j :: l) = tidL l := rfl
theorem tl_fn (i : Nat) (b c : List AV) : tidL (.fn i b c :: l) = tidL l := rfl
theorem g_u (want : Bool) : gbool want (.tup []) = some false := by cases want <;> rfl
theorem tl_nils : tidL (.nilslice :: l) = tidL l := rfl
end
end Eng
