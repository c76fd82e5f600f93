/-
THE ENGINE, PART S4: code with a stack of what comes behind it, so that nothing is told twice.
THE ENGINE, PART S5: rules for the simplifier: regions whose order is drawn.
THE ENGINE, PART S6: loops over functions: each round shares the heap alone with the activation.
-/
import Derived.Test.YtabkbhpeeefmgaaEngS3
import Derived.LoopNIn
namespace Eng
open Go Go.RowKit
set_option linter.unusedSimpArgs false
set_option linter.unusedVariables false

inductive Fr where
  | th (y : AC)
  | bl (id : Nat)
  | pr (f : AState → Prop)

section
variable (P : Program) (cs : Ctx) (hx : HCtx) (b : Nat)

def unw : List Fr → Post → Post
  | [], K => K
  | .th y :: st, K => eThen (AW P cs hx b y (unw st K)) (unw st K)
  | .bl id :: st, K => eBlk id (unw st K)
  | .pr f :: st, K => eThen f (unw st K)

def W (x : AC) (st : List Fr) (K : Post) (s : AState) : Prop := AW P cs hx b x (unw P cs hx b st K) s
def R (e : Exit) (st : List Fr) (K : Post) (s : AState) : Prop := unw P cs hx b st K e s
/-- on with what comes behind, if there is a state -/
def RN (st : List Fr) (K : Post) : Option AState → Prop := okN (unw P cs hx b st K .normal)
def CV (x y : AC) (st : List Fr) (K : Post) (s : AState) : AV → Prop := condV (W P cs hx b x st K) (W P cs hx b y st K) s

variable (x y : AC) (st : List Fr) (K : Post) (s : AState) (tm : List AV) (hp : List HEnt) (nx i j : Nat) (os : List AOper) (ps : List (Nat × Nat)) (c : Opd) (f : AState → Prop)
theorem W_skip : W P cs hx b .skip st K s = R P cs hx b .normal st K s := rfl
theorem W_ops : W P cs hx b (.ops false [] os) st K s = RN P cs hx b st K (runH cs hx os s) := rfl
theorem W_opsD : W P cs hx b (.ops true ps os) st K s = RN P cs hx b st K (runD cs os ps s) := rfl
theorem W_seq : W P cs hx b (.seq x y) st K s = W P cs hx b x (.th y :: st) K s := rfl
theorem W_cond : W P cs hx b (.cond c x y) st K ⟨tm, hp, nx⟩ = CV P cs hx b x y st K ⟨tm, hp, nx⟩ (evO tm c) := rfl
theorem W_block : W P cs hx b (.block i x) st K s = W P cs hx b x (.bl i :: st) K s := rfl
theorem W_exit : W P cs hx b (.exit i) st K s = R P cs hx b (.exit i) st K s := rfl
theorem W_bad : W P cs hx b .bad st K s = False := rfl
theorem W_ret : W P cs hx b .ret st K s = R P cs hx b .ret st K s := rfl
theorem W_loop : W P cs hx b (.loop x) st K s = Cor P (YH P hx) b (.loop x) (unw P cs hx b st K) s := rfl
theorem W_rf (ps' : List Nat) : W P cs hx b (.rf c ps' x y) st K s = Cor P (YH P hx) b (.rf c ps' x y) (unw P cs hx b st K) s := rfl
theorem RN_some : RN P cs hx b st K (some s) = R P cs hx b .normal st K s := rfl
theorem R_nil (e : Exit) : R P cs hx b e [] K s = K e s := rfl
theorem R_nth : R P cs hx b .normal (.th y :: st) K s = W P cs hx b y st K s := rfl
theorem R_nbl : R P cs hx b .normal (.bl i :: st) K s = R P cs hx b .normal st K s := rfl
theorem R_npr : R P cs hx b .normal (.pr f :: st) K s = f s := rfl
theorem R_rth : R P cs hx b .ret (.th y :: st) K s = R P cs hx b .ret st K s := rfl
theorem R_rbl : R P cs hx b .ret (.bl i :: st) K s = R P cs hx b .ret st K s := rfl
theorem R_rpr : R P cs hx b .ret (.pr f :: st) K s = R P cs hx b .ret st K s := rfl
theorem R_eth : R P cs hx b (.exit j) (.th y :: st) K s = R P cs hx b (.exit j) st K s := rfl
theorem R_epr : R P cs hx b (.exit j) (.pr f :: st) K s = R P cs hx b (.exit j) st K s := rfl
theorem R_ebl : R P cs hx b (.exit i) (.bl i :: st) K s = R P cs hx b .normal st K s := by simp [R, unw, eBlk]
theorem R_ebn (h : (j = i) = False) : R P cs hx b (.exit j) (.bl i :: st) K s = R P cs hx b (.exit j) st K s := by simp [R, unw, eBlk, h]
theorem CV_t : CV P cs hx b x y st K s (.bool true) = W P cs hx b x st K s := by simp [CV, condV]
theorem CV_f : CV P cs hx b x y st K s (.bool false) = W P cs hx b y st K s := by simp [CV, condV]
theorem CV_d (q : Prop) [Decidable q] : CV P cs hx b x y st K s (.bool (decide q)) = ((q → W P cs hx b x st K s) ∧ (¬ q → W P cs hx b y st K s)) := by
  by_cases h : q <;> simp [CV, condV, h]
theorem CV_n (p : Bool) : CV P cs hx b x y st K s (.bool (!p)) = CV P cs hx b y x st K s (.bool p) := by cases p <;> simp [CV, condV]
/-- a branch on any truth value -/
theorem CV_b (p : Bool) : CV P cs hx b x y st K s (.bool p) = ((p = true → W P cs hx b x st K s) ∧ (p = false → W P cs hx b y st K s)) := rfl
end

theorem h_callvg (cs : Ctx) (hx : HCtx) (dst : Option Nat) (xs : List Opd) (gd : Nat × Bool) (s : AState) : stepH cs hx ⟨dst, .callv, xs, some gd⟩ s = step cs ⟨dst, .callv, xs, some gd⟩ s := by
  simp only [stepH]
  cases target AOp.callv (evs s.tm xs) <;> rfl

theorem Cor.run {P : Program} {cs : Ctx} {hx : HCtx} {b : Nat} (hcs : Good P cs) (hh : HGood P hx) (hm : P.follows .mixedOrders = true) {x : AC} {K : Post} {s : AState} (h : W P cs hx b x [] K s) : Cor P (YH P hx) b x K s := Cor.of hcs hh hm h

/-- THE LOOP: at the head of round a the state is S a. -/
theorem Cor.lp {P : Program} {cs : Ctx} {hx : HCtx} {b : Nat} (hcs : Good P cs) (hh : HGood P hx) (hm : P.follows .mixedOrders = true) {y : AC} {st : List Fr} {K : Post} {α : Type} (S : α → AState) (I : α → Prop) (μ : α → Nat)
    {a : α} (h0 : I a) {s : AState} (hw : Wkn b s (S a))
    (step : ∀ (f : AState → Prop) (a : α), I a → (∀ (s' : AState) (a' : α), I a' → μ a' < μ a → Wkn b s' (S a') → f s') → W P cs hx b y (.pr f :: st) K (S a)) : Cor P (YH P hx) b (.loop y) (unw P cs hx b st K) s :=
  Cor.loop hcs hh hm S I μ (fun a ha => step _ a ha fun s' a' h1 h2 h3 => ⟨a', h1, h2, h3⟩) h0 hw

/-! ### loops of few rounds -/
def Rd (P : Program) (cs : Ctx) (hx : HCtx) (b : Nat) (y : AC) (st : List Fr) (K : Post) : Nat → AState → Prop
  | 0, _ => False
  | m + 1, s => W P cs hx b y (.pr (Rd P cs hx b y st K m) :: st) K s
theorem Rd_s (P : Program) (cs : Ctx) (hx : HCtx) (b : Nat) (y : AC) (st : List Fr) (K : Post) (m : Nat) (s : AState) : Rd P cs hx b y st K (m + 1) s = W P cs hx b y (.pr (Rd P cs hx b y st K m) :: st) K s := rfl

theorem Cor.rounds {P : Program} {cs : Ctx} {hx : HCtx} {b : Nat} (hcs : Good P cs) (hh : HGood P hx) (hm : P.follows .mixedOrders = true) {y : AC} {st : List Fr} {K : Post} {s : AState} (m : Nat) (h : Rd P cs hx b y st K m s) : Cor P (YH P hx) b (.loop y) (unw P cs hx b st K) s := fun c hc => by
  obtain ⟨d, rfl, hd⟩ := compC_loop hc
  intro r n E hE hr hyy G a w hs
  refine wpIn_loop_rounds m ?_
  induction m generalizing s G a w with
  | zero => exact h.elim
  | succ m ih =>
    refine wpIn_mono (AW_sound (q := false) hcs hh hm (fun e => by cases e) d hd (fun e => by cases e) h r n E hE hr hyy G a w hs) ?_
    rintro e a' w' ⟨s', G', h1, h2⟩
    cases e with
    | normal => exact ih h1 G' a' w' h2
    | _ => exact ⟨s', G', h1, h2⟩

/-! conditions -/
theorem d_and (p q : Prop) [Decidable p] [Decidable q] : (decide p && decide q) = decide (p ∧ q) := by by_cases hp : p <;> by_cases hq : q <;> simp [hp, hq]
theorem d_or (p q : Prop) [Decidable p] [Decidable q] : (decide p || decide q) = decide (p ∨ q) := by by_cases hp : p <;> by_cases hq : q <;> simp [hp, hq]
theorem d_not (p : Prop) [Decidable p] : (!decide p) = decide (¬ p) := by by_cases hp : p <;> simp [hp]
theorem pk_and (p q : Prop) [Decidable p] [Decidable q] : pickV (.bool (decide p)) (optv (decide p) (.bool (decide q))) (.bool false) = some (.bool (decide (p ∧ q))) := by rw [pickV_and, d_and]
theorem pk_or (p q : Prop) [Decidable p] [Decidable q] : pickV (.bool (decide p)) (.bool true) (optv (decide (¬ p)) (.bool (decide q))) = some (.bool (decide (p ∨ q))) := by rw [← d_not, pickV_or, d_or]
theorem pk_orn (p q : Prop) [Decidable p] [Decidable q] : pickV (.bool (decide (¬ p))) (.bool true) (optv (decide p) (.bool (decide q))) = some (.bool (decide (¬ p ∨ q))) := by
  by_cases hp : p <;> by_cases hq : q <;> simp [hp, hq, pickV, optv]
theorem d_nn (p : Prop) [Decidable p] : decide (¬ ¬ p) = decide p := by by_cases hp : p <;> simp [hp]

/-! whole arrays -/
theorem rd_w (esz size : Nat) (vals : List AV) (h1 : (size ≤ esz) = False) (h2 : (size = vals.length * esz) = True) : rd esz vals 0 0 size true = some (.agg (flat vals)) := by
  have h3 : ¬ size = esz := fun e => by rw [e] at h1; simp at h1
  simp [rd, h1, h2, h3]
theorem wr_w (esz size : Nat) (vals l : List AV) (h1 : (size ≤ esz) = False) (h2 : (size = vals.length * esz) = True) (h3 : (l.length = size) = True) (h4 : l.all AV.sc = true) : wr esz vals 0 0 size true (.agg l) = some (rowsOf esz vals.length l) := by
  have h5 : ¬ size = esz := fun e => by rw [e] at h1; simp at h1
  simp only [wr, if_true, h3, h4, and_self, Nat.zero_add, h1, h2, h5, and_false, if_false]
theorem ro_one (n : Nat) (l : List AV) : rowsOf 1 n l = l := rfl
theorem fl_nil : flat [] = [] := rfl
theorem fl_cons (v : AV) (l : List AV) : flat (v :: l) = v.cells ++ flat l := rfl
theorem flat_I : ∀ l : List Int, flat (l.map I) = l.map I
  | [] => rfl
  | x :: l => by rw [List.map_cons, fl_cons, flat_I l]; rfl

/-- numerals need no wrapping -/
theorem wrapL {n : Int} (h1 : (-9223372036854775808 ≤ n) = True) (h2 : (n ≤ 9223372036854775807) = True) : IntKind.wrap .i64 n = n := wrap64 (by rw [h1]; trivial) (by rw [h2]; trivial)

end Eng

namespace Eng
open Go Go.RowKit
set_option linter.unusedSimpArgs false
set_option linter.unusedVariables false

def gids (hp : List HEnt) (ts : List Nat) : List Nat := ts.filterMap fun t => (getE hp t).map (·.grp)
def consG : Option HEnt → List Nat → List Nat
  | some e, r => e.grp :: r
  | none, r => r
def wS : Option Eff → Option Nat
  | some f => wG f
  | none => none
def wA : Option (AV × Eff) → Option Nat
  | some p => wG p.2
  | none => none
def gtF : List FP → Nat → FP
  | [], _ => ([], none)
  | f :: _, 0 => f
  | _ :: l, n + 1 => gtF l n
def allI (log : List FP) : List (Nat × Nat) → Bool
  | [] => true
  | p :: ps => indep (gtF log p.1) (gtF log p.2) && allI log ps
def chkD (ps : List (Nat × Nat)) : Option (AState × List FP) → Option AState
  | some p => if allI p.2 ps then some p.1 else none
  | none => none
def rlK (cs : Ctx) (os : List AOper) (log : List FP) (f : FP) : Option AState → Option (AState × List FP)
  | some s => runL cs os s (log ++ [f])
  | none => none

theorem gtF_eq : ∀ (l : List FP) (n : Nat), gtF l n = l.getD n ([], none)
  | [], n => by simp [gtF]
  | f :: l, 0 => by simp [gtF]
  | f :: l, n + 1 => by simp [gtF, gtF_eq l n]

theorem allI_eq (log : List FP) : ∀ ps : List (Nat × Nat), allI log ps = ps.all (fun (i, j) => indep (log.getD i ([], none)) (log.getD j ([], none)))
  | [] => rfl
  | (i, j) :: ps => by simp only [allI, List.all_cons, gtF_eq, allI_eq log ps]

section
variable (cs : Ctx) (os : List AOper) (o : AOper) (p : Nat × Nat) (ps : List (Nat × Nat)) (s : AState) (log : List FP) (tm : List AV) (hp : List HEnt) (nx n e esz bytes t g g' : Nat) (ag : Bool) (x a : Opd) (xs : List Opd) (gd : Option (Nat × Bool)) (d : Option Nat) (v : AV) (l vals : List AV) (f : FP) (q : POp)
theorem rd_ps : runD cs os (p :: ps) s = chkD (p :: ps) (runL cs os s []) := by
  simp only [runD, chkD]
  cases runL cs os s [] with
  | none => rfl
  | some r => simp only [Option.bind_some, allI_eq]
theorem rl_nil : runL cs [] s log = some (s, log) := rfl
theorem rl_cons : runL cs (o :: os) s log = rlK cs os log (fpO o s) (step cs o s) := by
  simp only [runL, rlK]
  cases step cs o s <;> rfl
theorem rlK_some : rlK cs os log f (some s) = runL cs os s (log ++ [f]) := rfl
theorem chkD_some : chkD ps (some (s, log)) = if allI log ps then some s else none := rfl
theorem al_nil : allI log [] = true := rfl
theorem al_cons (i j : Nat) : allI log ((i, j) :: ps) = (indep (gtF log i) (gtF log j) && allI log ps) := rfl
theorem gF_0 (fs : List FP) : gtF (f :: fs) 0 = f := rfl
theorem gF_s (fs : List FP) : gtF (f :: fs) (n + 1) = gtF fs n := rfl
theorem id_nn (b c : List Nat) : indep (b, none) (c, none) = true := rfl
theorem mem_memN (b : List Nat) : b.contains n = memN b n := by
  cases h : memN b n with
  | true => simpa using memN_iff.1 h
  | false =>
    have : ¬ n ∈ b := fun x => by rw [memN_iff.2 x] at h; cases h
    simpa using this
theorem id_sn (b c : List Nat) : indep (b, some g) (c, none) = !memN c g := by simp [indep, mem_memN, -List.contains_eq_mem]
theorem id_ns (b c : List Nat) : indep (b, none) (c, some g) = !memN b g := by simp [indep, mem_memN, -List.contains_eq_mem]
theorem id_ss (b c : List Nat) : indep (b, some g) (c, some g') = (!memN c g && !(decide (g' = g)) && !memN b g') := by
  simp only [indep, mem_memN]
  have : (some g' != some g) = !(decide (g' = g)) := by by_cases h : g' = g <;> simp [h, bne]
  rw [this]
theorem f_p : fpO ⟨d, .p q, xs, gd⟩ s = ([], none) := rfl
theorem f_fbs : fpO ⟨d, .fbs n, xs, gd⟩ s = ([], none) := rfl
theorem f_load : fpO ⟨d, .load n ag, xs, gd⟩ ⟨tm, hp, nx⟩ = (gids hp (tidL (evs tm xs)), none) := rfl
theorem f_call : fpO ⟨d, .call n, xs, gd⟩ ⟨tm, hp, nx⟩ = (gids hp (tidL (evs tm xs)), none) := rfl
theorem f_callv : fpO ⟨d, .callv, xs, gd⟩ ⟨tm, hp, nx⟩ = (gids hp (tids .callv (evs tm xs)), none) := rfl
theorem t_callv (m : Nat) (b c : List AV) : tids .callv (.fn m b c :: l) = tidL (b ++ l ++ c) := rfl
theorem f_alloc : fpO ⟨d, .alloc e esz vals, [], gd⟩ ⟨tm, hp, nx⟩ = ([], some nx) := rfl
theorem f_boxF (h : (evO tm x).sc = true) : fpO ⟨d, .box e 1 1 false, [x], gd⟩ ⟨tm, hp, nx⟩ = ([], some nx) := by
  simp [fpO, tids, AOp.isEff, evs, effOp, h, wG]
theorem f_bsl (h : (evs tm xs).all (fun v => decide (v.cells.length = esz) && v.cells.all AV.sc) = true) : fpO ⟨d, .bsl e esz, xs, gd⟩ ⟨tm, hp, nx⟩ = ([], some nx) := by
  simp only [fpO, tids, AOp.isEff, if_true, effOp, h, Option.bind_some, wG, List.filterMap_nil]
theorem f_store : fpO ⟨d, .store n ag, [a, x], gd⟩ ⟨tm, hp, nx⟩ = (gids hp (tidL [evO tm a, evO tm x]), wS (storeV (getE hp) n ag (evO tm a) (evO tm x))) := by
  simp only [fpO, tids, AOp.isEff, if_true, effOp, evs, gids]
  cases storeV (getE hp) n ag (evO tm a) (evO tm x) <;> rfl
theorem f_app : fpO ⟨d, .app e esz bytes, [a, x], gd⟩ ⟨tm, hp, nx⟩ = (gids hp (tidL [evO tm a, evO tm x]), wA (appV (getE hp) nx e esz bytes (evO tm a) (evO tm x))) := by
  simp only [fpO, tids, AOp.isEff, if_true, effOp, evs, gids]
  cases appV (getE hp) nx e esz bytes (evO tm a) (evO tm x) <;> rfl
theorem wS_set (ty : Nat) : wS (some (toSet t g ty esz vals)) = some g := rfl
theorem wA_no : wA (some (v, .no)) = none := rfl
theorem wA_new (blk : ABlk) (i : Nat) : wA (some (v, .new ⟨i, g, blk⟩)) = some g := rfl
theorem wA_ext (en : HEnt) : wA (some (v, .ext t g en)) = some g := rfl
theorem gi_nil : gids hp [] = [] := rfl
theorem gi_cons (ts : List Nat) : gids hp (t :: ts) = consG (getE hp t) (gids hp ts) := by
  simp only [gids, List.filterMap_cons]
  cases getE hp t <;> rfl
theorem cG_some (i : Nat) (blk : ABlk) (r : List Nat) : consG (some ⟨i, g, blk⟩) r = g :: r := rfl
theorem cG_none (r : List Nat) : consG none r = r := rfl
theorem tl_nil : tidL [] = [] := rfl
theorem tl_ptr (i j : Nat) : tidL (.ptr t esz i j :: l) = t :: tidL l := rfl
theorem tl_slice (i j : Nat) : tidL (.slice t esz i j :: l) = t :: tidL l := rfl
theorem tl_int (k : IntKind) (m : Int) : tidL (.int k m :: l) = tidL l := rfl
theorem tl_bool (b : Bool) : tidL (.bool b :: l) = tidL l := rfl
theorem tl_str (b : ByteArray) : tidL (.str b :: l) = tidL l := rfl
theorem tl_agg : tidL (.agg vals :: l) = tidL l := rfl
theorem tl_tup : tidL (.tup vals :: l) = tidL l := rfl
theorem tl_vs : tidL (.vs vals :: l) = tidL l := rfl
theorem tl_vp (i j : Nat) : tidL (.vp vals i j :: l) = tidL l := rfl
theorem tl_fn (i : Nat) (b c : List AV) : tidL (.fn i b c :: l) = tidL l := rfl
theorem g_u (want : Bool) : gbool want (.tup []) = some false := by cases want <;> rfl
theorem tl_nils : tidL (.nilslice :: l) = tidL l := rfl
end
end Eng

namespace Eng
open Go Go.RowKit
set_option linter.unusedSimpArgs false
set_option linter.unusedVariables false

/-- how a round ends: on with the next one, or the loop is left -/
inductive Jk where
  | nx
  | ret
  | ex (id : Nat)
def Jk.cont : Jk → Bool
  | .nx => true
  | _ => false
def Jk.code : Jk → Option Code
  | .nx => none
  | .ret => some .ret
  | .ex id => some (.exit id)
def Jk.exit : Jk → Exit
  | .nx => .normal
  | .ret => .ret
  | .ex id => .exit id

/-- the calls of yield, one after the other, until one says false -/
def Drv (hx : HCtx) (t : Nat) : List HEnt → Nat → List (List AV) → List HEnt → Nat → Prop
  | hp, N, [], fin, M => fin = hp ∧ M = N
  | hp, N, v :: vs, fin, M => ∃ b hp' N', hx 987654321 (.yield t :: v) hp N = some (.bool b, hp', N') ∧ (b = true → Drv hx t hp' N' vs fin M) ∧ (b = false → fin = hp' ∧ M = N')

/-- The function f, with what is bound to it, hands seq to yield, one after the other, until yield says false; nothing else is turned. -/
def SeqOk (P : Program) (f : Nat) (first cap : List AV) (seq : List (List AV)) : Prop :=
  ∀ (hx : HCtx) (t N M : Nat) (hp fin : List HEnt), t < N → (∀ g vals h n, (g = 987654321) = False → hx g vals h n = none) → Drv hx t hp N seq fin M →
    LOkY (YH P hx) P f (first ++ [.yield t] ++ cap) hp N fun v h n => h = fin ∧ n = M

theorem HGood_y {P : Program} {hx : HCtx} (h : ∀ g vals h n, (g = 987654321) = False → hx g vals h n = none) : HGood P hx := fun f vals hp nx v hp' nx' hf hv => by
  rw [h f vals hp nx (by simpa using hf)] at hv; cases hv

section
variable {β : Type} (st : β → List AV → β × Jk)
/-- what all rounds together come to -/
def foldS : β → List (List AV) → β × Jk
  | x, [] => (x, .nx)
  | x, v :: vs => if (st x v).2.cont then foldS (st x v).1 vs else st x v
end

/-- a new block of any kind -/
theorem HRel.allocO {G : Ghost} {M : HEnt → Prop} {fr : Nat → Prop} {w : World} (h : HRel G M fr w) (id : Nat) (hid : fr id) (o : Obj) :
    HRel (G.put id ⟨w.heap.size, 1, 0⟩) (effM (.new ⟨id, id, .obj o⟩) M) (fun t => fr t ∧ t ≠ id) (w.alloc o) := by
  have hn : G.ι id = none := h.fresh id hid
  have hle : G.le (G.put id ⟨w.heap.size, 1, 0⟩) := Ghost.le_put hn
  have hw : ∀ r, r < w.heap.size → (w.heap.push o)[r]? = w.heap[r]? := fun r hr => by
    rw [Array.getElem?_push, if_neg (Nat.ne_of_lt hr)]
  have hold : ∀ x, M x → x.id ≠ id := fun x hx e => by
    obtain ⟨l, h1, _⟩ := h.ent x hx
    rw [e, hn] at h1; cases h1
  have hput : ∀ x, M x → (G.put id ⟨w.heap.size, 1, 0⟩).ι x.id = G.ι x.id := fun x hx => by simp [Ghost.put, hold x hx]
  have hnew : (G.put id ⟨w.heap.size, 1, 0⟩).ι id = some ⟨w.heap.size, 1, 0⟩ := by simp [Ghost.put]
  refine ⟨fun r o hr => ?_, fun x hx => ?_, fun x y hx hy hne l l' hl hl' => ?_, fun t ht => ?_, fun x y hx hy hxy => ?_, fun x hx l1 hl1 => ?_, fun r hr => ?_, fun r hr => ⟨(h.lo r hr).1, (hw r (h.sz r hr)).trans (h.lo r hr).2⟩⟩
  · have := h.ro r o hr
    show (w.heap.push _)[r]? = _
    rw [hw r (Array.getElem?_eq_some_iff.1 this).1]; exact this
  · rcases hx with hx | rfl
    · obtain ⟨l, h2, h3, h4, h5⟩ := h.ent x hx
      exact ⟨l, hle.ι _ _ h2, (h3.mono hle).world (hw _ h3.lt), h4, fun x => h5 x.1⟩
    · refine ⟨_, hnew, World.alloc_heap_new w o, ?_, fun x => x.2 rfl⟩
      cases hro : G.ro w.heap.size with
      | none => exact hro
      | some o => have := h.ro _ _ hro; simp at this
  · rcases hx with hx | rfl <;> rcases hy with hy | rfl
    · rw [hput x hx] at hl
      rw [hput y hy] at hl'
      exact h.sep x y hx hy hne l l' hl hl'
    · obtain ⟨l2, h2, h3, _⟩ := h.ent x hx
      rw [hput x hx, h2] at hl
      rw [hnew] at hl'
      cases hl; cases hl'
      exact Nat.ne_of_lt h3.lt
    · obtain ⟨l2, h2, h3, _⟩ := h.ent y hy
      rw [hput y hy, h2] at hl'
      rw [hnew] at hl
      cases hl; cases hl'
      exact (Nat.ne_of_lt h3.lt).symm
    · exact (hne rfl).elim
  · simp only [Ghost.put, ht.2, if_false]
    exact h.fresh t ht.1
  · rcases hx with hx | rfl <;> rcases hy with hy | rfl
    · exact h.uniq x y hx hy hxy
    · exact absurd hxy (hold x hx)
    · exact absurd hxy.symm (hold y hy)
    · rfl
  · rcases hx with hx | rfl
    · rw [hput x hx] at hl1; exact h.own x hx l1 hl1
    · rw [hnew] at hl1; cases hl1; exact fun x => absurd (h.sz _ x) (Nat.lt_irrefl _)
  · show r < (w.heap.push _).size
    rw [Array.size_push]; exact Nat.lt_succ_of_lt (h.sz r hr)

/-- a new block that is not written any more -/
def Ghost.lay (G : Ghost) (D : Nat) (o : Obj) : Ghost := { G with ro := fun r => if r = D then some o else G.ro r }

theorem HRel.lay {G : Ghost} {M : HEnt → Prop} {fr : Nat → Prop} {w : World} (h : HRel G M fr w) (o : Obj) : HRel (G.lay w.heap.size o) M fr (w.alloc o) ∧ G.le (G.lay w.heap.size o) := by
  have hw : ∀ r, r < w.heap.size → (w.heap.push o)[r]? = w.heap[r]? := fun r hr => by
    rw [Array.getElem?_push, if_neg (Nat.ne_of_lt hr)]
  have hle : G.le (G.lay w.heap.size o) := ⟨⟨fun _ _ h => h, fun r o' hr => by
    have := (Array.getElem?_eq_some_iff.1 (h.ro r o' hr)).1
    simp only [Ghost.lay, if_neg (Nat.ne_of_lt this)]; exact hr⟩, rfl⟩
  refine ⟨⟨fun r o' hr => ?_, fun x hx => ?_, h.sep, h.fresh, h.uniq, h.own, fun r hr => ?_, fun r hr => ?_⟩, hle⟩
  · simp only [Ghost.lay] at hr
    split at hr
    · rename_i e; cases hr; rw [e]; exact World.alloc_heap_new w o
    · have := h.ro r o' hr
      show (w.heap.push o)[r]? = _
      rw [hw r (Array.getElem?_eq_some_iff.1 this).1]; exact this
  · obtain ⟨l, h2, h3, h4, h5⟩ := h.ent x hx
    refine ⟨l, h2, (h3.mono hle).world (hw _ h3.lt), ?_, h5⟩
    simp only [Ghost.lay, if_neg (Nat.ne_of_lt h3.lt)]; exact h4
  · show r < (w.heap.push _).size
    rw [Array.size_push]; exact Nat.lt_succ_of_lt (h.sz r hr)
  · have := h.sz r hr
    refine ⟨?_, (hw r this).trans (h.lo r hr).2⟩
    simp only [Ghost.lay, if_neg (Nat.ne_of_lt this)]
    exact (h.lo r hr).1

/-- the record turns -/
theorem HRel.turn {G : Ghost} {hp : List HEnt} {fr : Nat → Prop} {w : World} (h : HRel G (· ∈ hp) fr w) {t : Nat} {o : Obj} (he : getE hp t = some ⟨t, t, .obj o⟩) {l : Loc} (hι : G.ι t = some l) (o' : Obj) :
    HRel G (· ∈ Eng.setB hp t t (.obj o')) fr (w.putObj l.b o') ∧ w.heap[l.b]? = some o := by
  have hm := (getE_mem he).1
  obtain ⟨l', h1, h2, _⟩ := h.ent _ hm
  simp only at h1
  rw [hι] at h1; cases h1
  refine ⟨(h.setB (e := ⟨t, t, .obj o⟩) hm hι (k := .obj o') (fun r hr => World.putObj_heap_other hr) (by rw [World.putObj_size]; exact Nat.le_refl _) (World.putObj_heap_same h2.lt)).sub (fun e he => ?_) (fun _ h => h), h2⟩
  exact mem_setB he

theorem setB_free {t : Nat} {k : ABlk} : ∀ {h : List HEnt}, (∀ e ∈ h, e.grp ≠ t) → Eng.setB h t t k = h
  | [], _ => rfl
  | e :: r, h => by
    simp only [Eng.setB]
    rw [if_neg (h e (by simp)), setB_free fun e' he => h e' (by simp [he])]

/-- yield's arguments in the parameters -/
def setPs : List AV → List Nat → List AV → List AV
  | tm, p :: ps, v :: vs => setPs (setT tm p v) ps vs
  | tm, _, _ => tm

theorem setPs_sound {G : Ghost} : ∀ (ps : List Nat) (vals : List AV) (tm : List AV) (tmps : Array Value) (cvals : List Value), VRels G tm tmps.toList → VRels G vals cvals →
    VRels G (setPs tm ps vals) ((ps.zip cvals).foldl (fun (tm : Array Value) (x : Nat × Value) => tm.setIfInBounds x.1 x.2) tmps).toList
  | [], vals, tm, tmps, cvals, h, hv => by simpa [setPs] using h
  | p :: ps, [], tm, tmps, cvals, h, hv => by simp only [VRels] at hv; subst hv; simpa [setPs] using h
  | p :: ps, v :: vs, tm, tmps, cvals, h, hv => by
    simp only [VRels] at hv
    obtain ⟨c, cs, rfl, h1, h2⟩ := hv
    simp only [setPs, List.zip_cons_cons, List.foldl_cons]
    refine setPs_sound ps vs _ _ cs ?_ h2
    rw [setT_eq, Array.toList_setIfInBounds]
    exact h.set p h1

def jkPost (K : Jk → AState → Prop) : Post
  | .normal, s => K .nx s
  | .ret, s => K .ret s
  | .exit id, s => K (.ex id) s
  | _, _ => False
theorem jk_n (K : Jk → AState → Prop) (s : AState) : jkPost K .normal s = K .nx s := rfl
theorem jk_r (K : Jk → AState → Prop) (s : AState) : jkPost K .ret s = K .ret s := rfl
theorem jk_e (K : Jk → AState → Prop) (i : Nat) (s : AState) : jkPost K (.exit i) s = K (.ex i) s := rfl

/-- in the assignments the record is oR, in the body oB -/
def goB (P : Program) (cs : Ctx) (hx : HCtx) (N t : Nat) (oR oB : Obj) (z : AC) (K : Jk → AState → Prop) (s : AState) : Prop :=
  getE s.hp t = some ⟨t, t, .obj oR⟩ ∧ W P cs hx N z [] (jkPost K) ⟨s.tm, setB s.hp t t (.obj oB), s.next⟩
theorem goB_eq (P : Program) (cs : Ctx) (hx : HCtx) (N t : Nat) (oR oB : Obj) (z : AC) (K : Jk → AState → Prop) (tm : List AV) (hp : List HEnt) (nx : Nat) :
    goB P cs hx N t oR oB z K ⟨tm, hp, nx⟩ = (getE hp t = some ⟨t, t, .obj oR⟩ ∧ W P cs hx N z [] (jkPost K) ⟨tm, setB hp t t (.obj oB), nx⟩) := rfl

def noP : Post := fun _ _ => False

/-- THE ROUND: from the heap J a, with vals handed to yield. -/
def RoundOk (P : Program) (cs : Ctx) (hx : HCtx) (N M t : Nat) (x z : AC) (ps : List Nat) (tm : List AV) (h h' : List HEnt) (vals : List AV) (j : Jk) : Prop :=
  ∀ (oR oB : Obj) (f : Jk → AState → Prop), (∀ s tm2, Wkn N s ⟨tm2, ⟨t, t, .obj oB⟩ :: h', M⟩ → f j s) →
    W P cs hx N x [.pr (goB P cs hx N t oR oB z f)] noP ⟨setPs tm ps vals, ⟨t, t, .obj oR⟩ :: h, N⟩

def recO (r : Loop) (j : Jk) : Obj := .loop { r with state := if j.cont then .ready else .done, pending := j.code }

theorem compC_rf {P : Program} {g : Opd} {ps : List Nat} {x z : AC} {c : Code} (h : compC P c = some (.rf g ps x z)) :
    ∃ g' ps' c1 c2, c = .rangeFunc g' ps' c1 c2 ∧ opd g' = some g ∧ ps'.toList = ps ∧ compC P c1 = some x ∧ compC P c2 = some z := by
  cases c with
  | rangeFunc g' ps' d e =>
    simp only [compC, Option.bind_eq_some_iff, Option.map_eq_some_iff] at h
    obtain ⟨o, h1, x1, h2, y1, h3, h4⟩ := h
    cases h4
    exact ⟨g', ps', d, e, rfl, h1, rfl, h2, h3⟩
  | region id ops dr =>
    simp only [compC] at h
    split at h
    · cases h
    · split at h
      · split at h <;> cases h
      · cases h
  | seq d e =>
    simp only [compC, Option.bind_eq_some_iff, Option.map_eq_some_iff] at h
    obtain ⟨_, _, _, _, h⟩ := h
    cases h
  | cond c d e =>
    simp only [compC, Option.bind_eq_some_iff, Option.map_eq_some_iff] at h
    obtain ⟨_, _, _, _, _, _, h⟩ := h
    cases h
  | _ => simp [compC] at h

section
variable {β : Type} {st : β → List AV → β × Jk}
theorem foldS_nil (x : β) : foldS st x [] = (x, .nx) := rfl
theorem foldS_cons (x : β) (v : List AV) (vs : List (List AV)) : foldS st x (v :: vs) = if (st x v).2.cont then foldS st (st x v).1 vs else st x v := rfl
end

open Classical in
/-- yield, as R tells -/
noncomputable def orc (R : List AV → List HEnt → Nat → AV × List HEnt × Nat → Prop) : HCtx := fun g vals h n => if hc : g = 987654321 ∧ ∃ res, R vals h n res then some (Classical.choose hc.2) else none

theorem orc_inv {R : List AV → List HEnt → Nat → AV × List HEnt × Nat → Prop} {g : Nat} {vals : List AV} {h : List HEnt} {n : Nat} {res : AV × List HEnt × Nat} (hr : orc R g vals h n = some res) : R vals h n res := by
  unfold orc at hr
  split at hr
  · rename_i hc
    cases hr
    exact Classical.choose_spec hc.2
  · cases hr
theorem orc_ne {R : List AV → List HEnt → Nat → AV × List HEnt × Nat → Prop} (g : Nat) (vals : List AV) (h : List HEnt) (n : Nat) (hg : (g = 987654321) = False) : orc R g vals h n = none := by
  unfold orc
  rw [dif_neg (by rw [hg]; simp)]
theorem orc_some {R : List AV → List HEnt → Nat → AV × List HEnt × Nat → Prop} {vals : List AV} {h : List HEnt} {n : Nat} {res : AV × List HEnt × Nat} (hr : R vals h n res) (hu : ∀ res', R vals h n res' → res' = res) : orc R 987654321 vals h n = some res := by
  unfold orc
  rw [dif_pos ⟨rfl, res, hr⟩]
  exact congrArg some (hu _ (Classical.choose_spec (⟨res, hr⟩ : ∃ res, R vals h n res)))

section
variable {P : Program} {cs : Ctx} {hx : HCtx} (hcs : Good P cs) (hh : HGood P hx) (hm : P.follows .mixedOrders = true) (hn : ∀ t vals hp nx, hx yld (.yield t :: vals) hp nx = none)
include hcs hh hm hn

/-- one round, as the iterator sees it -/
theorem round_sound {t N M : Nat} {x z : AC} {ps : List Nat} {tm : List AV} {h h' : List HEnt} {vals : List AV} {j : Jk} (hlx : x.noLp = true) (hlz : z.noLp = true) (hfree : ∀ e ∈ h', e.grp ≠ t) (hr : RoundOk P cs hx N M t x z ps tm h h' vals j)
    {c1 c2 : Code} (h1 : compC P c1 = some x) (h2 : compC P c2 = some z) {r : Loop} (hst : r.state = .ready) (hpe : r.pending = none) {G : Ghost} {w : World} {l : Loc} {tmps : Array Value} {cvals : List Value} {n : Nat}
    (hι : G.ι t = some l) (htm : VRels G tm tmps.toList) (hv : VRels G vals cvals) (hH : HRel G (· ∈ ⟨t, t, .obj (recO r .nx)⟩ :: h) (N ≤ ·) w) {f : FuncId} :
    RoundIn (FW none) n P l.b f ((ps.zip cvals).foldl (fun (tm : Array Value) (x : Nat × Value) => tm.setIfInBounds x.1 x.2) tmps) c1 c2 w
      (Ends (fun u k m => u = .bool j.cont ∧ k = ⟨t, t, .obj (recO r j)⟩ :: h' ∧ m = M) G w) := by
  let oB : Obj := .loop { r with state := .busy }
  have erec : recO r .nx = .loop r := by
    cases r; simp only at hst hpe; subst hst; subst hpe; rfl
  let E : Env := hH.env []
  have hWx := hr (recO r .nx) oB (fun j' s' => j' = j ∧ ∃ tm2, Wkn N s' ⟨tm2, ⟨t, t, .obj oB⟩ :: h', M⟩) (fun s tm2 hw => ⟨rfl, tm2, hw⟩)
  have hs : SRel E G ⟨setPs tm ps vals, ⟨t, t, .obj (recO r .nx)⟩ :: h, N⟩ { tmps := (ps.zip cvals).foldl (fun (tm : Array Value) (x : Nat × Value) => tm.setIfInBounds x.1 x.2) tmps, defers := [] } w :=
    ⟨setPs_sound ps vals tm tmps cvals htm hv, hH, Dfr.nil (E := E), .rfl, .rfl⟩
  have hyG : ∀ G, YH P hx G := fun G t vals hp nx v hp' nx' h => by rw [hn] at h; cases h
  have a1 := AW_sound (q := true) hcs hh hm (fun _ => hn) c1 h1 (fun _ => hlx) hWx (some l.b) n E rfl (fun e => by cases e) (hyG _) G _ w hs
  refine roundIn_of_wpIn trivial ?_
  refine wpIn_mono a1 ?_
  rintro e a' w' ⟨s', G', hk, hs'⟩
  cases e with
  | normal =>
    obtain ⟨hge, hW⟩ := hk
    have hι' : G'.ι t = some l := hs'.le.ι _ _ hι
    obtain ⟨hH2, hl2⟩ := hs'.hp.turn hge hι' oB
    rw [erec] at hl2
    refine ⟨_, run_beginRound hl2 hst, ?_⟩
    have hs2 : SRel E G' ⟨s'.tm, setB s'.hp t t (.obj oB), s'.next⟩ a' (w'.putObj l.b oB) :=
      ⟨hs'.tm, hH2, hs'.df, hs'.le, hs'.kp.trans ⟨rfl, rfl, rfl, by rw [World.putObj_size]; exact Nat.le_refl _⟩⟩
    have aw2 := AW_sound (q := true) hcs hh hm (fun _ => hn) c2 h2 (fun _ => hlz) hW (some l.b) n E rfl (fun e => by cases e) (hyG _) G' _ _ hs2
    refine wpIn_mono aw2 ?_
    rintro e2 a2 w2 ⟨s3, G3, hk3, hs3⟩
    have fin : ∀ jj : Jk, (jj = j ∧ ∃ tm2, Wkn N s3 ⟨tm2, ⟨t, t, .obj oB⟩ :: h', M⟩) →
        ∃ v w', (Instr.endRound l.b jj.code).run P w2 = .ok v w' ∧ Ends (fun u k m => u = .bool j.cont ∧ k = ⟨t, t, .obj (recO r j)⟩ :: h' ∧ m = M) G w (.returned v) w' := by
      rintro jj ⟨rfl, tm2, hw⟩
      obtain ⟨G4, hs4⟩ := hw E rfl G3 a2 w2 hs3
      have hι4 : G4.ι t = some l := hs4.le.ι _ _ hι
      obtain ⟨hH5, hl5⟩ := hs4.hp.turn (t := t) (o := oB) (by simp [getE]) hι4 (recO r jj)
      have hcode : jj.code.isNone = jj.cont := by cases jj <;> rfl
      refine ⟨_, _, run_endRound jj.code hl5, .bool jj.cont, ⟨t, t, .obj (recO r jj)⟩ :: h', M, G4, _, ⟨rfl, rfl, rfl⟩, rfl, hs4.le, ?_, by rw [hcode]; simp only [VRel], hs4.kp.trans ⟨rfl, rfl, rfl, by rw [World.putObj_size]; exact Nat.le_refl _⟩⟩
      have hrec : (Obj.loop { ({ r with state := .busy } : Loop) with state := if jj.code.isNone = true then .ready else .done, pending := jj.code }) = recO r jj := by
        unfold recO
        rw [hcode]
      show HRel G4 _ _ (w2.putObj l.b (Obj.loop { ({ r with state := .busy } : Loop) with state := if jj.code.isNone = true then .ready else .done, pending := jj.code }))
      rw [hrec]
      have hset : setB (⟨t, t, .obj oB⟩ :: h') t t (.obj (recO r jj)) = ⟨t, t, .obj (recO r jj)⟩ :: h' := by
        rw [sb_eq, setB_free hfree]
      rw [hset] at hH5
      exact hH5
    cases e2 with
    | normal => exact fin .nx hk3
    | ret => exact fin .ret hk3
    | exit id => exact fin (.ex id) hk3
    | _ => exact hk3.elim
  | _ => exact hk.elim

/-- THE LOOP OVER A FUNCTION: at the head of a round the heap is J a. -/
theorem Cor.range {y : Ghost → Prop} {b : Nat} {g : Opd} {ps : List Nat} {x z : AC} {K : Post} {tm : List AV} {hp : List HEnt} {t : Nat} {f : Nat} {first cap : List AV} {seq : List (List AV)} {β : Type} (J : β → List HEnt) (Nn : β → Nat) (st : β → List AV → β × Jk) (Iv : Nat → β → Prop) {x0 : β}
    (hg : evO tm g = .fn f first cap) (hseq : SeqOk P f first cap seq) (hp0 : hp = J x0) (hN0 : Nn x0 = t + 1) (h0 : Iv 0 x0)
    (hJ : ∀ a b, J a = J b → a = b) (hfree : ∀ a, ∀ e ∈ J a, e.grp ≠ t) (hlx : x.noLp = true) (hlz : z.noLp = true) (hlen : ∀ v ∈ seq, v.length = ps.length)
    (hstep : ∀ j v a, seq[j]? = some v → Iv j a → (st a v).2 = .nx → Iv (j + 1) (st a v).1)
    (hround : ∀ j v a, seq[j]? = some v → Iv j a → RoundOk P cs hx (Nn a) (Nn (st a v).1) t x z ps tm (J a) (J (st a v).1) v (st a v).2)
    (hend : K (foldS st x0 seq).2.exit ⟨tm, J (foldS st x0 seq).1, Nn (foldS st x0 seq).1⟩) : Cor P y b (.rf g ps x z) K ⟨tm, hp, t⟩ := by
  intro c hc
  obtain ⟨g', ps', c1, c2, rfl, hg', rfl, h1, h2⟩ := compC_rf hc
  intro r n E hE hr hyy G a w hs
  obtain rfl := hr rfl
  refine wpIn_rangeFunc (fun fn _ => ?_)
  obtain ⟨hH1, hle1⟩ := hs.hp.lay (.deferred (some []))
  let rc : Loop := { state := .ready, pending := none, fn, tmps := a.tmps, params := ps', assign := c1, body := c2, defers := w.heap.size }
  have erec : recO rc .nx = .loop rc := rfl
  have hH2 := hH1.allocO t (Nat.le_refl t) (.loop rc)
  have hle2 := Ghost.le_put (G := G.lay w.heap.size (.deferred (some []))) (l := ⟨(w.alloc (.deferred (some []))).heap.size, 1, 0⟩) (hH1.fresh t (Nat.le_refl t))
  have hle := hle1.trans hle2
  have hι : ((G.lay w.heap.size (.deferred (some []))).put t ⟨(w.alloc (.deferred (some []))).heap.size, 1, 0⟩).ι t = some ⟨(w.alloc (.deferred (some []))).heap.size, 1, 0⟩ := by simp [Ghost.put]
  have hro : ((G.lay w.heap.size (.deferred (some []))).put t ⟨(w.alloc (.deferred (some []))).heap.size, 1, 0⟩).ro w.heap.size = some (.deferred (some [])) := by simp [Ghost.put, Ghost.lay]
  generalize hG2 : (G.lay w.heap.size (.deferred (some []))).put t ⟨(w.alloc (.deferred (some []))).heap.size, 1, 0⟩ = G2 at *
  have hH3 : HRel G2 (· ∈ ⟨t, t, .obj (recO rc .nx)⟩ :: J x0) (t + 1 ≤ ·) ((w.alloc (.deferred (some []))).alloc (.loop rc)) := by
    refine hH2.sub (fun e he => ?_) (fun u hu => ⟨by show t ≤ u; omega, by omega⟩)
    rcases List.mem_cons.1 he with rfl | he
    · exact .inr rfl
    · exact .inl (hp0 ▸ he)
  have hsz : (w.alloc (.deferred (some []))).heap.size = w.heap.size + 1 := World.size_alloc ..
  rw [hsz] at hι
  have hkp : Keeps w ((w.alloc (.deferred (some []))).alloc (.loop rc)) := ⟨rfl, rfl, rfl, by rw [World.size_alloc, World.size_alloc]; omega⟩
  generalize hw2 : (w.alloc (.deferred (some []))).alloc (.loop rc) = w2 at *
  -- yield
  let R : List AV → List HEnt → Nat → AV × List HEnt × Nat → Prop := fun vals h m res => ∃ j v a, vals = .yield t :: v ∧ seq[j]? = some v ∧ Iv j a ∧ h = ⟨t, t, .obj (recO rc .nx)⟩ :: J a ∧ m = Nn a ∧
    res = (.bool (st a v).2.cont, ⟨t, t, .obj (recO rc (st a v).2)⟩ :: J (st a v).1, Nn (st a v).1)
  have htm2 : VRels G2 tm a.tmps.toList := VRels.mono hle _ hs.tm
  have hY : YH P (orc R) G2 := by
    intro t' vals h m v h' m' hv
    obtain ⟨j, vv, aa, e1, hj, hI, rfl, rfl, e2⟩ := orc_inv hv
    simp only [List.cons.injEq, AV.yield.injEq] at e1
    obtain ⟨rfl, rfl⟩ := e1
    simp only [Prod.mk.injEq] at e2
    obtain ⟨rfl, rfl, rfl⟩ := e2
    intro n' G3 w3 cvals l hle3 hH hl hcv
    have hll := hle3.ι _ _ hι
    obtain ⟨l', hl1, hl2, _⟩ := hH.ent ⟨t', t', .obj (recO rc .nx)⟩ (List.mem_cons_self ..)
    simp only at hl1
    rw [hl] at hl1; cases hl1
    have hsz2 : cvals.toArray.size = rc.params.size := by
      rw [List.size_toArray, hcv.length, hlen _ (List.mem_of_getElem? hj), Array.length_toList]
    refine ⟨_, _, _, _, run_yield hl2 hsz2, ?_⟩
    have := round_sound (n := n') hcs hh hm hn hlx hlz (hfree _) (hround j vals aa hj hI) h1 h2 (r := rc) rfl rfl hl (VRels.mono hle3 _ htm2) hcv hH (f := rc.fn)
    have ez : (rc.params.zip cvals.toArray).foldl (fun tmps (x : Nat × Value) => tmps.setIfInBounds x.1 x.2) rc.tmps = (ps'.toList.zip cvals).foldl (fun (tm : Array Value) (x : Nat × Value) => tm.setIfInBounds x.1 x.2) a.tmps := by
      rw [← Array.foldl_toList, Array.toList_zip]
    have e3 : ((rc.params.zip cvals.toArray).foldl (fun tmps (t, a) => tmps.setIfInBounds t a) rc.tmps) = (ps'.toList.zip cvals).foldl (fun (tm : Array Value) (x : Nat × Value) => tm.setIfInBounds x.1 x.2) a.tmps := ez
    rw [e3]
    exact this
  have hdrv : ∀ vs j aa, seq.drop j = vs → Iv j aa → Drv (orc R) t (⟨t, t, .obj (recO rc .nx)⟩ :: J aa) (Nn aa) vs (⟨t, t, .obj (recO rc (foldS st aa vs).2)⟩ :: J (foldS st aa vs).1) (Nn (foldS st aa vs).1) := by
    intro vs
    induction vs with
    | nil => intro j aa _ _; exact ⟨rfl, rfl⟩
    | cons v vs ih =>
      intro j aa hd hI
      have hj : seq[j]? = some v := by
        have := List.getElem?_drop (xs := seq) (i := j) (j := 0)
        rw [hd] at this
        simpa using this.symm
      have hd' : seq.drop (j + 1) = vs := by
        rw [← List.drop_drop, hd]; rfl
      refine ⟨(st aa v).2.cont, ⟨t, t, .obj (recO rc (st aa v).2)⟩ :: J (st aa v).1, Nn (st aa v).1, orc_some ⟨j, v, aa, rfl, hj, hI, rfl, rfl, rfl⟩ ?_, fun hc => ?_, fun hc => ?_⟩
      · rintro res ⟨j', v', a', e1, _, _, e2, _, rfl⟩
        simp only [List.cons.injEq, true_and] at e1 e2
        subst e1
        rw [hJ _ _ e2]
      · have hnx : (st aa v).2 = .nx := by
          cases hst : (st aa v).2 <;> simp [hst, Jk.cont] at hc ⊢
        rw [foldS_cons, if_pos hc, hnx]
        exact ih (j + 1) (st aa v).1 hd' (hstep j v aa hj hI hnx)
      · rw [foldS_cons, if_neg (by rw [hc]; simp)]; exact ⟨rfl, rfl⟩
  have hdr := hdrv seq 0 x0 rfl h0
  rw [hN0] at hdr
  have hok := hseq (orc R) t (t + 1) _ _ _ (by omega) (fun g vals h n hg => orc_ne g vals h n hg) hdr
  have hgv := opd_sound hs.tm hg'
  rw [hg] at hgv
  have hgv := VRel.mono hle _ hgv
  simp only [VRel] at hgv
  obtain ⟨cf, cc, hcf, hcc, hfn⟩ := hgv
  have hargs : VRels G2 (first ++ [.yield t] ++ cap) (cf ++ [Value.func (.yield (w.heap.size + 1)) #[] #[]] ++ cc) := by
    refine (hcf.append ?_).append hcc
    simp only [VRels, VRel]
    exact ⟨_, [], rfl, ⟨_, hι, rfl⟩, rfl⟩
  refine ⟨w.heap.size + 1, [mark w.heap.size], w2, { target := .fn (.func f) cc.toArray, args := cf.toArray ++ #[Value.func (.yield (w.heap.size + 1)) #[] #[]] }, w2, f, (cf ++ [Value.func (.yield (w.heap.size + 1)) #[] #[]] ++ cc).toArray, w2, ?_, ?_, fun _ _ => trivial, ?_, fun h => by simp [FW, Fence.wide] at h, ?_⟩
  · rw [← hw2]
    exact run_enterLoop_outer fn a.tmps ps' c1 c2
  · have e5 : resolve a.eval (rangeCall g' (w.heap.size + 1)) 0 = Deferred.ofValue (a.eval g') #[Value.func (.yield (w.heap.size + 1)) #[] #[]] := by
      simp [resolve, Act.eval]
    rw [e5, hfn]
    simp [Deferred.ofValue]
  · have := hok.1 (cf ++ [Value.func (.yield (w.heap.size + 1)) #[] #[]] ++ cc).toArray w2
    simpa [invoke] using this
  · refine callsIn_FW ((hok.2 G2 w2 _ hY hH3 hargs).mono ?_)
    rintro e w3 ⟨v, hp', nx', G', cv, ⟨rfl, rfl⟩, rfl, hle3, hH', hcv, hk⟩
    generalize hfd : foldS st x0 seq = xf at *
    obtain ⟨xf, jf⟩ := xf
    have hι3 := hle3.ι _ _ hι
    obtain ⟨hH4, hl4⟩ := hH'.turn (t := t) (o := recO rc jf) (by simp [getE]) hι3 (.loop { ({ rc with state := if jf.cont then .ready else .done, pending := jf.code } : Loop) with state := .exhausted })
    have hnb : ({ rc with state := if jf.cont then .ready else .done, pending := jf.code } : Loop).state ≠ .busy := by
      cases jf <;> simp [Jk.cont]
    refine ⟨_, _, run_endLoop hl4 hnb, ?_⟩
    have hset : setB (⟨t, t, .obj (recO rc jf)⟩ :: J xf) t t (.obj (.loop { ({ rc with state := if jf.cont then .ready else .done, pending := jf.code } : Loop) with state := .exhausted })) = ⟨t, t, .obj (.loop { ({ rc with state := if jf.cont then .ready else .done, pending := jf.code } : Loop) with state := .exhausted })⟩ :: J xf := by
      rw [sb_eq, setB_free (hfree xf)]
    simp only at hH4
    erw [hset] at hH4
    have hS : SRel E G' ⟨tm, J xf, Nn xf⟩ { a with defers := [mark w.heap.size] ++ a.defers } (w3.putObj (w.heap.size + 1) (.loop { ({ rc with state := if jf.cont then .ready else .done, pending := jf.code } : Loop) with state := .exhausted })) := by
      refine ⟨VRels.mono (hle.trans hle3) _ hs.tm, hH4.sub (fun e he => List.mem_cons_of_mem _ he) (fun _ h => h), ?_, hs.le.trans (hle.trans hle3), (hs.kp.trans (hkp.trans hk)).trans ⟨rfl, rfl, rfl, by rw [World.putObj_size]; exact Nat.le_refl _⟩⟩
      obtain ⟨pre, hp1, hp2, hp3⟩ := hs.df
      refine ⟨w.heap.size :: pre, by rw [hp1]; rfl, List.nodup_cons.2 ⟨fun hmem => ?_, hp2⟩, fun D hD => ?_⟩
      · have := hs.hp.ro _ _ (hp3 _ hmem).1
        simp at this
      · rcases List.mem_cons.1 hD with rfl | hD
        · exact ⟨hle3.ro _ _ hro, hs.kp.size⟩
        · exact ⟨hle3.ro _ _ (hle.ro _ _ (hp3 D hD).1), (hp3 D hD).2⟩
    cases jf with
    | nx => exact ⟨_, G', hend, hS⟩
    | ret => exact wpIn_ret ⟨_, G', hend, hS⟩
    | ex id => exact wpIn_exit ⟨_, G', hend, hS⟩
end
theorem sp_cons (tm : List AV) (p : Nat) (ps : List Nat) (v : AV) (vs : List AV) : setPs tm (p :: ps) (v :: vs) = setPs (setT tm p v) ps vs := rfl
theorem sp_nil (tm : List AV) (vs : List AV) : setPs tm [] vs = tm := by cases vs <;> rfl
theorem fi_nx : Jk.exit .nx = .normal := rfl
end Eng
