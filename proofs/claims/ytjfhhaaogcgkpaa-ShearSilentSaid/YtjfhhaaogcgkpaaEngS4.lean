/-
  THE ENGINE, PART S4: code with a stack of what comes behind it, so that nothing is told twice.
-/
import Derived.Test.YtjfhhaaogcgkpaaEngS3
import Derived.LoopNIn
namespace Eng
open Go Go.RowKit
set_option linter.unusedSimpArgs false
set_option linter.unusedVariables false

inductive Fr where
  | th (y : AC)
  | bl (id : Nat)
  | pr (f : AState → Prop)

section
variable (P : Program) (cs : Ctx) (hx : HCtx) (b : Nat)

def unw : List Fr → Post → Post
  | [], K => K
  | .th y :: st, K => eThen (AW P cs hx b y (unw st K)) (unw st K)
  | .bl id :: st, K => eBlk id (unw st K)
  | .pr f :: st, K => eThen f (unw st K)

def W (x : AC) (st : List Fr) (K : Post) (s : AState) : Prop := AW P cs hx b x (unw P cs hx b st K) s
def R (e : Exit) (st : List Fr) (K : Post) (s : AState) : Prop := unw P cs hx b st K e s
/-- on with what comes behind, if there is a state -/
def RN (st : List Fr) (K : Post) : Option AState → Prop := okN (unw P cs hx b st K .normal)
def CV (x y : AC) (st : List Fr) (K : Post) (s : AState) : AV → Prop := condV (W P cs hx b x st K) (W P cs hx b y st K) s

variable (x y : AC) (st : List Fr) (K : Post) (s : AState) (tm : List AV) (hp : List HEnt) (nx i j : Nat) (os : List AOper) (ps : List (Nat × Nat)) (c : Opd) (f : AState → Prop)
theorem W_skip : W P cs hx b .skip st K s = R P cs hx b .normal st K s := rfl
theorem W_ops : W P cs hx b (.ops false [] os) st K s = RN P cs hx b st K (runH cs hx os s) := rfl
theorem W_opsD : W P cs hx b (.ops true ps os) st K s = RN P cs hx b st K (runD cs os ps s) := rfl
theorem W_seq : W P cs hx b (.seq x y) st K s = W P cs hx b x (.th y :: st) K s := rfl
theorem W_cond : W P cs hx b (.cond c x y) st K ⟨tm, hp, nx⟩ = CV P cs hx b x y st K ⟨tm, hp, nx⟩ (evO tm c) := rfl
theorem W_block : W P cs hx b (.block i x) st K s = W P cs hx b x (.bl i :: st) K s := rfl
theorem W_exit : W P cs hx b (.exit i) st K s = R P cs hx b (.exit i) st K s := rfl
theorem W_ret : W P cs hx b .ret st K s = R P cs hx b .ret st K s := rfl
theorem W_loop : W P cs hx b (.loop x) st K s = Cor P (YH P hx) b (.loop x) (unw P cs hx b st K) s := rfl
theorem W_rf (ps' : List Nat) : W P cs hx b (.rf c ps' x y) st K s = Cor P (YH P hx) b (.rf c ps' x y) (unw P cs hx b st K) s := rfl
theorem RN_some : RN P cs hx b st K (some s) = R P cs hx b .normal st K s := rfl
theorem R_nil (e : Exit) : R P cs hx b e [] K s = K e s := rfl
theorem R_nth : R P cs hx b .normal (.th y :: st) K s = W P cs hx b y st K s := rfl
theorem R_nbl : R P cs hx b .normal (.bl i :: st) K s = R P cs hx b .normal st K s := rfl
theorem R_npr : R P cs hx b .normal (.pr f :: st) K s = f s := rfl
theorem R_rth : R P cs hx b .ret (.th y :: st) K s = R P cs hx b .ret st K s := rfl
theorem R_rbl : R P cs hx b .ret (.bl i :: st) K s = R P cs hx b .ret st K s := rfl
theorem R_rpr : R P cs hx b .ret (.pr f :: st) K s = R P cs hx b .ret st K s := rfl
theorem R_eth : R P cs hx b (.exit j) (.th y :: st) K s = R P cs hx b (.exit j) st K s := rfl
theorem R_epr : R P cs hx b (.exit j) (.pr f :: st) K s = R P cs hx b (.exit j) st K s := rfl
theorem R_ebl : R P cs hx b (.exit i) (.bl i :: st) K s = R P cs hx b .normal st K s := by simp [R, unw, eBlk]
theorem R_ebn (h : (j = i) = False) : R P cs hx b (.exit j) (.bl i :: st) K s = R P cs hx b (.exit j) st K s := by simp [R, unw, eBlk, h]
theorem CV_t : CV P cs hx b x y st K s (.bool true) = W P cs hx b x st K s := by simp [CV, condV]
theorem CV_f : CV P cs hx b x y st K s (.bool false) = W P cs hx b y st K s := by simp [CV, condV]
theorem CV_d (q : Prop) [Decidable q] : CV P cs hx b x y st K s (.bool (decide q)) = ((q → W P cs hx b x st K s) ∧ (¬ q → W P cs hx b y st K s)) := by
  by_cases h : q <;> simp [CV, condV, h]
theorem CV_n (p : Bool) : CV P cs hx b x y st K s (.bool (!p)) = CV P cs hx b y x st K s (.bool p) := by cases p <;> simp [CV, condV]
/-- a branch on any truth value -/
theorem CV_b (p : Bool) : CV P cs hx b x y st K s (.bool p) = ((p = true → W P cs hx b x st K s) ∧ (p = false → W P cs hx b y st K s)) := rfl
end

theorem h_callvg (cs : Ctx) (hx : HCtx) (dst : Option Nat) (xs : List Opd) (gd : Nat × Bool) (s : AState) : stepH cs hx ⟨dst, .callv, xs, some gd⟩ s = step cs ⟨dst, .callv, xs, some gd⟩ s := by
  simp only [stepH]
  cases target AOp.callv (evs s.tm xs) <;> rfl

theorem Cor.run {P : Program} {cs : Ctx} {hx : HCtx} {b : Nat} (hcs : Good P cs) (hh : HGood P hx) (hm : P.follows .mixedOrders = true) {x : AC} {K : Post} {s : AState} (h : W P cs hx b x [] K s) : Cor P (YH P hx) b x K s := Cor.of hcs hh hm h

/-- THE LOOP: at the head of round a the state is S a. -/
theorem Cor.lp {P : Program} {cs : Ctx} {hx : HCtx} {b : Nat} (hcs : Good P cs) (hh : HGood P hx) (hm : P.follows .mixedOrders = true) {y : AC} {st : List Fr} {K : Post} {α : Type} (S : α → AState) (I : α → Prop) (μ : α → Nat)
    {a : α} (h0 : I a) {s : AState} (hw : Wkn b s (S a))
    (step : ∀ (f : AState → Prop) (a : α), I a → (∀ (s' : AState) (a' : α), I a' → μ a' < μ a → Wkn b s' (S a') → f s') → W P cs hx b y (.pr f :: st) K (S a)) : Cor P (YH P hx) b (.loop y) (unw P cs hx b st K) s :=
  Cor.loop hcs hh hm S I μ (fun a ha => step _ a ha fun s' a' h1 h2 h3 => ⟨a', h1, h2, h3⟩) h0 hw

/-! ### loops of few rounds -/
def Rd (P : Program) (cs : Ctx) (hx : HCtx) (b : Nat) (y : AC) (st : List Fr) (K : Post) : Nat → AState → Prop
  | 0, _ => False
  | m + 1, s => W P cs hx b y (.pr (Rd P cs hx b y st K m) :: st) K s
theorem Rd_s (P : Program) (cs : Ctx) (hx : HCtx) (b : Nat) (y : AC) (st : List Fr) (K : Post) (m : Nat) (s : AState) : Rd P cs hx b y st K (m + 1) s = W P cs hx b y (.pr (Rd P cs hx b y st K m) :: st) K s := rfl

theorem Cor.rounds {P : Program} {cs : Ctx} {hx : HCtx} {b : Nat} (hcs : Good P cs) (hh : HGood P hx) (hm : P.follows .mixedOrders = true) {y : AC} {st : List Fr} {K : Post} {s : AState} (m : Nat) (h : Rd P cs hx b y st K m s) : Cor P (YH P hx) b (.loop y) (unw P cs hx b st K) s := fun c hc => by
  obtain ⟨d, rfl, hd⟩ := compC_loop hc
  intro r n E hE hr hyy G a w hs
  refine wpIn_loop_rounds m ?_
  induction m generalizing s G a w with
  | zero => exact h.elim
  | succ m ih =>
    refine wpIn_mono (AW_sound (q := false) hcs hh hm (fun e => by cases e) d hd (fun e => by cases e) h r n E hE hr hyy G a w hs) ?_
    rintro e a' w' ⟨s', G', h1, h2⟩
    cases e with
    | normal => exact ih h1 G' a' w' h2
    | _ => exact ⟨s', G', h1, h2⟩

/-! conditions -/
theorem d_and (p q : Prop) [Decidable p] [Decidable q] : (decide p && decide q) = decide (p ∧ q) := by by_cases hp : p <;> by_cases hq : q <;> simp [hp, hq]
theorem d_or (p q : Prop) [Decidable p] [Decidable q] : (decide p || decide q) = decide (p ∨ q) := by by_cases hp : p <;> by_cases hq : q <;> simp [hp, hq]
theorem d_not (p : Prop) [Decidable p] : (!decide p) = decide (¬ p) := by by_cases hp : p <;> simp [hp]
theorem pk_and (p q : Prop) [Decidable p] [Decidable q] : pickV (.bool (decide p)) (optv (decide p) (.bool (decide q))) (.bool false) = some (.bool (decide (p ∧ q))) := by rw [pickV_and, d_and]
theorem pk_or (p q : Prop) [Decidable p] [Decidable q] : pickV (.bool (decide p)) (.bool true) (optv (decide (¬ p)) (.bool (decide q))) = some (.bool (decide (p ∨ q))) := by rw [← d_not, pickV_or, d_or]
theorem pk_orn (p q : Prop) [Decidable p] [Decidable q] : pickV (.bool (decide (¬ p))) (.bool true) (optv (decide p) (.bool (decide q))) = some (.bool (decide (¬ p ∨ q))) := by
  by_cases hp : p <;> by_cases hq : q <;> simp [hp, hq, pickV, optv]
theorem d_nn (p : Prop) [Decidable p] : decide (¬ ¬ p) = decide p := by by_cases hp : p <;> simp [hp]

/-! whole arrays -/
theorem rd_w (esz size : Nat) (vals : List AV) (h1 : (size ≤ esz) = False) (h2 : (size = vals.length * esz) = True) : rd esz vals 0 0 size true = some (.agg (flat vals)) := by
  have h3 : ¬ size = esz := fun e => by rw [e] at h1; simp at h1
  simp [rd, h1, h2, h3]
theorem wr_w (esz size : Nat) (vals l : List AV) (h1 : (size ≤ esz) = False) (h2 : (size = vals.length * esz) = True) (h3 : (l.length = size) = True) (h4 : l.all AV.sc = true) : wr esz vals 0 0 size true (.agg l) = some (rowsOf esz vals.length l) := by
  have h5 : ¬ size = esz := fun e => by rw [e] at h1; simp at h1
  simp only [wr, if_true, h3, h4, and_self, Nat.zero_add, h1, h2, h5, and_false, if_false]
theorem ro_one (n : Nat) (l : List AV) : rowsOf 1 n l = l := rfl
theorem fl_nil : flat [] = [] := rfl
theorem fl_cons (v : AV) (l : List AV) : flat (v :: l) = v.cells ++ flat l := rfl
theorem flat_I : ∀ l : List Int, flat (l.map I) = l.map I
  | [] => rfl
  | x :: l => by rw [List.map_cons, fl_cons, flat_I l]; rfl

/-- numerals need no wrapping -/
theorem wrapL {n : Int} (h1 : (-9223372036854775808 ≤ n) = True) (h2 : (n ≤ 9223372036854775807) = True) : IntKind.wrap .i64 n = n := wrap64 (by rw [h1]; trivial) (by rw [h2]; trivial)

end Eng
