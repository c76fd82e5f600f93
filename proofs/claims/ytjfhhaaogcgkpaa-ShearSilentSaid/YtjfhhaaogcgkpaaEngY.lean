/-
  THE ENGINE, PART Y: code: calls that change the heap, branches, blocks, loops.
-/
import Derived.Test.YtjfhhaaogcgkpaaEngX
namespace Eng
open Go Go.RowKit
set_option linter.unusedSimpArgs false
set_option linter.unusedVariables false

/-! ### calls that change the heap -/
abbrev HCtx := Nat → List AV → List HEnt → Nat → Option (AV × List HEnt × Nat)
/-- it stands for a call of 'yield' -/
abbrev yld : Nat := 987654321
def HGood (P : Program) (hx : HCtx) : Prop := ∀ f vals hp nx v hp' nx', f ≠ yld → hx f vals hp nx = some (v, hp', nx') → LOk P f vals hp nx v hp' nx'
def noHx : HCtx := fun _ _ _ _ => none
theorem noHx_good (P : Program) : HGood P noHx := fun _ _ _ _ _ _ _ _ h => by simp [noHx] at h

/-- what a call of 'yield' does, wherever more is known than in G0 -/
def YOk (P : Program) (G0 : Ghost) (t : Nat) (vals : List AV) (hp : List HEnt) (nx : Nat) (v : AV) (hp' : List HEnt) (nx' : Nat) : Prop :=
  ∀ (n : Nat) (G : Ghost) (w : World) (cvals : List Value) (x : Loc), G0.le G → HRel G (· ∈ hp) (nx ≤ ·) w → G.ι t = some x → VRels G vals cvals →
    ∃ f tmps assign body, (Instr.yield x.b cvals.toArray).run P w = .ok (.round x.b f tmps assign body) w ∧
      RoundIn (FW none) n P x.b f tmps assign body w (Ends (fun u h m => u = v ∧ h = hp' ∧ m = nx') G w)
def YH (P : Program) (hx : HCtx) (G0 : Ghost) : Prop := ∀ t vals hp nx v hp' nx', hx yld (.yield t :: vals) hp nx = some (v, hp', nx') → YOk P G0 t vals hp nx v hp' nx'
def YHr (P : Program) (hx : HCtx) (r : Option Nat) (G0 : Ghost) : Prop := ∀ t vals hp nx v hp' nx', hx yld (.yield t :: vals) hp nx = some (v, hp', nx') → r = none ∧ YOk P G0 t vals hp nx v hp' nx'
theorem YH_no (P : Program) (G : Ghost) : YH P noHx G := fun _ _ _ _ _ _ _ h => by simp [noHx] at h

def target : AOp → List AV → Option (Nat × List AV)
  | .call f, vals => if f = yld then none else some (f, vals)
  | .callv, .fn f first cap :: vals => if f = yld then none else some (f, first ++ vals ++ cap)
  | .callv, .yield t :: vals => some (yld, .yield t :: vals)
  | _, _ => none

def putH (s : AState) (dst : Option Nat) (r : AV × List HEnt × Nat) : AState := { tm := (s.put dst r.1).tm, hp := r.2.1, next := r.2.2 }

/-- with the heap handed on; else as ever -/
def orStep (cs : Ctx) (o : AOper) (s : AState) : Option (AV × List HEnt × Nat) → Option AState
  | some r => some (putH s o.dst r)
  | none => step cs o s

def stepC (cs : Ctx) (hx : HCtx) (o : AOper) (s : AState) : Option (Nat × List AV) → Option AState
  | some t => match o.guard with
    | none => orStep cs o s (hx t.1 t.2 s.hp s.next)
    | some _ => step cs o s
  | none => step cs o s

def stepH (cs : Ctx) (hx : HCtx) (o : AOper) (s : AState) : Option AState :=
  match o.op with
  | .call _ | .callv => stepC cs hx o s (target o.op (evs s.tm o.xs))
  | _ => step cs o s

def runH (cs : Ctx) (hx : HCtx) : List AOper → AState → Option AState
  | [], s => some s
  | o :: os, s => obind (stepH cs hx o s) (runH cs hx os)

section
variable {P : Program} {E : Env} {r : Option Nat} {n : Nat} {Q : Exit → Act → World → Prop} {cs : Ctx} {hx : HCtx} {G : Ghost} {a : Act} {w : World} {s s' : AState} {o : Oper} {K : Act → World → Prop}

theorem call_sound (hh : HGood P hx) (hy : YHr P hx r E.G) {op : Op} {aop : AOp} {xs : List Operand} {ys : List Opd} (hc : CA P op aop xs) (ho : o.op = op) (hys : opds xs = some ys) {f : Nat} {args : List AV} (ht : target aop (evs s.tm ys) = some (f, args))
    {v : AV} {hp' : List HEnt} {nx' : Nat} (hr : hx f args s.hp s.next = some (v, hp', nx')) (h : SRel E G s a w)
    (hK : ∀ (G' : Ghost) (a' : Act) (w' : World), SRel E G' (putH s o.dst (v, hp', nx')) a' w' → K a' w') : o.wpIn (FW r) n P a w K Q := by
  have hv := opds_sound h.tm hys
  have fin : f ≠ yld → ∀ cvals : List Value, VRels G args cvals → ((∀ (cargs : Array Value) (w : World), (callFunc f cargs).run P w = .ok (.enter f cargs) w) → (execOp a.eval o).run P w = .ok (.enter f cvals.toArray) w) → (∀ c, o.op ≠ .defer c) → o.wpIn (FW r) n P a w K Q := by
    intro hf cvals hargs hrun hd
    obtain ⟨hent, hok⟩ := hh _ _ _ _ _ _ _ hf hr
    refine wpIn_run hd (hrun hent) ⟨fun h => by simp [FW, Fence.wide] at h, callsIn_FW ((hok G w cvals h.hp hargs).mono ?_)⟩
    rintro e w' ⟨_, _, _, G', cv, ⟨rfl, rfl, rfl⟩, rfl, hle, hH, hcv, hk⟩
    exact hK G' _ w' ⟨put_sound (VRels.mono hle _ h.tm) hcv o.dst, hH, by rw [put_df]; exact h.df.mono hle, h.le.trans hle, h.kp.trans hk⟩
  cases hc with
  | @call g args0 argTypes =>
    simp only [target] at ht
    split at ht
    · cases ht
    rename_i hf
    simp only [Option.some.injEq, Prod.mk.injEq] at ht
    obtain ⟨rfl, rfl⟩ := ht
    refine fin hf _ hv (fun hent => ?_) (by rw [ho]; simp)
    have e : (args0.toList.map a.eval).toArray = args0.map a.eval := by rw [← Array.toList_map]
    rw [e]
    simp [execOp, ho, resolve, Deferred.ofValue, invoke, Act.eval, hent]
  | @callv t args0 argTypes =>
    cases hvals : evs s.tm ys with
    | nil => rw [hvals] at hv; simp [VRels] at hv
    | cons g vs =>
      rw [hvals] at hv ht
      simp only [List.map_cons, VRels] at hv
      obtain ⟨c, cvs, he0, hg, hvs⟩ := hv
      simp only [List.cons.injEq] at he0
      obtain ⟨rfl, rfl⟩ := he0
      cases g <;> simp only [target] at ht <;> try (cases ht; done)
      case fn f' first cap =>
        split at ht
        · cases ht
        rename_i hf
        simp only [Option.some.injEq, Prod.mk.injEq] at ht
        obtain ⟨rfl, rfl⟩ := ht
        simp only [VRel] at hg
        obtain ⟨cf, cc, hf1, hcap, hfn⟩ := hg
        refine fin hf _ ((hf1.append hvs).append hcap) (fun hent => ?_) (by rw [ho]; simp)
        have e : ((cf ++ args0.toList.map a.eval) ++ cc).toArray = (cf.toArray ++ args0.map a.eval) ++ cc.toArray := by
          rw [← Array.toList_map]; simp
        rw [e]
        simp [execOp, ho, resolve, hfn, Deferred.ofValue, invoke, hent]
      case yield u =>
        simp only [Option.some.injEq, Prod.mk.injEq] at ht
        obtain ⟨rfl, rfl⟩ := ht
        simp only [VRel] at hg
        obtain ⟨x, hx, hfn⟩ := hg
        obtain ⟨rfl, hyok⟩ := hy _ _ _ _ _ _ _ hr
        obtain ⟨f, tmps, assign, body, hrun, hround⟩ := hyok (n - 1) G w _ x h.le h.hp hx hvs
        have e : (args0.toList.map a.eval).toArray = args0.map a.eval := by rw [← Array.toList_map]
        rw [e] at hrun
        have hrun2 : (execOp a.eval o).run P w = .ok (.round x.b f tmps assign body) w := by
          simp [execOp, ho, resolve, hfn, Deferred.ofValue, invoke, hrun]
        refine wpIn_run (by rw [ho]; simp) hrun2 ⟨fun h => by simp [FW, Fence.wide] at h, hround.mono ?_⟩
        rintro e w' ⟨_, _, _, G', cv, ⟨rfl, rfl, rfl⟩, rfl, hle, hH, hcv, hk⟩
        exact hK G' _ w' ⟨put_sound (VRels.mono hle _ h.tm) hcv o.dst, hH, by rw [put_df]; exact h.df.mono hle, h.le.trans hle, h.kp.trans hk⟩
  | @bs _ _ _ _ _ _ fz => cases fz <;> simp [target] at ht
  | _ => simp [target] at ht

theorem stepH_sound (hcs : Good P cs) (hh : HGood P hx) (hy : YHr P hx r E.G) {ops : Array Oper} {ao : AOper} (hc : compO P ops.toList o = some ao) (hs : stepH cs hx ao s = some s') (h : SRel E G s a w)
    (hK : ∀ (G' : Ghost) (a' : Act) (w' : World), SRel E G' s' a' w' → K a' w') :
    if Region.wanted o (yielded ops a.tmps) then o.wpIn (FW r) n P a w K Q else (∀ f, o.about P w a.eval = some f → (FW r).fn f) ∧ K (a.put o.dst undef) w := by
  have base : step cs ao s = some s' → (if Region.wanted o (yielded ops a.tmps) then o.wpIn (FW r) n P a w K Q else (∀ f, o.about P w a.eval = some f → (FW r).fn f) ∧ K (a.put o.dst undef) w) := fun hs => step_sound (r := r) (n := n) (Q := Q) hcs hc hs h hK
  have main : stepC cs hx ao s (target ao.op (evs s.tm ao.xs)) = some s' → (if Region.wanted o (yielded ops a.tmps) then o.wpIn (FW r) n P a w K Q else (∀ f, o.about P w a.eval = some f → (FW r).fn f) ∧ K (a.put o.dst undef) w) := fun hs => by
    unfold stepC at hs
    split at hs
    · rename_i t ht
      obtain ⟨f, args⟩ := t
      split at hs
      · rename_i hg
        unfold orStep at hs
        split at hs
        · rename_i res hr
          obtain ⟨v, hp', nx'⟩ := res
          simp only [Option.some.injEq] at hs
          subst hs
          have hc' := hc
          unfold compO at hc'
          simp only [Option.bind_eq_some_iff, Option.map_eq_some_iff] at hc'
          obtain ⟨⟨op, xs⟩, hA, ys, hys, g, hg', rfl⟩ := hc'
          have hgn : o.guard = none := by
            cases hgd : o.guard with
            | none => rfl
            | some p =>
              rw [hgd] at hg'
              simp only [compG, Option.map_eq_some_iff] at hg'
              obtain ⟨d, _, rfl⟩ := hg'
              cases hg
          rw [if_pos (by simp [Region.wanted, hgn])]
          exact call_sound (r := r) (n := n) (Q := Q) (o := o) hh hy (compA_inv hA) rfl hys ht hr h hK
        · exact base hs
      · exact base hs
    · exact base hs
  unfold stepH at hs
  split at hs
  · exact main hs
  · exact main hs
  · exact base hs

theorem runH_sound (hcs : Good P cs) (hh : HGood P hx) (hy : YHr P hx r E.G) {ops : Array Oper} : ∀ {l : List Oper} {k : Nat} {aops : List AOper} {s s' : AState} {G : Ghost} {a : Act} {w : World}, compL P ops.toList l = some aops → (∀ i, l[i]? = ops[k + i]?) → runH cs hx aops s = some s' → SRel E G s a w →
    (∀ (G' : Ghost) (a' : Act) (w' : World), SRel E G' s' a' w' → Q .normal a' w') → wpOpsIn (FW r) n P ops Q (List.range' k l.length) a w
  | [], k, aops, s, s', G, a, w, hc, hl, hs, h, hQ => by
    simp only [compL, Option.some.injEq] at hc
    subst hc
    simp only [runH, Option.some.injEq] at hs
    subst hs
    simpa [wpOpsIn] using hQ G a w h
  | o :: l, k, aops, s, s', G, a, w, hc, hl, hs, h, hQ => by
    simp only [compL, Option.bind_eq_some_iff, Option.map_eq_some_iff] at hc
    obtain ⟨ao, h1, r', h2, rfl⟩ := hc
    simp only [runH] at hs
    cases hst : stepH cs hx ao s with
    | none => rw [hst] at hs; cases hs
    | some s1 =>
      rw [hst] at hs
      simp only [obind, Option.bind_some] at hs
      have hk : ops[k]? = some o := by have := hl 0; simp at this; exact this.symm
      simp only [List.length_cons, List.range'_succ, wpOpsIn, hk]
      have hl' : ∀ i, l[i]? = ops[k + 1 + i]? := fun i => by
        have := hl (i + 1)
        simp only [List.getElem?_cons_succ] at this
        rw [this]; congr 1; omega
      exact stepH_sound hcs hh hy h1 hst h fun G' a' w' h' => runH_sound hcs hh hy h2 hl' hs h' hQ

theorem region_seqH (hcs : Good P cs) (hh : HGood P hx) (hy : YHr P hx r E.G) {id : Nat} {ops : Array Oper} {aops : List AOper} (hc : compL P ops.toList ops.toList = some aops) (hs : runH cs hx aops s = some s') (h : SRel E G s a w)
    (hQ : ∀ (G' : Ghost) (a' : Act) (w' : World), SRel E G' s' a' w' → Q .normal a' w') : (Code.region id ops false).wpIn (FW r) n P Q a w := by
  refine wpIn_region ?_
  have := runH_sound (r := r) (n := n) (Q := Q) (k := 0) hcs hh hy hc (fun i => by rw [Nat.zero_add, Array.getElem?_toList]) hs h hQ
  rwa [Array.length_toList, ← List.range_eq_range'] at this
end

/-! ### code -/
inductive AC where
  | skip
  | ops (dr : Bool) (pairs : List (Nat × Nat)) (l : List AOper)
  | seq (x y : AC)
  | cond (c : Opd) (x y : AC)
  | block (id : Nat) (x : AC)
  | loop (x : AC)
  | exit (id : Nat)
  | ret
  | rf (g : Opd) (ps : List Nat) (x y : AC)

def compC (P : Program) : Code → Option AC
  | .skip => some .skip
  | .region _ ops dr =>
    (compL P ops.toList ops.toList).bind fun l =>
      if dr then (if okD ops.toList (masks ops.toList []) l then some (.ops true (pairsOf (masks ops.toList []) l) l) else none) else some (.ops false [] l)
  | .seq a b => (compC P a).bind fun x => (compC P b).map fun y => .seq x y
  | .cond c a b => (opd c).bind fun d => (compC P a).bind fun x => (compC P b).map fun y => .cond d x y
  | .block id a => (compC P a).map fun x => .block id x
  | .loop a => (compC P a).map fun x => .loop x
  | .exit id => some (.exit id)
  | .ret => some .ret
  | .rangeFunc g ps a b => (opd g).bind fun d => (compC P a).bind fun x => (compC P b).map fun y => .rf d ps.toList x y
  | _ => none

abbrev Post := Exit → AState → Prop

def eThen (f : AState → Prop) (K : Post) : Post
  | .normal, s => f s
  | e, s => K e s
def eBlk (id : Nat) (K : Post) : Post
  | .exit j, s => if j = id then K .normal s else K (.exit j) s
  | e, s => K e s

theorem eThen_normal (f : AState → Prop) (K : Post) (s : AState) : eThen f K .normal s = f s := rfl
theorem eThen_ret (f : AState → Prop) (K : Post) (s : AState) : eThen f K .ret s = K .ret s := rfl
theorem eThen_exit (f : AState → Prop) (K : Post) (i : Nat) (s : AState) : eThen f K (.exit i) s = K (.exit i) s := rfl
theorem eBlk_normal (id : Nat) (K : Post) (s : AState) : eBlk id K .normal s = K .normal s := rfl
theorem eBlk_ret (id : Nat) (K : Post) (s : AState) : eBlk id K .ret s = K .ret s := rfl
theorem eBlk_exit (id : Nat) (K : Post) (i : Nat) (s : AState) : eBlk id K (.exit i) s = if i = id then K .normal s else K (.exit i) s := rfl

/-- code without loops -/
def AC.noLp : AC → Bool
  | .seq x y => x.noLp && y.noLp
  | .cond _ x y => x.noLp && y.noLp
  | .block _ x => x.noLp
  | .loop _ => false
  | .rf _ _ _ _ => false
  | _ => true

/-- what the compiled code stands for -/
def Cor (P : Program) (y : Ghost → Prop) (b : Nat) (x : AC) (K : Post) (s : AState) : Prop := ∀ c, compC P c = some x → Awp P false y b c K s

def okN (K : AState → Prop) : Option AState → Prop
  | some s => K s
  | none => False

def condV (x y : AState → Prop) (s : AState) : AV → Prop
  | .bool p => (p = true → x s) ∧ (p = false → y s)
  | _ => False

def AW (P : Program) (cs : Ctx) (hx : HCtx) (b : Nat) : AC → Post → AState → Prop
  | .skip, K, s => K .normal s
  | .ops false _ l, K, s => okN (K .normal) (runH cs hx l s)
  | .ops true ps l, K, s => okN (K .normal) (runD cs l ps s)
  | .seq x y, K, s => AW P cs hx b x (eThen (AW P cs hx b y K) K) s
  | .cond c x y, K, s => condV (AW P cs hx b x K) (AW P cs hx b y K) s (evO s.tm c)
  | .block id x, K, s => AW P cs hx b x (eBlk id K) s
  | .exit id, K, s => K (.exit id) s
  | .ret, K, s => K .ret s
  | .loop x, K, s => Cor P (YH P hx) b (.loop x) K s
  | .rf g ps x y, K, s => Cor P (YH P hx) b (.rf g ps x y) K s

theorem Awp.mono {P : Program} {q : Bool} {y : Ghost → Prop} {b : Nat} {c : Code} {K K' : Post} {s : AState} (h : Awp P q y b c K s) (hk : ∀ e s, K e s → K' e s) : Awp P q y b c K' s := fun r n E hE hr hyy G a w hs =>
  wpIn_mono (h r n E hE hr hyy G a w hs) fun e a' w' ⟨s', G', h1, h2⟩ => ⟨s', G', hk _ _ h1, h2⟩

theorem Awp.seq {P : Program} {q : Bool} {y : Ghost → Prop} {b : Nat} {u v : Code} {K : Post} {s : AState} (h : Awp P q y b u (eThen (Awp P q y b v K) K) s) : Awp P q y b (.seq u v) K s := fun r n E hE hr hyy G a w hs => by
  refine wpIn_seq (wpIn_mono (h r n E hE hr hyy G a w hs) ?_)
  rintro e a' w' ⟨s', G', h1, h2⟩
  cases e with
  | normal => exact h1 r n E hE hr hyy G' a' w' h2
  | _ => exact ⟨s', G', h1, h2⟩

theorem Awp.cond {P : Program} {q : Bool} {y : Ghost → Prop} {b : Nat} {c : Operand} {d : Opd} {u v : Code} {K : Post} {s : AState} (hc : opd c = some d) (h : condV (Awp P q y b u K) (Awp P q y b v K) s (evO s.tm d)) : Awp P q y b (.cond c u v) K s := fun r n E hE hr hyy G a w hs => by
  have hv := opd_sound hs.tm hc
  cases hd : evO s.tm d <;> rw [hd] at h hv <;> simp only [condV] at h
  rename_i p
  simp only [VRel] at hv
  exact wpIn_cond_split hv (fun e => h.1 e r n E hE hr hyy G a w hs) (fun e => h.2 e r n E hE hr hyy G a w hs)

theorem Awp.block {P : Program} {q : Bool} {y : Ghost → Prop} {b : Nat} {id : Nat} {x : Code} {K : Post} {s : AState} (h : Awp P q y b x (eBlk id K) s) : Awp P q y b (.block id x) K s := fun r n E hE hr hyy G a w hs => by
  refine wpIn_block (wpIn_mono (h r n E hE hr hyy G a w hs) ?_)
  rintro e a' w' ⟨s', G', h1, h2⟩
  cases e with
  | exit j =>
    simp only [eBlk] at h1
    simp only [Exit.inBlock]
    split
    · rename_i he; rw [if_pos he] at h1; exact ⟨s', G', h1, h2⟩
    · rename_i he; rw [if_neg he] at h1; exact ⟨s', G', h1, h2⟩
  | _ => exact ⟨s', G', h1, h2⟩

/-- s2 says no more than s does -/
def Wkn (b : Nat) (s s2 : AState) : Prop := ∀ E : Env, E.nx = b → ∀ G a w, SRel E G s a w → ∃ G', SRel E G' s2 a w

theorem Wkn.rfl {b : Nat} {s : AState} : Wkn b s s := fun _ _ G _ _ h => ⟨G, h⟩
theorem Wkn.trans {b : Nat} {s1 s2 s3 : AState} (h : Wkn b s1 s2) (h' : Wkn b s2 s3) : Wkn b s1 s3 := fun E hE G a w hs =>
  let ⟨G', h1⟩ := h E hE G a w hs
  h' E hE G' a w h1

theorem Wkn.of (k : Wk) {s : AState} (hk : k.ok (idg s.hp) = true) : Wkn k.b s (k.st s) := fun E hE G a w hs => by
  have hko := Wk.ok_iff hk
  obtain ⟨h1, h2⟩ := wk_sound hko hs.hp
  refine ⟨k.ghost s.hp G w, keepT_sound h1 _ 0 hs.tm, h2, hs.df.ro (wk_ro hs.hp), ⟨⟨fun t l ht => ?_, fun r o hr => wk_ro hs.hp _ _ (hs.le.ro _ _ hr)⟩, hs.le.an⟩, hs.kp⟩
  have hlt : t < k.b := Nat.lt_of_not_le fun x => by rw [E.nw t (hE ▸ x)] at ht; cases ht
  simp only [Wk.ghost, hlt, if_true]
  exact hs.le.ι t l ht

theorem Awp.wk {P : Program} {q : Bool} {y : Ghost → Prop} {b : Nat} {c : Code} {K : Post} {s s2 : AState} (hw : Wkn b s s2) (h : Awp P q y b c K s2) : Awp P q y b c K s := fun r n E hE hr hyy G a w hs =>
  let ⟨G', h1⟩ := hw E hE G a w hs
  h r n E hE hr hyy G' a w h1

theorem least {p : Nat → Prop} (h : ∃ m, p m) : ∃ m, p m ∧ ∀ k, p k → m ≤ k := by
  obtain ⟨m, hm⟩ := h
  induction m using Nat.strongRecOn with
  | _ m ih =>
    by_cases hex : ∃ k, k < m ∧ p k
    · obtain ⟨k, hk, hp⟩ := hex
      exact ih k hk hp
    · exact ⟨m, hm, fun k hk => Nat.le_of_not_lt fun x => hex ⟨k, x, hk⟩⟩

theorem Awp.loop {P : Program} {q : Bool} {y : Ghost → Prop} {b : Nat} {c : Code} {K : Post} {α : Type} (S : α → AState) (I : α → Prop) (μ : α → Nat)
    (step : ∀ x, I x → Awp P q y b c (eThen (fun s' => ∃ x', I x' ∧ μ x' < μ x ∧ Wkn b s' (S x')) K) (S x)) {x : α} (h0 : I x) {s : AState} (hw : Wkn b s (S x)) : Awp P q y b (.loop c) K s := fun r n E hE hr hyy G a w hs => by
  obtain ⟨G1, hs⟩ := hw E hE G a w hs
  let A : Nat → Act → World → Prop := fun m a w => ∃ x, I x ∧ μ x ≤ m ∧ ∃ G, SRel E G (S x) a w
  have hex : A (μ x) a w := ⟨x, h0, Nat.le_refl _, G1, hs⟩
  classical
  refine wpIn_loop (fun a w => ∃ m, A m a w) (fun a w => if h : ∃ m, A m a w then Classical.choose (least h) else 0) ⟨_, hex⟩ ?_
  intro a w hm
  obtain ⟨x, hI, hle, G, hs⟩ := (Classical.choose_spec (least hm)).1
  refine wpIn_mono (step x hI r n E hE hr hyy G a w hs) ?_
  rintro e a' w' ⟨s', G', h1, h2⟩
  cases e with
  | normal =>
    obtain ⟨x', hI', hlt, hwk⟩ := h1
    obtain ⟨G'', h3⟩ := hwk E hE G' a' w' h2
    have hA : ∃ m, A m a' w' := ⟨μ x', x', hI', Nat.le_refl _, G'', h3⟩
    refine ⟨hA, ?_⟩
    rw [dif_pos hA, dif_pos hm]
    have : Classical.choose (least hA) ≤ μ x' := (Classical.choose_spec (least hA)).2 _ ⟨x', hI', Nat.le_refl _, G'', h3⟩
    omega
  | _ => exact ⟨s', G', h1, h2⟩

end Eng
