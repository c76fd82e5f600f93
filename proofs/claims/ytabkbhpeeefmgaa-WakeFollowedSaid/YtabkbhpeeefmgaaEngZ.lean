/-
THE ENGINE, PART X: contracts of functions that change what they are handed; results; what a function's body has to show.
THE ENGINE, PART Y: code: calls that change the heap, branches, blocks, loops.
THE ENGINE, PART Z: compiled code is sound; a function's contract out of its body.
-/
import Derived.Test.YtabkbhpeeefmgaaEngW
import Derived.RangeFuncRecord
namespace Eng
open Go Go.RowKit
set_option linter.unusedSimpArgs false
set_option linter.unusedVariables false

/-- how a call may end: it returns some v, and leaves some heap -/
def Ends (R : AV → List HEnt → Nat → Prop) (G : Ghost) (w : World) : Ending → World → Prop := fun e w' =>
  ∃ v hp' nx' G' cv, R v hp' nx' ∧ e = .returned cv ∧ G.le G' ∧ HRel G' (· ∈ hp') (nx' ≤ ·) w' ∧ VRel G' v cv ∧ Keeps w w'

/-- THE CONTRACT OF A CALL IN THE HEAP hp (numbers from nx on are free), where y holds of what is there: it returns some v, and leaves some heap, of which R tells. -/
def LOkY (y : Ghost → Prop) (P : Program) (f : FuncId) (args : List AV) (hp : List HEnt) (nx : Nat) (R : AV → List HEnt → Nat → Prop) : Prop :=
  (∀ (cargs : Array Value) (w : World), (callFunc f cargs).run P w = .ok (.enter f cargs) w) ∧
  ∀ (G : Ghost) (w : World) (cargs : List Value), y G → HRel G (· ∈ hp) (nx ≤ ·) w → VRels G args cargs → Calls P f cargs.toArray w (Ends R G w)

def yT : Ghost → Prop := fun _ => True

def LOkE (P : Program) (f : FuncId) (args : List AV) (hp : List HEnt) (nx : Nat) (R : AV → List HEnt → Nat → Prop) : Prop :=
  (∀ (cargs : Array Value) (w : World), (callFunc f cargs).run P w = .ok (.enter f cargs) w) ∧
  ∀ (G : Ghost) (w : World) (cargs : List Value), HRel G (· ∈ hp) (nx ≤ ·) w → VRels G args cargs → Calls P f cargs.toArray w (Ends R G w)

theorem LOkY.e {y : Ghost → Prop} {P : Program} {f : FuncId} {args : List AV} {hp : List HEnt} {nx : Nat} {R : AV → List HEnt → Nat → Prop} (h : LOkY y P f args hp nx R) (hy : ∀ G, y G) : LOkE P f args hp nx R :=
  ⟨h.1, fun G w cargs h1 h2 => h.2 G w cargs (hy G) h1 h2⟩

abbrev LOk (P : Program) (f : FuncId) (args : List AV) (hp : List HEnt) (nx : Nat) (v : AV) (hp' : List HEnt) (nx' : Nat) : Prop :=
  LOkE P f args hp nx fun u h n => u = v ∧ h = hp' ∧ n = nx'

def noId : Nat → Fate := fun _ => .gone

def purR (lk : Look) : AV → Option AV
  | .tup us => (purs lk us).map .tup
  | v => pur lk v

theorem purR_sound {G G' : Ghost} {M : HEnt → Prop} {fr : Nat → Prop} {w : World} {lk : Look} (hle : G.le G') (hro : ∀ x, M x → ∀ l, G.ι x.id = some l → ∀ cur e, w.heap[l.b]? = some (.cells cur e (0, 0)) → G'.ro l.b = some (.cells cur e (0, 0)))
    (hH : HRel G M fr w) (hlk : ∀ t e, lk t = some e → M e ∧ e.id = t) {u u' : AV} {c : Value} (h : purR lk u = some u') (hv : VRel G u c) : VRel G' u' c := by
  cases u
  case tup us =>
    simp only [purR, Option.map_eq_some_iff] at h
    obtain ⟨us', h1, rfl⟩ := h
    simp only [VRel] at hv ⊢
    obtain ⟨ccs, h2, rfl⟩ := hv
    exact ⟨ccs, purs_sound hle hro hH hlk h1 h2, rfl⟩
  all_goals exact pur_sound hle hro hH hlk (by simpa only [purR] using h) hv

theorem LOkE.fok {P : Program} {f : FuncId} {args : List AV} {v' : AV} (h : LOkE P f args [] 0 fun v hp' _ => purR (getE hp') v = some v' ∧ sub1 noId v' = v') (hargs : subs noId args = args) : FOk P f args v' := by
  refine ⟨h.1, fun G w cargs hok hr => ?_⟩
  let G0 : Ghost := { ι := fun _ => none, ro := G.ro, an := ⟨fun r => r < w.heap.size, G.ro, fun r => w.heap[r]?⟩ }
  have hH : HRel G0 (· ∈ []) (0 ≤ ·) w := ⟨hok, fun e he => absurd he (by simp), fun e _ he => absurd he (by simp), fun _ _ => rfl, fun e _ he => absurd he (by simp), fun e he => absurd he (by simp), fun _ hr => hr, fun _ _ => ⟨rfl, rfl⟩⟩
  have hr0 : VRels G0 args cargs := by
    have : Subst G G0 noId := ⟨fun _ _ _ _ h => h, fun t u l h => by simp [noId] at h, fun t esz vals l h => by simp [noId] at h⟩
    have := VRels.subst this _ hr
    rwa [hargs] at this
  refine (h.2 G0 w cargs hH hr0).mono ?_
  rintro e w' ⟨v, hp', nx', G', cv, ⟨hv, hv'⟩, rfl, hle, hH', hv1, hk⟩
  have hlo : ∀ r, r < w.heap.size → G'.ro r = G.ro r ∧ w'.heap[r]? = w.heap[r]? := fun r hr => by
    have := hH'.lo r (by rw [hle.an]; exact hr)
    rw [hle.an] at this
    exact this
  refine ⟨cv, rfl, ⟨hk.os, hk.tape, hk.output, hk.size, fun r hr => (hlo r hr).2⟩, ?_⟩
  have hle2 : G'.le (G'.more w.heap.size w') := ⟨⟨fun _ _ h => h, fun r o hr => by
    simp only [Ghost.more]
    split
    · exact hr
    · exact hH'.ro r o hr⟩, rfl⟩
  have h2 := purR_sound (lk := getE hp') hle2 (fun x hx l hl cur e hc => by
    have := hH'.own x hx l hl
    rw [hle.an] at this
    have this : ¬ l.b < w.heap.size := this
    simp only [Ghost.more, this, if_false]
    exact hc) hH' (fun t e h => getE_mem h) hv hv1
  have : Subst (G'.more w.heap.size w') (G.more w.heap.size w') noId := by
    refine ⟨fun r cur e fr hr => ?_, fun t u l h => by simp [noId] at h, fun t esz vals l h => by simp [noId] at h⟩
    simp only [Ghost.more] at hr ⊢
    split
    · rename_i hlt
      simp only [hlt, if_true] at hr
      rw [← (hlo r hlt).1]; exact hr
    · rename_i hlt
      simp only [hlt, if_false] at hr
      exact hr
  have h3 := VRel.subst this _ h2
  rwa [hv'] at h3

/-! ### results -/
inductive RV where
  | tmp (t : Nat)
  | cell (a size : Nat) (ag : Bool)

def compR (P : Program) : ResultVar → Option RV
  | .tmp t => some (.tmp t)
  | .cell a t => (tyAgg P t).bind fun (ag, n) => if ag = false ∧ n ≠ 1 then none else some (.cell a n ag)

def compRs (P : Program) : List ResultVar → Option (List RV)
  | [] => some []
  | r :: rs => (compR P r).bind fun a => (compRs P rs).map fun b => a :: b

def rv1 (lk : Look) (tm : List AV) : RV → Option AV
  | .tmp t => some (getT tm t)
  | .cell a size ag => loadV lk size ag (getT tm a)

def rvs (lk : Look) (tm : List AV) : List RV → Option (List AV)
  | [] => some []
  | r :: rs => (rv1 lk tm r).bind fun a => (rvs lk tm rs).map fun b => a :: b

def resOf : List AV → AV
  | [v] => v
  | vs => .tup vs

def resV (s : AState) (rs : List RV) : Option AV := (rvs (getE s.hp) s.tm rs).map resOf

def resOne (tmps : Array Value) : ResultVar → Sem Value
  | .tmp t => pure (tmps.getD t undef)
  | .cell a t => do loadVar t (← asAddr (tmps.getD a undef))

theorem rvs_sound {P : Program} {G : Ghost} {s : AState} {a : Act} {w : World} (ht : VRels G s.tm a.tmps.toList) (hH : HRel G (· ∈ s.hp) (s.next ≤ ·) w) : ∀ {l : List ResultVar} {rs : List RV} {vs : List AV}, compRs P l = some rs → rvs (getE s.hp) s.tm rs = some vs →
    ∃ cvs, (l.mapM (resOne a.tmps)).run P w = .ok cvs w ∧ VRels G vs cvs
  | [], rs, vs, hc, hv => by
    simp only [compRs, Option.some.injEq] at hc
    subst hc
    simp only [rvs, Option.some.injEq] at hv
    subst hv
    exact ⟨[], by simp, by simp only [VRels]⟩
  | x :: l, rs, vs, hc, hv => by
    simp only [compRs, Option.bind_eq_some_iff, Option.map_eq_some_iff] at hc
    obtain ⟨r, h1, rs', h2, rfl⟩ := hc
    simp only [rvs, Option.bind_eq_some_iff, Option.map_eq_some_iff] at hv
    obtain ⟨v, h3, vs', h4, rfl⟩ := hv
    obtain ⟨cvs, h5, h6⟩ := rvs_sound ht hH h2 h4
    have one : ∃ cv, (resOne a.tmps x).run P w = .ok cv w ∧ VRel G v cv := by
      cases x with
      | tmp t =>
        simp only [compR, Option.some.injEq] at h1
        subst h1
        simp only [rv1, Option.some.injEq] at h3
        subst h3
        exact ⟨a.tmps.getD t undef, by simp only [resOne, Sem.run_pure], getT_sound ht t⟩
      | cell ad t =>
        simp only [compR, Option.bind_eq_some_iff] at h1
        obtain ⟨⟨ag, n⟩, hty, h1⟩ := h1
        split at h1
        · cases h1
        · rename_i hn
          cases h1
          simp only [rv1] at h3
          obtain ⟨b, off, cv, hx, hr, hrun⟩ := s_loadVar (vals := [getT s.tm ad]) (cx := a.tmps.getD ad undef) hty (fun e => Decidable.byContradiction fun x => hn ⟨e, x⟩) hH
            (by simp only [VRels]; exact ⟨_, [], rfl, getT_sound ht ad, rfl⟩) (look_mem s) rfl h3
          exact ⟨cv, by simp only [resOne, hx, asAddr, Sem.run_bind, Sem.run_pure, Result.andThen_ok, hrun], hr⟩
    obtain ⟨cv, h7, h8⟩ := one
    refine ⟨cv :: cvs, ?_, ?_⟩
    · simp only [List.mapM_cons, Sem.run_bind, h7, Result.andThen_ok, h5, Sem.run_pure]
    · simp only [VRels]; exact ⟨cv, cvs, rfl, h8, h6⟩

theorem results_sound {P : Program} {G : Ghost} {s : AState} {a : Act} {w : World} (ht : VRels G s.tm a.tmps.toList) (hH : HRel G (· ∈ s.hp) (s.next ≤ ·) w) {fn : Func} {rs : List RV} {v : AV} (hc : compRs P fn.results.toList = some rs) (hv : resV s rs = some v) :
    ∃ cv, (results fn a.tmps).run P w = .ok cv w ∧ VRel G v cv := by
  simp only [resV, Option.map_eq_some_iff] at hv
  obtain ⟨vs, h1, rfl⟩ := hv
  obtain ⟨cvs, h2, h3⟩ := rvs_sound ht hH hc h1
  have hf : results fn a.tmps = (do
      let vs ← fn.results.mapM (resOne a.tmps)
      pure (if h : vs.size = 1 then vs[0] else .tuple vs)) := by
    unfold results
    congr 1
  have hl := h3.length
  refine ⟨if h : cvs.toArray.size = 1 then cvs.toArray[0] else .tuple cvs.toArray, ?_, ?_⟩
  · rw [hf, Array.mapM_eq_mapM_toList]
    simp [Sem.run_bind, h2]
  · cases vs with
    | nil =>
      simp only [VRels] at h3
      subst h3
      simp only [List.size_toArray, List.length_nil, Nat.zero_ne_one, dite_false, resOf, VRel, VRels]
      exact ⟨[], rfl, rfl⟩
    | cons v vs =>
      cases vs with
      | nil =>
        obtain ⟨c, rfl, h4⟩ := vrels1 h3
        simpa [resOf] using h4
      | cons v2 vs =>
        have : cvs.length ≠ 1 := by rw [hl]; simp
        simp only [List.size_toArray, this, dite_false, resOf, VRel]
        exact ⟨cvs, h3, rfl⟩

/-! ### the marks are taken -/
/-- the block D is not looked at any more -/
def Ghost.shut (G : Ghost) (D : Nat) : Ghost := { G with ro := fun r => if r = D then none else G.ro r }

theorem VRel.shut {G : Ghost} {D : Nat} (hD : G.ro D = some (.deferred (some []))) {v : AV} {c : Value} (h : VRel G v c) : VRel (G.shut D) v c :=
  VRel.csub (G := G) (G' := G.shut D) (fun _ _ h => h) (fun r cu e fr hr => by
    simp only [Ghost.shut]
    split
    · rename_i x; rw [x, hD] at hr; cases hr
    · exact hr) h
theorem VRels.shut {G : Ghost} {D : Nat} (hD : G.ro D = some (.deferred (some []))) {v : List AV} {c : List Value} (h : VRels G v c) : VRels (G.shut D) v c :=
  VRels.csub (G := G) (G' := G.shut D) (fun _ _ h => h) (fun r cu e fr hr => by
    simp only [Ghost.shut]
    split
    · rename_i x; rw [x, hD] at hr; cases hr
    · exact hr) h

theorem HRel.shut {G : Ghost} {M : HEnt → Prop} {fr : Nat → Prop} {w : World} {D : Nat} {o : Obj} (h : HRel G M fr w) (hD : G.ro D = some (.deferred (some []))) (hP : ¬ G.an.P D) : HRel (G.shut D) M fr (w.putObj D o) := by
  have hne : ∀ e, M e → ∀ l, G.ι e.id = some l → l.b ≠ D := fun e he l hl x => by
    obtain ⟨l', h1, _, h3, _⟩ := h.ent e he
    rw [hl] at h1; cases h1
    rw [x, hD] at h3; cases h3
  refine ⟨fun r o' hr => ?_, fun e he => ?_, h.sep, h.fresh, h.uniq, h.own, fun r hr => ?_, fun r hr => ?_⟩
  · simp only [Ghost.shut] at hr
    split at hr
    · cases hr
    · rename_i hne; rw [World.putObj_heap_other hne]; exact h.ro r o' hr
  · obtain ⟨l, h1, h2, h3, h4⟩ := h.ent e he
    refine ⟨l, h1, ?_, ?_, h4⟩
    · have hb := h2.world (w' := w.putObj D o) (World.putObj_heap_other (hne e he l h1))
      cases hk : e.blk with
      | rows a b vals =>
        rw [hk] at hb
        obtain ⟨g1, g2, cur, g3, g4, pre, suf, g5, g6, g7⟩ := hb
        refine ⟨g1, g2, cur, g3, g4, pre, suf, g5, g6.shut hD, g7⟩
      | obj o' => rw [hk] at hb; exact hb
    · simp only [Ghost.shut]; split
      · rfl
      · exact h3
  · rw [World.putObj_size]; exact h.sz r hr
  · have hne : r ≠ D := fun x => hP (x ▸ hr)
    simp only [Ghost.shut, if_neg hne]
    exact ⟨(h.lo r hr).1, (World.putObj_heap_other hne).trans (h.lo r hr).2⟩

theorem SRel.leaves {P : Program} {E : Env} {fn : Func} {s : AState} {a : Act} {rs : List RV} {v : AV} {R : Ending → World → Prop} {r : Option Nat} {n : Nat} (hrs : compRs P fn.results.toList = some rs) (hres : resV s rs = some v)
    (hR : ∀ G w cv, HRel G (· ∈ s.hp) (s.next ≤ ·) w → VRel G v cv → E.G.le G → Keeps E.w w → R (.returned cv) w) :
    ∀ (pre : List Nat) (G : Ghost) (w : World), VRels G s.tm a.tmps.toList → HRel G (· ∈ s.hp) (s.next ≤ ·) w → E.G.le G → Keeps E.w w → pre.Nodup → (∀ D ∈ pre, G.ro D = some (.deferred (some [])) ∧ E.w.heap.size ≤ D) →
      LeavesInM (FW r) n P fn a.tmps R (pre.map mark) .returning w
  | [], G, w, ht, hH, hle, hk, _, _ => by
    obtain ⟨cv, h1, h2⟩ := results_sound ht hH hrs hres
    exact ⟨cv, h1, hR G w cv hH h2 hle hk⟩
  | D :: pre, G, w, ht, hH, hle, hk, hnd, hD => by
    obtain ⟨h1, h2⟩ := hD D (by simp)
    rw [List.nodup_cons] at hnd
    have hP : ¬ G.an.P D := fun x => by
      have := E.sz D (by rw [hle.an] at x; exact x)
      omega
    refine ⟨by simp, .inl ⟨D, _, rfl, run_takeDeferred (hH.ro _ _ h1), ?_⟩⟩
    refine SRel.leaves hrs hres hR pre (G.shut D) _ (ht.shut h1) (hH.shut h1 hP) ⟨⟨hle.ι, fun r o hr => ?_⟩, hle.an⟩ (hk.trans ⟨rfl, rfl, rfl, by rw [World.putObj_size]; exact Nat.le_refl _⟩) hnd.2 fun D' hD' => ?_
    · simp only [Ghost.shut]
      split
      · rename_i x
        have := E.ok r o hr
        omega
      · exact hle.ro r o hr
    · obtain ⟨h3, h4⟩ := hD D' (by simp [hD'])
      simp only [Ghost.shut]
      rw [if_neg (fun (x : D' = D) => hnd.1 (x ▸ hD'))]
      exact ⟨h3, h4⟩

/-! ### what is said of code -/
/-- from the state s the code comes, at each of its ends, to where K says; numbers below b are others'; y tells of what was there; q: may it be the code of a round? -/
def Awp (P : Program) (q : Bool) (y : Ghost → Prop) (b : Nat) (c : Code) (K : Exit → AState → Prop) (s : AState) : Prop :=
  ∀ (r : Option Nat) (n : Nat) (E : Env), E.nx = b → (q = false → r = none) → y E.G → ∀ (G : Ghost) (a : Act) (w : World), SRel E G s a w →
    c.wpIn (FW r) n P (fun e a' w' => ∃ s' G', K e s' ∧ SRel E G' s' a' w') a w

theorem anys (G : Ghost) : ∀ k, VRels G (List.replicate k .any) (List.replicate k undef) := by
  intro k
  induction k with
  | zero => simp only [List.replicate_zero, VRels]
  | succ k ih => simp only [List.replicate_succ, VRels]; exact ⟨undef, _, rfl, by simp only [VRel], ih⟩

def HRel.env {G : Ghost} {M : HEnt → Prop} {nx : Nat} {w : World} (h : HRel G M (nx ≤ ·) w) (ds : List Deferred) : Env :=
  ⟨G, w, ds, nx, h.fresh, fun r o hr => (Array.getElem?_eq_some_iff.1 (h.ro r o hr)).1, h.sz⟩

theorem loky_of_awp {P : Program} {y : Ghost → Prop} {f : FuncId} {fn : Func} {c : Code} {rs : List RV} {args : List AV} {hp : List HEnt} {nx : Nat} {R : AV → List HEnt → Nat → Prop} (hent : ∀ (cargs : Array Value) (w : World), (callFunc f cargs).run P w = .ok (.enter f cargs) w)
    (hf : P.funcs[f]? = some fn) (hb : fn.body = some c) (hrs : compRs P fn.results.toList = some rs)
    (h : Awp P false y nx c (fun e s' => (e = .normal ∨ e = .ret) ∧ ∃ v, resV s' rs = some v ∧ R v s'.hp s'.next) ⟨args ++ List.replicate (fn.ntmps - args.length) .any, hp, nx⟩) : LOkY y P f args hp nx R := by
  refine ⟨hent, fun G w cargs hy hH hr => ?_⟩
  refine calls_FW (r := none) (n := 0) (callsIn_of_wp_marks hf hb trivial ?_)
  have hs : SRel (hH.env []) G ⟨args ++ List.replicate (fn.ntmps - args.length) .any, hp, nx⟩ { tmps := cargs.toArray ++ Array.replicate (fn.ntmps - cargs.toArray.size) undef, defers := [] } w := by
    refine ⟨?_, hH, Dfr.nil (E := hH.env []), .rfl, .rfl⟩
    simp only [Array.toList_append, List.size_toArray, Array.toList_replicate]
    rw [← hr.length]
    exact hr.append (anys G _)
  refine wpIn_mono (h none 0 (hH.env []) rfl (fun _ => rfl) hy G _ w hs) ?_
  rintro e a' w' ⟨s', G', ⟨he, v, hres, hR⟩, hs'⟩
  obtain ⟨pre, h1, h2, h3⟩ := hs'.df
  have h1 : a'.defers = pre.map mark := by rw [h1]; exact List.append_nil _
  have fin : LeavesInM (FW none) 0 P fn a'.tmps (Ends R G w) a'.defers .returning w' := by
    rw [h1]
    exact SRel.leaves (E := hH.env []) hrs hres (fun G'' w'' cv g1 g2 g3 g4 => ⟨v, _, _, G'', cv, hR, rfl, g3, g1, g2, g4⟩) pre G' w' hs'.tm hs'.hp hs'.le hs'.kp h2 h3
  rcases he with rfl | rfl <;> exact fin

end Eng

namespace Eng
open Go Go.RowKit
set_option linter.unusedSimpArgs false
set_option linter.unusedVariables false

/-! ### calls that change the heap -/
abbrev HCtx := Nat → List AV → List HEnt → Nat → Option (AV × List HEnt × Nat)
/-- it stands for a call of 'yield' -/
abbrev yld : Nat := 987654321
def HGood (P : Program) (hx : HCtx) : Prop := ∀ f vals hp nx v hp' nx', f ≠ yld → hx f vals hp nx = some (v, hp', nx') → LOk P f vals hp nx v hp' nx'
def noHx : HCtx := fun _ _ _ _ => none
theorem noHx_good (P : Program) : HGood P noHx := fun _ _ _ _ _ _ _ _ h => by simp [noHx] at h

/-- what a call of 'yield' does, wherever more is known than in G0 -/
def YOk (P : Program) (G0 : Ghost) (t : Nat) (vals : List AV) (hp : List HEnt) (nx : Nat) (v : AV) (hp' : List HEnt) (nx' : Nat) : Prop :=
  ∀ (n : Nat) (G : Ghost) (w : World) (cvals : List Value) (x : Loc), G0.le G → HRel G (· ∈ hp) (nx ≤ ·) w → G.ι t = some x → VRels G vals cvals →
    ∃ f tmps assign body, (Instr.yield x.b cvals.toArray).run P w = .ok (.round x.b f tmps assign body) w ∧
      RoundIn (FW none) n P x.b f tmps assign body w (Ends (fun u h m => u = v ∧ h = hp' ∧ m = nx') G w)
def YH (P : Program) (hx : HCtx) (G0 : Ghost) : Prop := ∀ t vals hp nx v hp' nx', hx yld (.yield t :: vals) hp nx = some (v, hp', nx') → YOk P G0 t vals hp nx v hp' nx'
def YHr (P : Program) (hx : HCtx) (r : Option Nat) (G0 : Ghost) : Prop := ∀ t vals hp nx v hp' nx', hx yld (.yield t :: vals) hp nx = some (v, hp', nx') → r = none ∧ YOk P G0 t vals hp nx v hp' nx'
theorem YH_no (P : Program) (G : Ghost) : YH P noHx G := fun _ _ _ _ _ _ _ h => by simp [noHx] at h

def target : AOp → List AV → Option (Nat × List AV)
  | .call f, vals => if f = yld then none else some (f, vals)
  | .callv, .fn f first cap :: vals => if f = yld then none else some (f, first ++ vals ++ cap)
  | .callv, .yield t :: vals => some (yld, .yield t :: vals)
  | _, _ => none

def putH (s : AState) (dst : Option Nat) (r : AV × List HEnt × Nat) : AState := { tm := (s.put dst r.1).tm, hp := r.2.1, next := r.2.2 }

/-- with the heap handed on; else as ever -/
def orStep (cs : Ctx) (o : AOper) (s : AState) : Option (AV × List HEnt × Nat) → Option AState
  | some r => some (putH s o.dst r)
  | none => step cs o s

def stepC (cs : Ctx) (hx : HCtx) (o : AOper) (s : AState) : Option (Nat × List AV) → Option AState
  | some t => match o.guard with
    | none => orStep cs o s (hx t.1 t.2 s.hp s.next)
    | some _ => step cs o s
  | none => step cs o s

def stepH (cs : Ctx) (hx : HCtx) (o : AOper) (s : AState) : Option AState :=
  match o.op with
  | .call _ | .callv => stepC cs hx o s (target o.op (evs s.tm o.xs))
  | _ => step cs o s

def runH (cs : Ctx) (hx : HCtx) : List AOper → AState → Option AState
  | [], s => some s
  | o :: os, s => obind (stepH cs hx o s) (runH cs hx os)

section
variable {P : Program} {E : Env} {r : Option Nat} {n : Nat} {Q : Exit → Act → World → Prop} {cs : Ctx} {hx : HCtx} {G : Ghost} {a : Act} {w : World} {s s' : AState} {o : Oper} {K : Act → World → Prop}

theorem call_sound (hh : HGood P hx) (hy : YHr P hx r E.G) {op : Op} {aop : AOp} {xs : List Operand} {ys : List Opd} (hc : CA P op aop xs) (ho : o.op = op) (hys : opds xs = some ys) {f : Nat} {args : List AV} (ht : target aop (evs s.tm ys) = some (f, args))
    {v : AV} {hp' : List HEnt} {nx' : Nat} (hr : hx f args s.hp s.next = some (v, hp', nx')) (h : SRel E G s a w)
    (hK : ∀ (G' : Ghost) (a' : Act) (w' : World), SRel E G' (putH s o.dst (v, hp', nx')) a' w' → K a' w') : o.wpIn (FW r) n P a w K Q := by
  have hv := opds_sound h.tm hys
  have fin : f ≠ yld → ∀ cvals : List Value, VRels G args cvals → ((∀ (cargs : Array Value) (w : World), (callFunc f cargs).run P w = .ok (.enter f cargs) w) → (execOp a.eval o).run P w = .ok (.enter f cvals.toArray) w) → (∀ c, o.op ≠ .defer c) → o.wpIn (FW r) n P a w K Q := by
    intro hf cvals hargs hrun hd
    obtain ⟨hent, hok⟩ := hh _ _ _ _ _ _ _ hf hr
    refine wpIn_run hd (hrun hent) ⟨fun h => by simp [FW, Fence.wide] at h, callsIn_FW ((hok G w cvals h.hp hargs).mono ?_)⟩
    rintro e w' ⟨_, _, _, G', cv, ⟨rfl, rfl, rfl⟩, rfl, hle, hH, hcv, hk⟩
    exact hK G' _ w' ⟨put_sound (VRels.mono hle _ h.tm) hcv o.dst, hH, by rw [put_df]; exact h.df.mono hle, h.le.trans hle, h.kp.trans hk⟩
  cases hc with
  | @call g args0 argTypes =>
    simp only [target] at ht
    split at ht
    · cases ht
    rename_i hf
    simp only [Option.some.injEq, Prod.mk.injEq] at ht
    obtain ⟨rfl, rfl⟩ := ht
    refine fin hf _ hv (fun hent => ?_) (by rw [ho]; simp)
    have e : (args0.toList.map a.eval).toArray = args0.map a.eval := by rw [← Array.toList_map]
    rw [e]
    simp [execOp, ho, resolve, Deferred.ofValue, invoke, Act.eval, hent]
  | @callv t args0 argTypes =>
    cases hvals : evs s.tm ys with
    | nil => rw [hvals] at hv; simp [VRels] at hv
    | cons g vs =>
      rw [hvals] at hv ht
      simp only [List.map_cons, VRels] at hv
      obtain ⟨c, cvs, he0, hg, hvs⟩ := hv
      simp only [List.cons.injEq] at he0
      obtain ⟨rfl, rfl⟩ := he0
      cases g <;> simp only [target] at ht <;> try (cases ht; done)
      case fn f' first cap =>
        split at ht
        · cases ht
        rename_i hf
        simp only [Option.some.injEq, Prod.mk.injEq] at ht
        obtain ⟨rfl, rfl⟩ := ht
        simp only [VRel] at hg
        obtain ⟨cf, cc, hf1, hcap, hfn⟩ := hg
        refine fin hf _ ((hf1.append hvs).append hcap) (fun hent => ?_) (by rw [ho]; simp)
        have e : ((cf ++ args0.toList.map a.eval) ++ cc).toArray = (cf.toArray ++ args0.map a.eval) ++ cc.toArray := by
          rw [← Array.toList_map]; simp
        rw [e]
        simp [execOp, ho, resolve, hfn, Deferred.ofValue, invoke, hent]
      case yield u =>
        simp only [Option.some.injEq, Prod.mk.injEq] at ht
        obtain ⟨rfl, rfl⟩ := ht
        simp only [VRel] at hg
        obtain ⟨x, hx, hfn⟩ := hg
        obtain ⟨rfl, hyok⟩ := hy _ _ _ _ _ _ _ hr
        obtain ⟨f, tmps, assign, body, hrun, hround⟩ := hyok (n - 1) G w _ x h.le h.hp hx hvs
        have e : (args0.toList.map a.eval).toArray = args0.map a.eval := by rw [← Array.toList_map]
        rw [e] at hrun
        have hrun2 : (execOp a.eval o).run P w = .ok (.round x.b f tmps assign body) w := by
          simp [execOp, ho, resolve, hfn, Deferred.ofValue, invoke, hrun]
        refine wpIn_run (by rw [ho]; simp) hrun2 ⟨fun h => by simp [FW, Fence.wide] at h, hround.mono ?_⟩
        rintro e w' ⟨_, _, _, G', cv, ⟨rfl, rfl, rfl⟩, rfl, hle, hH, hcv, hk⟩
        exact hK G' _ w' ⟨put_sound (VRels.mono hle _ h.tm) hcv o.dst, hH, by rw [put_df]; exact h.df.mono hle, h.le.trans hle, h.kp.trans hk⟩
  | @bs _ _ _ _ _ _ fz => cases fz <;> simp [target] at ht
  | _ => simp [target] at ht

theorem stepH_sound (hcs : Good P cs) (hh : HGood P hx) (hy : YHr P hx r E.G) {ops : Array Oper} {ao : AOper} (hc : compO P ops.toList o = some ao) (hs : stepH cs hx ao s = some s') (h : SRel E G s a w)
    (hK : ∀ (G' : Ghost) (a' : Act) (w' : World), SRel E G' s' a' w' → K a' w') :
    if Region.wanted o (yielded ops a.tmps) then o.wpIn (FW r) n P a w K Q else (∀ f, o.about P w a.eval = some f → (FW r).fn f) ∧ K (a.put o.dst undef) w := by
  have base : step cs ao s = some s' → (if Region.wanted o (yielded ops a.tmps) then o.wpIn (FW r) n P a w K Q else (∀ f, o.about P w a.eval = some f → (FW r).fn f) ∧ K (a.put o.dst undef) w) := fun hs => step_sound (r := r) (n := n) (Q := Q) hcs hc hs h hK
  have main : stepC cs hx ao s (target ao.op (evs s.tm ao.xs)) = some s' → (if Region.wanted o (yielded ops a.tmps) then o.wpIn (FW r) n P a w K Q else (∀ f, o.about P w a.eval = some f → (FW r).fn f) ∧ K (a.put o.dst undef) w) := fun hs => by
    unfold stepC at hs
    split at hs
    · rename_i t ht
      obtain ⟨f, args⟩ := t
      split at hs
      · rename_i hg
        unfold orStep at hs
        split at hs
        · rename_i res hr
          obtain ⟨v, hp', nx'⟩ := res
          simp only [Option.some.injEq] at hs
          subst hs
          have hc' := hc
          unfold compO at hc'
          simp only [Option.bind_eq_some_iff, Option.map_eq_some_iff] at hc'
          obtain ⟨⟨op, xs⟩, hA, ys, hys, g, hg', rfl⟩ := hc'
          have hgn : o.guard = none := by
            cases hgd : o.guard with
            | none => rfl
            | some p =>
              rw [hgd] at hg'
              simp only [compG, Option.map_eq_some_iff] at hg'
              obtain ⟨d, _, rfl⟩ := hg'
              cases hg
          rw [if_pos (by simp [Region.wanted, hgn])]
          exact call_sound (r := r) (n := n) (Q := Q) (o := o) hh hy (compA_inv hA) rfl hys ht hr h hK
        · exact base hs
      · exact base hs
    · exact base hs
  unfold stepH at hs
  split at hs
  · exact main hs
  · exact main hs
  · exact base hs

theorem runH_sound (hcs : Good P cs) (hh : HGood P hx) (hy : YHr P hx r E.G) {ops : Array Oper} : ∀ {l : List Oper} {k : Nat} {aops : List AOper} {s s' : AState} {G : Ghost} {a : Act} {w : World}, compL P ops.toList l = some aops → (∀ i, l[i]? = ops[k + i]?) → runH cs hx aops s = some s' → SRel E G s a w →
    (∀ (G' : Ghost) (a' : Act) (w' : World), SRel E G' s' a' w' → Q .normal a' w') → wpOpsIn (FW r) n P ops Q (List.range' k l.length) a w
  | [], k, aops, s, s', G, a, w, hc, hl, hs, h, hQ => by
    simp only [compL, Option.some.injEq] at hc
    subst hc
    simp only [runH, Option.some.injEq] at hs
    subst hs
    simpa [wpOpsIn] using hQ G a w h
  | o :: l, k, aops, s, s', G, a, w, hc, hl, hs, h, hQ => by
    simp only [compL, Option.bind_eq_some_iff, Option.map_eq_some_iff] at hc
    obtain ⟨ao, h1, r', h2, rfl⟩ := hc
    simp only [runH] at hs
    cases hst : stepH cs hx ao s with
    | none => rw [hst] at hs; cases hs
    | some s1 =>
      rw [hst] at hs
      simp only [obind, Option.bind_some] at hs
      have hk : ops[k]? = some o := by have := hl 0; simp at this; exact this.symm
      simp only [List.length_cons, List.range'_succ, wpOpsIn, hk]
      have hl' : ∀ i, l[i]? = ops[k + 1 + i]? := fun i => by
        have := hl (i + 1)
        simp only [List.getElem?_cons_succ] at this
        rw [this]; congr 1; omega
      exact stepH_sound hcs hh hy h1 hst h fun G' a' w' h' => runH_sound hcs hh hy h2 hl' hs h' hQ

theorem region_seqH (hcs : Good P cs) (hh : HGood P hx) (hy : YHr P hx r E.G) {id : Nat} {ops : Array Oper} {aops : List AOper} (hc : compL P ops.toList ops.toList = some aops) (hs : runH cs hx aops s = some s') (h : SRel E G s a w)
    (hQ : ∀ (G' : Ghost) (a' : Act) (w' : World), SRel E G' s' a' w' → Q .normal a' w') : (Code.region id ops false).wpIn (FW r) n P Q a w := by
  refine wpIn_region ?_
  have := runH_sound (r := r) (n := n) (Q := Q) (k := 0) hcs hh hy hc (fun i => by rw [Nat.zero_add, Array.getElem?_toList]) hs h hQ
  rwa [Array.length_toList, ← List.range_eq_range'] at this
end

/-! ### code -/
inductive AC where
  | skip
  | ops (dr : Bool) (pairs : List (Nat × Nat)) (l : List AOper)
  | seq (x y : AC)
  | cond (c : Opd) (x y : AC)
  | block (id : Nat) (x : AC)
  | loop (x : AC)
  | exit (id : Nat)
  | ret
  | rf (g : Opd) (ps : List Nat) (x y : AC)
  | bad

def compC (P : Program) : Code → Option AC
  | .skip => some .skip
  | .region _ ops dr =>
    match compL P ops.toList ops.toList with
    | none => some .bad
    | some l => if dr then (if okD ops.toList (masks ops.toList []) l then some (.ops true (pairsOf (masks ops.toList []) l) l) else some .bad) else some (.ops false [] l)
  | .seq a b => (compC P a).bind fun x => (compC P b).map fun y => .seq x y
  | .cond c a b => (opd c).bind fun d => (compC P a).bind fun x => (compC P b).map fun y => .cond d x y
  | .block id a => (compC P a).map fun x => .block id x
  | .loop a => (compC P a).map fun x => .loop x
  | .exit id => some (.exit id)
  | .ret => some .ret
  | .rangeFunc g ps a b => (opd g).bind fun d => (compC P a).bind fun x => (compC P b).map fun y => .rf d ps.toList x y
  | _ => none

abbrev Post := Exit → AState → Prop

def eThen (f : AState → Prop) (K : Post) : Post
  | .normal, s => f s
  | e, s => K e s
def eBlk (id : Nat) (K : Post) : Post
  | .exit j, s => if j = id then K .normal s else K (.exit j) s
  | e, s => K e s

theorem eThen_normal (f : AState → Prop) (K : Post) (s : AState) : eThen f K .normal s = f s := rfl
theorem eThen_ret (f : AState → Prop) (K : Post) (s : AState) : eThen f K .ret s = K .ret s := rfl
theorem eThen_exit (f : AState → Prop) (K : Post) (i : Nat) (s : AState) : eThen f K (.exit i) s = K (.exit i) s := rfl
theorem eBlk_normal (id : Nat) (K : Post) (s : AState) : eBlk id K .normal s = K .normal s := rfl
theorem eBlk_ret (id : Nat) (K : Post) (s : AState) : eBlk id K .ret s = K .ret s := rfl
theorem eBlk_exit (id : Nat) (K : Post) (i : Nat) (s : AState) : eBlk id K (.exit i) s = if i = id then K .normal s else K (.exit i) s := rfl

/-- code without loops -/
def AC.noLp : AC → Bool
  | .seq x y => x.noLp && y.noLp
  | .cond _ x y => x.noLp && y.noLp
  | .block _ x => x.noLp
  | .loop _ => false
  | .rf _ _ _ _ => false
  | _ => true

/-- what the compiled code stands for -/
def Cor (P : Program) (y : Ghost → Prop) (b : Nat) (x : AC) (K : Post) (s : AState) : Prop := ∀ c, compC P c = some x → Awp P false y b c K s

def okN (K : AState → Prop) : Option AState → Prop
  | some s => K s
  | none => False

def condV (x y : AState → Prop) (s : AState) : AV → Prop
  | .bool p => (p = true → x s) ∧ (p = false → y s)
  | _ => False

def AW (P : Program) (cs : Ctx) (hx : HCtx) (b : Nat) : AC → Post → AState → Prop
  | .skip, K, s => K .normal s
  | .ops false _ l, K, s => okN (K .normal) (runH cs hx l s)
  | .ops true ps l, K, s => okN (K .normal) (runD cs l ps s)
  | .seq x y, K, s => AW P cs hx b x (eThen (AW P cs hx b y K) K) s
  | .cond c x y, K, s => condV (AW P cs hx b x K) (AW P cs hx b y K) s (evO s.tm c)
  | .block id x, K, s => AW P cs hx b x (eBlk id K) s
  | .exit id, K, s => K (.exit id) s
  | .ret, K, s => K .ret s
  | .loop x, K, s => Cor P (YH P hx) b (.loop x) K s
  | .rf g ps x y, K, s => Cor P (YH P hx) b (.rf g ps x y) K s
  | .bad, _, _ => False

theorem Awp.mono {P : Program} {q : Bool} {y : Ghost → Prop} {b : Nat} {c : Code} {K K' : Post} {s : AState} (h : Awp P q y b c K s) (hk : ∀ e s, K e s → K' e s) : Awp P q y b c K' s := fun r n E hE hr hyy G a w hs =>
  wpIn_mono (h r n E hE hr hyy G a w hs) fun e a' w' ⟨s', G', h1, h2⟩ => ⟨s', G', hk _ _ h1, h2⟩

theorem Awp.seq {P : Program} {q : Bool} {y : Ghost → Prop} {b : Nat} {u v : Code} {K : Post} {s : AState} (h : Awp P q y b u (eThen (Awp P q y b v K) K) s) : Awp P q y b (.seq u v) K s := fun r n E hE hr hyy G a w hs => by
  refine wpIn_seq (wpIn_mono (h r n E hE hr hyy G a w hs) ?_)
  rintro e a' w' ⟨s', G', h1, h2⟩
  cases e with
  | normal => exact h1 r n E hE hr hyy G' a' w' h2
  | _ => exact ⟨s', G', h1, h2⟩

theorem Awp.cond {P : Program} {q : Bool} {y : Ghost → Prop} {b : Nat} {c : Operand} {d : Opd} {u v : Code} {K : Post} {s : AState} (hc : opd c = some d) (h : condV (Awp P q y b u K) (Awp P q y b v K) s (evO s.tm d)) : Awp P q y b (.cond c u v) K s := fun r n E hE hr hyy G a w hs => by
  have hv := opd_sound hs.tm hc
  cases hd : evO s.tm d <;> rw [hd] at h hv <;> simp only [condV] at h
  rename_i p
  simp only [VRel] at hv
  exact wpIn_cond_split hv (fun e => h.1 e r n E hE hr hyy G a w hs) (fun e => h.2 e r n E hE hr hyy G a w hs)

theorem Awp.block {P : Program} {q : Bool} {y : Ghost → Prop} {b : Nat} {id : Nat} {x : Code} {K : Post} {s : AState} (h : Awp P q y b x (eBlk id K) s) : Awp P q y b (.block id x) K s := fun r n E hE hr hyy G a w hs => by
  refine wpIn_block (wpIn_mono (h r n E hE hr hyy G a w hs) ?_)
  rintro e a' w' ⟨s', G', h1, h2⟩
  cases e with
  | exit j =>
    simp only [eBlk] at h1
    simp only [Exit.inBlock]
    split
    · rename_i he; rw [if_pos he] at h1; exact ⟨s', G', h1, h2⟩
    · rename_i he; rw [if_neg he] at h1; exact ⟨s', G', h1, h2⟩
  | _ => exact ⟨s', G', h1, h2⟩

/-- s2 says no more than s does -/
def Wkn (b : Nat) (s s2 : AState) : Prop := ∀ E : Env, E.nx = b → ∀ G a w, SRel E G s a w → ∃ G', SRel E G' s2 a w

theorem Wkn.rfl {b : Nat} {s : AState} : Wkn b s s := fun _ _ G _ _ h => ⟨G, h⟩
theorem Wkn.trans {b : Nat} {s1 s2 s3 : AState} (h : Wkn b s1 s2) (h' : Wkn b s2 s3) : Wkn b s1 s3 := fun E hE G a w hs =>
  let ⟨G', h1⟩ := h E hE G a w hs
  h' E hE G' a w h1

theorem Wkn.of (k : Wk) {s : AState} (hk : k.ok (idg s.hp) = true) : Wkn k.b s (k.st s) := fun E hE G a w hs => by
  have hko := Wk.ok_iff hk
  obtain ⟨h1, h2⟩ := wk_sound hko hs.hp
  refine ⟨k.ghost s.hp G w, keepT_sound h1 _ 0 hs.tm, h2, hs.df.ro (wk_ro hs.hp), ⟨⟨fun t l ht => ?_, fun r o hr => wk_ro hs.hp _ _ (hs.le.ro _ _ hr)⟩, hs.le.an⟩, hs.kp⟩
  have hlt : t < k.b := Nat.lt_of_not_le fun x => by rw [E.nw t (hE ▸ x)] at ht; cases ht
  simp only [Wk.ghost, hlt, if_true]
  exact hs.le.ι t l ht

theorem Awp.wk {P : Program} {q : Bool} {y : Ghost → Prop} {b : Nat} {c : Code} {K : Post} {s s2 : AState} (hw : Wkn b s s2) (h : Awp P q y b c K s2) : Awp P q y b c K s := fun r n E hE hr hyy G a w hs =>
  let ⟨G', h1⟩ := hw E hE G a w hs
  h r n E hE hr hyy G' a w h1

theorem least {p : Nat → Prop} (h : ∃ m, p m) : ∃ m, p m ∧ ∀ k, p k → m ≤ k := by
  obtain ⟨m, hm⟩ := h
  induction m using Nat.strongRecOn with
  | _ m ih =>
    by_cases hex : ∃ k, k < m ∧ p k
    · obtain ⟨k, hk, hp⟩ := hex
      exact ih k hk hp
    · exact ⟨m, hm, fun k hk => Nat.le_of_not_lt fun x => hex ⟨k, x, hk⟩⟩

theorem Awp.loop {P : Program} {q : Bool} {y : Ghost → Prop} {b : Nat} {c : Code} {K : Post} {α : Type} (S : α → AState) (I : α → Prop) (μ : α → Nat)
    (step : ∀ x, I x → Awp P q y b c (eThen (fun s' => ∃ x', I x' ∧ μ x' < μ x ∧ Wkn b s' (S x')) K) (S x)) {x : α} (h0 : I x) {s : AState} (hw : Wkn b s (S x)) : Awp P q y b (.loop c) K s := fun r n E hE hr hyy G a w hs => by
  obtain ⟨G1, hs⟩ := hw E hE G a w hs
  let A : Nat → Act → World → Prop := fun m a w => ∃ x, I x ∧ μ x ≤ m ∧ ∃ G, SRel E G (S x) a w
  have hex : A (μ x) a w := ⟨x, h0, Nat.le_refl _, G1, hs⟩
  classical
  refine wpIn_loop (fun a w => ∃ m, A m a w) (fun a w => if h : ∃ m, A m a w then Classical.choose (least h) else 0) ⟨_, hex⟩ ?_
  intro a w hm
  obtain ⟨x, hI, hle, G, hs⟩ := (Classical.choose_spec (least hm)).1
  refine wpIn_mono (step x hI r n E hE hr hyy G a w hs) ?_
  rintro e a' w' ⟨s', G', h1, h2⟩
  cases e with
  | normal =>
    obtain ⟨x', hI', hlt, hwk⟩ := h1
    obtain ⟨G'', h3⟩ := hwk E hE G' a' w' h2
    have hA : ∃ m, A m a' w' := ⟨μ x', x', hI', Nat.le_refl _, G'', h3⟩
    refine ⟨hA, ?_⟩
    rw [dif_pos hA, dif_pos hm]
    have : Classical.choose (least hA) ≤ μ x' := (Classical.choose_spec (least hA)).2 _ ⟨x', hI', Nat.le_refl _, G'', h3⟩
    omega
  | _ => exact ⟨s', G', h1, h2⟩

end Eng

namespace Eng
open Go Go.RowKit
set_option linter.unusedSimpArgs false
set_option linter.unusedVariables false

section
variable {P : Program} {cs : Ctx} {hx : HCtx} {b : Nat}

theorem yhr {q : Bool} (hq : q = true → ∀ t vals hp nx, hx yld (.yield t :: vals) hp nx = none) {r : Option Nat} (hr : q = false → r = none) {G : Ghost} (hy : YH P hx G) : YHr P hx r G := fun t vals hp nx v hp' nx' h => by
  cases q with
  | false => exact ⟨hr rfl, hy _ _ _ _ _ _ _ h⟩
  | true => rw [hq rfl] at h; cases h

theorem AW_sound {q : Bool} (hcs : Good P cs) (hh : HGood P hx) (hm : P.follows .mixedOrders = true) (hq : q = true → ∀ t vals hp nx, hx yld (.yield t :: vals) hp nx = none) : ∀ (c : Code) {x : AC} {K : Post} {s : AState}, compC P c = some x → (q = true → x.noLp = true) → AW P cs hx b x K s → Awp P q (YH P hx) b c K s
  | .skip, x, K, s, hc, hlp, h => by
    simp only [compC, Option.some.injEq] at hc
    subst hc
    exact fun r n E hE hr hyy G a w hs => wpIn_skip ⟨s, G, h, hs⟩
  | .region id ops dr, x, K, s, hc, hlp, h => by
    simp only [compC] at hc
    cases hl : compL P ops.toList ops.toList with
    | none => rw [hl] at hc; cases hc; exact h.elim
    | some l =>
    rw [hl] at hc
    simp only at hc
    cases dr with
    | true =>
      simp only [if_true] at hc
      split at hc
      · rename_i hok
        cases hc
        simp only [AW] at h
        cases hrd : runD cs l (pairsOf (masks ops.toList []) l) s with
        | none => rw [hrd] at h; exact h.elim
        | some s' =>
          rw [hrd] at h
          exact fun r n E hE hr hyy G a w hs => region_drawn hcs hm hl hok rfl hrd hs fun G' a' w' h' => ⟨s', G', h, h'⟩
      · cases hc; exact h.elim
    | false =>
      simp only [Bool.false_eq_true, if_false, Option.some.injEq] at hc
      subst hc
      simp only [AW] at h
      cases hrd : runH cs hx l s with
      | none => rw [hrd] at h; exact h.elim
      | some s' =>
        rw [hrd] at h
        exact fun r n E hE hr hyy G a w hs => region_seqH hcs hh (yhr hq hr hyy) hl hrd hs fun G' a' w' h' => ⟨s', G', h, h'⟩
  | .seq c d, x, K, s, hc, hlp, h => by
    simp only [compC, Option.bind_eq_some_iff, Option.map_eq_some_iff] at hc
    obtain ⟨x1, h1, y1, h2, rfl⟩ := hc
    simp only [AW] at h
    have hlp' : q = true → x1.noLp = true ∧ y1.noLp = true := fun e => by simpa only [AC.noLp, Bool.and_eq_true] using hlp e
    refine Awp.seq ((AW_sound hcs hh hm hq c h1 (fun e => (hlp' e).1) h).mono fun e s' hk => ?_)
    cases e with
    | normal => exact AW_sound hcs hh hm hq d h2 (fun e => (hlp' e).2) hk
    | _ => exact hk
  | .cond c d e, x, K, s, hc, hlp, h => by
    simp only [compC, Option.bind_eq_some_iff, Option.map_eq_some_iff] at hc
    obtain ⟨o, h0, x1, h1, y1, h2, rfl⟩ := hc
    simp only [AW] at h
    refine Awp.cond h0 ?_
    cases ho : evO s.tm o <;> rw [ho] at h <;> simp only [condV] at h ⊢
    have hlp' : q = true → x1.noLp = true ∧ y1.noLp = true := fun e => by simpa only [AC.noLp, Bool.and_eq_true] using hlp e
    exact ⟨fun hp => AW_sound hcs hh hm hq d h1 (fun e => (hlp' e).1) (h.1 hp), fun hp => AW_sound hcs hh hm hq e h2 (fun e => (hlp' e).2) (h.2 hp)⟩
  | .block id c, x, K, s, hc, hlp, h => by
    simp only [compC, Option.map_eq_some_iff] at hc
    obtain ⟨x1, h1, rfl⟩ := hc
    exact Awp.block (AW_sound hcs hh hm hq c h1 (fun e => by simpa only [AC.noLp] using hlp e) h)
  | .loop c, x, K, s, hc, hlp, h => by
    have hc' := hc
    simp only [compC, Option.map_eq_some_iff] at hc'
    obtain ⟨x1, h1, rfl⟩ := hc'
    cases q with
    | false => exact h _ hc
    | true => simp [AC.noLp] at hlp
  | .exit id, x, K, s, hc, hlp, h => by
    simp only [compC, Option.some.injEq] at hc
    subst hc
    exact fun r n E hE hr hyy G a w hs => wpIn_exit ⟨s, G, h, hs⟩
  | .ret, x, K, s, hc, hlp, h => by
    simp only [compC, Option.some.injEq] at hc
    subst hc
    exact fun r n E hE hr hyy G a w hs => wpIn_ret ⟨s, G, h, hs⟩
  | .rangeFunc g ps c d, x, K, s, hc, hlp, h => by
    have hc' := hc
    simp only [compC, Option.bind_eq_some_iff, Option.map_eq_some_iff] at hc'
    obtain ⟨o, h0, x1, h1, y1, h2, rfl⟩ := hc'
    cases q with
    | false => exact h _ hc
    | true => simp [AC.noLp] at hlp
  | .scope _, _, _, _, hc, _, _ => by simp [compC] at hc
  | .label _, _, _, _, hc, _, _ => by simp [compC] at hc
  | .goto _, _, _, _, hc, _, _ => by simp [compC] at hc
  | .refuse _, _, _, _, hc, _, _ => by simp [compC] at hc

theorem compC_loop : ∀ {c : Code} {x : AC}, compC P c = some (.loop x) → ∃ d, c = .loop d ∧ compC P d = some x := by
  intro c x h
  cases c with
  | loop d =>
    simp only [compC, Option.map_eq_some_iff, AC.loop.injEq] at h
    obtain ⟨y, h1, rfl⟩ := h
    exact ⟨d, rfl, h1⟩
  | region id ops dr =>
    simp only [compC] at h
    split at h
    · cases h
    · split at h
      · split at h <;> cases h
      · cases h
  | seq d e =>
    simp only [compC, Option.bind_eq_some_iff, Option.map_eq_some_iff] at h
    obtain ⟨_, _, _, _, h⟩ := h
    cases h
  | cond c d e =>
    simp only [compC, Option.bind_eq_some_iff, Option.map_eq_some_iff] at h
    obtain ⟨_, _, _, _, _, _, h⟩ := h
    cases h
  | rangeFunc g ps d e =>
    simp only [compC, Option.bind_eq_some_iff, Option.map_eq_some_iff] at h
    obtain ⟨_, _, _, _, _, _, h⟩ := h
    cases h
  | _ => simp [compC] at h

theorem Cor.of (hcs : Good P cs) (hh : HGood P hx) (hm : P.follows .mixedOrders = true) {x : AC} {K : Post} {s : AState} (h : AW P cs hx b x K s) : Cor P (YH P hx) b x K s := fun c hc => AW_sound hcs hh hm (fun e => by cases e) c hc (fun e => by cases e) h

theorem Cor.mono {y : Ghost → Prop} {x : AC} {K K' : Post} {s : AState} (h : Cor P y b x K s) (hk : ∀ e s, K e s → K' e s) : Cor P y b x K' s := fun c hc => (h c hc).mono hk

theorem Cor.wk {y : Ghost → Prop} {x : AC} {K : Post} {s s2 : AState} (hw : Wkn b s s2) (h : Cor P y b x K s2) : Cor P y b x K s := fun c hc => (h c hc).wk hw

theorem Awp.post {q : Bool} {y : Ghost → Prop} {c : Code} {K : Post} {s : AState} (h : Awp P q y b c (fun e s' => ∃ s2, Wkn b s' s2 ∧ K e s2) s) : Awp P q y b c K s := fun r n E hE hr hyy G a w hs =>
  wpIn_mono (h r n E hE hr hyy G a w hs) fun e a' w' ⟨s', G', ⟨s2, h1, h2⟩, h3⟩ =>
    let ⟨G'', h4⟩ := h1 E hE G' a' w' h3
    ⟨s2, G'', h2, h4⟩

/-- a state may be weakened where code ends -/
theorem Cor.post {y : Ghost → Prop} {x : AC} {K : Post} {s : AState} (h : Cor P y b x (fun e s' => ∃ s2, Wkn b s' s2 ∧ K e s2) s) : Cor P y b x K s := fun c hc => (h c hc).post

/-- THE LOOP: at the head of round x the state is S x. -/
theorem Cor.loop (hcs : Good P cs) (hh : HGood P hx) (hm : P.follows .mixedOrders = true) {y : AC} {K : Post} {α : Type} (S : α → AState) (I : α → Prop) (μ : α → Nat)
    (step : ∀ x, I x → AW P cs hx b y (eThen (fun s' => ∃ x', I x' ∧ μ x' < μ x ∧ Wkn b s' (S x')) K) (S x)) {x : α} (h0 : I x) {s : AState} (hw : Wkn b s (S x)) : Cor P (YH P hx) b (.loop y) K s := fun c hc => by
  obtain ⟨d, rfl, hd⟩ := compC_loop hc
  exact Awp.loop S I μ (fun x hx => AW_sound hcs hh hm (fun e => by cases e) d hd (fun e => by cases e) (step x hx)) h0 hw

end

/-- what is known of a function's text -/
structure FnC (P : Program) (f n : Nat) (x : AC) (rs : List RV) : Prop where
  ent : ∀ (cargs : Array Value) (w : World), (callFunc f cargs).run P w = .ok (.enter f cargs) w
  fn : ∃ fn c, P.funcs[f]? = some fn ∧ fn.body = some c ∧ compRs P fn.results.toList = some rs ∧ compC P c = some x ∧ fn.ntmps = n

def bg (n : Nat) (args : List AV) (hp : List HEnt) (nx : Nat) : AState := ⟨args ++ List.replicate (n - args.length) .any, hp, nx⟩

def Fi (rs : List RV) (v : AV) : Post := fun e s' => (e = .normal ∨ e = .ret) ∧ ∃ u, resV s' rs = some u ∧ purR (getE s'.hp) u = some v ∧ sub1 noId v = v

theorem FnC.fok {P : Program} {f n : Nat} {x : AC} {rs : List RV} (h : FnC P f n x rs) {y : Ghost → Prop} {args : List AV} {v : AV} (hargs : subs noId args = args) (hb : Cor P y 0 x (Fi rs v) (bg n args [] 0)) (hy : ∀ G, y G := by intro G; exact YH_no _ G) : FOk P f args v := by
  obtain ⟨fn, c, h1, h2, h3, h4, rfl⟩ := h.fn
  refine LOkE.fok (LOkY.e (loky_of_awp h.ent h1 h2 h3 ((hb c h4).mono ?_)) hy) hargs
  rintro e s' ⟨h5, u, h6, h7⟩
  exact ⟨h5, u, h6, h7⟩

def FinL (rs : List RV) (R : AV → List HEnt → Nat → Prop) : Post := fun e s' => (e = .normal ∨ e = .ret) ∧ ∃ u, resV s' rs = some u ∧ R u s'.hp s'.next

theorem FnC.loky {P : Program} {f n : Nat} {x : AC} {rs : List RV} (h : FnC P f n x rs) {y : Ghost → Prop} {args : List AV} {hp : List HEnt} {nx : Nat} {R : AV → List HEnt → Nat → Prop} (hb : Cor P y nx x (FinL rs R) (bg n args hp nx)) : LOkY y P f args hp nx R := by
  obtain ⟨fn, c, h1, h2, h3, h4, rfl⟩ := h.fn
  exact loky_of_awp h.ent h1 h2 h3 (hb c h4)

theorem FnC.lok {P : Program} {f n : Nat} {x : AC} {rs : List RV} (h : FnC P f n x rs) {y : Ghost → Prop} {args : List AV} {hp : List HEnt} {nx : Nat} {R : AV → List HEnt → Nat → Prop} (hb : Cor P y nx x (FinL rs R) (bg n args hp nx)) (hy : ∀ G, y G := by intro G; exact YH_no _ G) : LOkE P f args hp nx R :=
  (h.loky hb).e hy

/-! ### 'and', 'or' -/
theorem pickV_and (c b : Bool) : pickV (.bool c) (optv c (.bool b)) (.bool false) = some (.bool (c && b)) := by cases c <;> rfl
theorem pickV_or (c b : Bool) : pickV (.bool c) (.bool true) (optv (!c) (.bool b)) = some (.bool (c || b)) := by cases c <;> rfl
theorem pickV_ct (a b : AV) : pickV (.bool true) a b = some a := rfl
theorem pickV_cf (a b : AV) : pickV (.bool false) a b = some b := rfl

end Eng
