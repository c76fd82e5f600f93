/-
  THE ENGINE, PART X: contracts of functions that change what they are handed; results; what a function's body has to show.
-/
import Derived.Test.YtjfhhaaogcgkpaaEngW
import Derived.RangeFuncRecord
namespace Eng
open Go Go.RowKit
set_option linter.unusedSimpArgs false
set_option linter.unusedVariables false

/-- how a call may end: it returns some v, and leaves some heap -/
def Ends (R : AV → List HEnt → Nat → Prop) (G : Ghost) (w : World) : Ending → World → Prop := fun e w' =>
  ∃ v hp' nx' G' cv, R v hp' nx' ∧ e = .returned cv ∧ G.le G' ∧ HRel G' (· ∈ hp') (nx' ≤ ·) w' ∧ VRel G' v cv ∧ Keeps w w'

/-- THE CONTRACT OF A CALL IN THE HEAP hp (numbers from nx on are free), where y holds of what is there: it returns some v, and leaves some heap, of which R tells. -/
def LOkY (y : Ghost → Prop) (P : Program) (f : FuncId) (args : List AV) (hp : List HEnt) (nx : Nat) (R : AV → List HEnt → Nat → Prop) : Prop :=
  (∀ (cargs : Array Value) (w : World), (callFunc f cargs).run P w = .ok (.enter f cargs) w) ∧
  ∀ (G : Ghost) (w : World) (cargs : List Value), y G → HRel G (· ∈ hp) (nx ≤ ·) w → VRels G args cargs → Calls P f cargs.toArray w (Ends R G w)

def yT : Ghost → Prop := fun _ => True

def LOkE (P : Program) (f : FuncId) (args : List AV) (hp : List HEnt) (nx : Nat) (R : AV → List HEnt → Nat → Prop) : Prop :=
  (∀ (cargs : Array Value) (w : World), (callFunc f cargs).run P w = .ok (.enter f cargs) w) ∧
  ∀ (G : Ghost) (w : World) (cargs : List Value), HRel G (· ∈ hp) (nx ≤ ·) w → VRels G args cargs → Calls P f cargs.toArray w (Ends R G w)

theorem LOkY.e {y : Ghost → Prop} {P : Program} {f : FuncId} {args : List AV} {hp : List HEnt} {nx : Nat} {R : AV → List HEnt → Nat → Prop} (h : LOkY y P f args hp nx R) (hy : ∀ G, y G) : LOkE P f args hp nx R :=
  ⟨h.1, fun G w cargs h1 h2 => h.2 G w cargs (hy G) h1 h2⟩

abbrev LOk (P : Program) (f : FuncId) (args : List AV) (hp : List HEnt) (nx : Nat) (v : AV) (hp' : List HEnt) (nx' : Nat) : Prop :=
  LOkE P f args hp nx fun u h n => u = v ∧ h = hp' ∧ n = nx'

def noId : Nat → Fate := fun _ => .gone

def purR (lk : Look) : AV → Option AV
  | .tup us => (purs lk us).map .tup
  | v => pur lk v

theorem purR_sound {G G' : Ghost} {M : HEnt → Prop} {fr : Nat → Prop} {w : World} {lk : Look} (hle : G.le G') (hro : ∀ x, M x → ∀ l, G.ι x.id = some l → ∀ cur e, w.heap[l.b]? = some (.cells cur e (0, 0)) → G'.ro l.b = some (.cells cur e (0, 0)))
    (hH : HRel G M fr w) (hlk : ∀ t e, lk t = some e → M e ∧ e.id = t) {u u' : AV} {c : Value} (h : purR lk u = some u') (hv : VRel G u c) : VRel G' u' c := by
  cases u
  case tup us =>
    simp only [purR, Option.map_eq_some_iff] at h
    obtain ⟨us', h1, rfl⟩ := h
    simp only [VRel] at hv ⊢
    obtain ⟨ccs, h2, rfl⟩ := hv
    exact ⟨ccs, purs_sound hle hro hH hlk h1 h2, rfl⟩
  all_goals exact pur_sound hle hro hH hlk (by simpa only [purR] using h) hv

theorem LOkE.fok {P : Program} {f : FuncId} {args : List AV} {v' : AV} (h : LOkE P f args [] 0 fun v hp' _ => purR (getE hp') v = some v' ∧ sub1 noId v' = v') (hargs : subs noId args = args) : FOk P f args v' := by
  refine ⟨h.1, fun G w cargs hok hr => ?_⟩
  let G0 : Ghost := { ι := fun _ => none, ro := G.ro, an := ⟨fun r => r < w.heap.size, G.ro, fun r => w.heap[r]?⟩ }
  have hH : HRel G0 (· ∈ []) (0 ≤ ·) w := ⟨hok, fun e he => absurd he (by simp), fun e _ he => absurd he (by simp), fun _ _ => rfl, fun e _ he => absurd he (by simp), fun e he => absurd he (by simp), fun _ hr => hr, fun _ _ => ⟨rfl, rfl⟩⟩
  have hr0 : VRels G0 args cargs := by
    have : Subst G G0 noId := ⟨fun _ _ _ _ h => h, fun t u l h => by simp [noId] at h, fun t esz vals l h => by simp [noId] at h⟩
    have := VRels.subst this _ hr
    rwa [hargs] at this
  refine (h.2 G0 w cargs hH hr0).mono ?_
  rintro e w' ⟨v, hp', nx', G', cv, ⟨hv, hv'⟩, rfl, hle, hH', hv1, hk⟩
  have hlo : ∀ r, r < w.heap.size → G'.ro r = G.ro r ∧ w'.heap[r]? = w.heap[r]? := fun r hr => by
    have := hH'.lo r (by rw [hle.an]; exact hr)
    rw [hle.an] at this
    exact this
  refine ⟨cv, rfl, ⟨hk.os, hk.tape, hk.output, hk.size, fun r hr => (hlo r hr).2⟩, ?_⟩
  have hle2 : G'.le (G'.more w.heap.size w') := ⟨⟨fun _ _ h => h, fun r o hr => by
    simp only [Ghost.more]
    split
    · exact hr
    · exact hH'.ro r o hr⟩, rfl⟩
  have h2 := purR_sound (lk := getE hp') hle2 (fun x hx l hl cur e hc => by
    have := hH'.own x hx l hl
    rw [hle.an] at this
    have this : ¬ l.b < w.heap.size := this
    simp only [Ghost.more, this, if_false]
    exact hc) hH' (fun t e h => getE_mem h) hv hv1
  have : Subst (G'.more w.heap.size w') (G.more w.heap.size w') noId := by
    refine ⟨fun r cur e fr hr => ?_, fun t u l h => by simp [noId] at h, fun t esz vals l h => by simp [noId] at h⟩
    simp only [Ghost.more] at hr ⊢
    split
    · rename_i hlt
      simp only [hlt, if_true] at hr
      rw [← (hlo r hlt).1]; exact hr
    · rename_i hlt
      simp only [hlt, if_false] at hr
      exact hr
  have h3 := VRel.subst this _ h2
  rwa [hv'] at h3

/-! ### results -/
inductive RV where
  | tmp (t : Nat)
  | cell (a size : Nat) (ag : Bool)

def compR (P : Program) : ResultVar → Option RV
  | .tmp t => some (.tmp t)
  | .cell a t => (tyAgg P t).bind fun (ag, n) => if ag = false ∧ n ≠ 1 then none else some (.cell a n ag)

def compRs (P : Program) : List ResultVar → Option (List RV)
  | [] => some []
  | r :: rs => (compR P r).bind fun a => (compRs P rs).map fun b => a :: b

def rv1 (lk : Look) (tm : List AV) : RV → Option AV
  | .tmp t => some (getT tm t)
  | .cell a size ag => loadV lk size ag (getT tm a)

def rvs (lk : Look) (tm : List AV) : List RV → Option (List AV)
  | [] => some []
  | r :: rs => (rv1 lk tm r).bind fun a => (rvs lk tm rs).map fun b => a :: b

def resOf : List AV → AV
  | [v] => v
  | vs => .tup vs

def resV (s : AState) (rs : List RV) : Option AV := (rvs (getE s.hp) s.tm rs).map resOf

def resOne (tmps : Array Value) : ResultVar → Sem Value
  | .tmp t => pure (tmps.getD t undef)
  | .cell a t => do loadVar t (← asAddr (tmps.getD a undef))

theorem rvs_sound {P : Program} {G : Ghost} {s : AState} {a : Act} {w : World} (ht : VRels G s.tm a.tmps.toList) (hH : HRel G (· ∈ s.hp) (s.next ≤ ·) w) : ∀ {l : List ResultVar} {rs : List RV} {vs : List AV}, compRs P l = some rs → rvs (getE s.hp) s.tm rs = some vs →
    ∃ cvs, (l.mapM (resOne a.tmps)).run P w = .ok cvs w ∧ VRels G vs cvs
  | [], rs, vs, hc, hv => by
    simp only [compRs, Option.some.injEq] at hc
    subst hc
    simp only [rvs, Option.some.injEq] at hv
    subst hv
    exact ⟨[], by simp, by simp only [VRels]⟩
  | x :: l, rs, vs, hc, hv => by
    simp only [compRs, Option.bind_eq_some_iff, Option.map_eq_some_iff] at hc
    obtain ⟨r, h1, rs', h2, rfl⟩ := hc
    simp only [rvs, Option.bind_eq_some_iff, Option.map_eq_some_iff] at hv
    obtain ⟨v, h3, vs', h4, rfl⟩ := hv
    obtain ⟨cvs, h5, h6⟩ := rvs_sound ht hH h2 h4
    have one : ∃ cv, (resOne a.tmps x).run P w = .ok cv w ∧ VRel G v cv := by
      cases x with
      | tmp t =>
        simp only [compR, Option.some.injEq] at h1
        subst h1
        simp only [rv1, Option.some.injEq] at h3
        subst h3
        exact ⟨a.tmps.getD t undef, by simp only [resOne, Sem.run_pure], getT_sound ht t⟩
      | cell ad t =>
        simp only [compR, Option.bind_eq_some_iff] at h1
        obtain ⟨⟨ag, n⟩, hty, h1⟩ := h1
        split at h1
        · cases h1
        · rename_i hn
          cases h1
          simp only [rv1] at h3
          obtain ⟨b, off, cv, hx, hr, hrun⟩ := s_loadVar (vals := [getT s.tm ad]) (cx := a.tmps.getD ad undef) hty (fun e => Decidable.byContradiction fun x => hn ⟨e, x⟩) hH
            (by simp only [VRels]; exact ⟨_, [], rfl, getT_sound ht ad, rfl⟩) (look_mem s) rfl h3
          exact ⟨cv, by simp only [resOne, hx, asAddr, Sem.run_bind, Sem.run_pure, Result.andThen_ok, hrun], hr⟩
    obtain ⟨cv, h7, h8⟩ := one
    refine ⟨cv :: cvs, ?_, ?_⟩
    · simp only [List.mapM_cons, Sem.run_bind, h7, Result.andThen_ok, h5, Sem.run_pure]
    · simp only [VRels]; exact ⟨cv, cvs, rfl, h8, h6⟩

theorem results_sound {P : Program} {G : Ghost} {s : AState} {a : Act} {w : World} (ht : VRels G s.tm a.tmps.toList) (hH : HRel G (· ∈ s.hp) (s.next ≤ ·) w) {fn : Func} {rs : List RV} {v : AV} (hc : compRs P fn.results.toList = some rs) (hv : resV s rs = some v) :
    ∃ cv, (results fn a.tmps).run P w = .ok cv w ∧ VRel G v cv := by
  simp only [resV, Option.map_eq_some_iff] at hv
  obtain ⟨vs, h1, rfl⟩ := hv
  obtain ⟨cvs, h2, h3⟩ := rvs_sound ht hH hc h1
  have hf : results fn a.tmps = (do
      let vs ← fn.results.mapM (resOne a.tmps)
      pure (if h : vs.size = 1 then vs[0] else .tuple vs)) := by
    unfold results
    congr 1
  have hl := h3.length
  refine ⟨if h : cvs.toArray.size = 1 then cvs.toArray[0] else .tuple cvs.toArray, ?_, ?_⟩
  · rw [hf, Array.mapM_eq_mapM_toList]
    simp [Sem.run_bind, h2]
  · cases vs with
    | nil =>
      simp only [VRels] at h3
      subst h3
      simp only [List.size_toArray, List.length_nil, Nat.zero_ne_one, dite_false, resOf, VRel, VRels]
      exact ⟨[], rfl, rfl⟩
    | cons v vs =>
      cases vs with
      | nil =>
        obtain ⟨c, rfl, h4⟩ := vrels1 h3
        simpa [resOf] using h4
      | cons v2 vs =>
        have : cvs.length ≠ 1 := by rw [hl]; simp
        simp only [List.size_toArray, this, dite_false, resOf, VRel]
        exact ⟨cvs, h3, rfl⟩

/-! ### the marks are taken -/
/-- the block D is not looked at any more -/
def Ghost.shut (G : Ghost) (D : Nat) : Ghost := { G with ro := fun r => if r = D then none else G.ro r }

theorem VRel.shut {G : Ghost} {D : Nat} (hD : G.ro D = some (.deferred (some []))) {v : AV} {c : Value} (h : VRel G v c) : VRel (G.shut D) v c :=
  VRel.csub (G := G) (G' := G.shut D) (fun _ _ h => h) (fun r cu e fr hr => by
    simp only [Ghost.shut]
    split
    · rename_i x; rw [x, hD] at hr; cases hr
    · exact hr) h
theorem VRels.shut {G : Ghost} {D : Nat} (hD : G.ro D = some (.deferred (some []))) {v : List AV} {c : List Value} (h : VRels G v c) : VRels (G.shut D) v c :=
  VRels.csub (G := G) (G' := G.shut D) (fun _ _ h => h) (fun r cu e fr hr => by
    simp only [Ghost.shut]
    split
    · rename_i x; rw [x, hD] at hr; cases hr
    · exact hr) h

theorem HRel.shut {G : Ghost} {M : HEnt → Prop} {fr : Nat → Prop} {w : World} {D : Nat} {o : Obj} (h : HRel G M fr w) (hD : G.ro D = some (.deferred (some []))) (hP : ¬ G.an.P D) : HRel (G.shut D) M fr (w.putObj D o) := by
  have hne : ∀ e, M e → ∀ l, G.ι e.id = some l → l.b ≠ D := fun e he l hl x => by
    obtain ⟨l', h1, _, h3, _⟩ := h.ent e he
    rw [hl] at h1; cases h1
    rw [x, hD] at h3; cases h3
  refine ⟨fun r o' hr => ?_, fun e he => ?_, h.sep, h.fresh, h.uniq, h.own, fun r hr => ?_, fun r hr => ?_⟩
  · simp only [Ghost.shut] at hr
    split at hr
    · cases hr
    · rename_i hne; rw [World.putObj_heap_other hne]; exact h.ro r o' hr
  · obtain ⟨l, h1, h2, h3, h4⟩ := h.ent e he
    refine ⟨l, h1, ?_, ?_, h4⟩
    · have hb := h2.world (w' := w.putObj D o) (World.putObj_heap_other (hne e he l h1))
      cases hk : e.blk with
      | rows a b vals =>
        rw [hk] at hb
        obtain ⟨g1, g2, cur, g3, g4, pre, suf, g5, g6, g7⟩ := hb
        refine ⟨g1, g2, cur, g3, g4, pre, suf, g5, g6.shut hD, g7⟩
      | obj o' => rw [hk] at hb; exact hb
    · simp only [Ghost.shut]; split
      · rfl
      · exact h3
  · rw [World.putObj_size]; exact h.sz r hr
  · have hne : r ≠ D := fun x => hP (x ▸ hr)
    simp only [Ghost.shut, if_neg hne]
    exact ⟨(h.lo r hr).1, (World.putObj_heap_other hne).trans (h.lo r hr).2⟩

theorem SRel.leaves {P : Program} {E : Env} {fn : Func} {s : AState} {a : Act} {rs : List RV} {v : AV} {R : Ending → World → Prop} {r : Option Nat} {n : Nat} (hrs : compRs P fn.results.toList = some rs) (hres : resV s rs = some v)
    (hR : ∀ G w cv, HRel G (· ∈ s.hp) (s.next ≤ ·) w → VRel G v cv → E.G.le G → Keeps E.w w → R (.returned cv) w) :
    ∀ (pre : List Nat) (G : Ghost) (w : World), VRels G s.tm a.tmps.toList → HRel G (· ∈ s.hp) (s.next ≤ ·) w → E.G.le G → Keeps E.w w → pre.Nodup → (∀ D ∈ pre, G.ro D = some (.deferred (some [])) ∧ E.w.heap.size ≤ D) →
      LeavesInM (FW r) n P fn a.tmps R (pre.map mark) .returning w
  | [], G, w, ht, hH, hle, hk, _, _ => by
    obtain ⟨cv, h1, h2⟩ := results_sound ht hH hrs hres
    exact ⟨cv, h1, hR G w cv hH h2 hle hk⟩
  | D :: pre, G, w, ht, hH, hle, hk, hnd, hD => by
    obtain ⟨h1, h2⟩ := hD D (by simp)
    rw [List.nodup_cons] at hnd
    have hP : ¬ G.an.P D := fun x => by
      have := E.sz D (by rw [hle.an] at x; exact x)
      omega
    refine ⟨by simp, .inl ⟨D, _, rfl, run_takeDeferred (hH.ro _ _ h1), ?_⟩⟩
    refine SRel.leaves hrs hres hR pre (G.shut D) _ (ht.shut h1) (hH.shut h1 hP) ⟨⟨hle.ι, fun r o hr => ?_⟩, hle.an⟩ (hk.trans ⟨rfl, rfl, rfl, by rw [World.putObj_size]; exact Nat.le_refl _⟩) hnd.2 fun D' hD' => ?_
    · simp only [Ghost.shut]
      split
      · rename_i x
        have := E.ok r o hr
        omega
      · exact hle.ro r o hr
    · obtain ⟨h3, h4⟩ := hD D' (by simp [hD'])
      simp only [Ghost.shut]
      rw [if_neg (fun (x : D' = D) => hnd.1 (x ▸ hD'))]
      exact ⟨h3, h4⟩

/-! ### what is said of code -/
/-- from the state s the code comes, at each of its ends, to where K says; numbers below b are others'; y tells of what was there; q: may it be the code of a round? -/
def Awp (P : Program) (q : Bool) (y : Ghost → Prop) (b : Nat) (c : Code) (K : Exit → AState → Prop) (s : AState) : Prop :=
  ∀ (r : Option Nat) (n : Nat) (E : Env), E.nx = b → (q = false → r = none) → y E.G → ∀ (G : Ghost) (a : Act) (w : World), SRel E G s a w →
    c.wpIn (FW r) n P (fun e a' w' => ∃ s' G', K e s' ∧ SRel E G' s' a' w') a w

theorem anys (G : Ghost) : ∀ k, VRels G (List.replicate k .any) (List.replicate k undef) := by
  intro k
  induction k with
  | zero => simp only [List.replicate_zero, VRels]
  | succ k ih => simp only [List.replicate_succ, VRels]; exact ⟨undef, _, rfl, by simp only [VRel], ih⟩

def HRel.env {G : Ghost} {M : HEnt → Prop} {nx : Nat} {w : World} (h : HRel G M (nx ≤ ·) w) (ds : List Deferred) : Env :=
  ⟨G, w, ds, nx, h.fresh, fun r o hr => (Array.getElem?_eq_some_iff.1 (h.ro r o hr)).1, h.sz⟩

theorem loky_of_awp {P : Program} {y : Ghost → Prop} {f : FuncId} {fn : Func} {c : Code} {rs : List RV} {args : List AV} {hp : List HEnt} {nx : Nat} {R : AV → List HEnt → Nat → Prop} (hent : ∀ (cargs : Array Value) (w : World), (callFunc f cargs).run P w = .ok (.enter f cargs) w)
    (hf : P.funcs[f]? = some fn) (hb : fn.body = some c) (hrs : compRs P fn.results.toList = some rs)
    (h : Awp P false y nx c (fun e s' => (e = .normal ∨ e = .ret) ∧ ∃ v, resV s' rs = some v ∧ R v s'.hp s'.next) ⟨args ++ List.replicate (fn.ntmps - args.length) .any, hp, nx⟩) : LOkY y P f args hp nx R := by
  refine ⟨hent, fun G w cargs hy hH hr => ?_⟩
  refine calls_FW (r := none) (n := 0) (callsIn_of_wp_marks hf hb trivial ?_)
  have hs : SRel (hH.env []) G ⟨args ++ List.replicate (fn.ntmps - args.length) .any, hp, nx⟩ { tmps := cargs.toArray ++ Array.replicate (fn.ntmps - cargs.toArray.size) undef, defers := [] } w := by
    refine ⟨?_, hH, Dfr.nil (E := hH.env []), .rfl, .rfl⟩
    simp only [Array.toList_append, List.size_toArray, Array.toList_replicate]
    rw [← hr.length]
    exact hr.append (anys G _)
  refine wpIn_mono (h none 0 (hH.env []) rfl (fun _ => rfl) hy G _ w hs) ?_
  rintro e a' w' ⟨s', G', ⟨he, v, hres, hR⟩, hs'⟩
  obtain ⟨pre, h1, h2, h3⟩ := hs'.df
  have h1 : a'.defers = pre.map mark := by rw [h1]; exact List.append_nil _
  have fin : LeavesInM (FW none) 0 P fn a'.tmps (Ends R G w) a'.defers .returning w' := by
    rw [h1]
    exact SRel.leaves (E := hH.env []) hrs hres (fun G'' w'' cv g1 g2 g3 g4 => ⟨v, _, _, G'', cv, hR, rfl, g3, g1, g2, g4⟩) pre G' w' hs'.tm hs'.hp hs'.le hs'.kp h2 h3
  rcases he with rfl | rfl <;> exact fin

end Eng
