/-
  THE ENGINE, PART Z: compiled code is sound; a function's contract out of its body.
-/
import Derived.Test.YtjfhhaaogcgkpaaEngY
namespace Eng
open Go Go.RowKit
set_option linter.unusedSimpArgs false
set_option linter.unusedVariables false

section
variable {P : Program} {cs : Ctx} {hx : HCtx} {b : Nat}

theorem yhr {q : Bool} (hq : q = true → ∀ t vals hp nx, hx yld (.yield t :: vals) hp nx = none) {r : Option Nat} (hr : q = false → r = none) {G : Ghost} (hy : YH P hx G) : YHr P hx r G := fun t vals hp nx v hp' nx' h => by
  cases q with
  | false => exact ⟨hr rfl, hy _ _ _ _ _ _ _ h⟩
  | true => rw [hq rfl] at h; cases h

theorem AW_sound {q : Bool} (hcs : Good P cs) (hh : HGood P hx) (hm : P.follows .mixedOrders = true) (hq : q = true → ∀ t vals hp nx, hx yld (.yield t :: vals) hp nx = none) : ∀ (c : Code) {x : AC} {K : Post} {s : AState}, compC P c = some x → (q = true → x.noLp = true) → AW P cs hx b x K s → Awp P q (YH P hx) b c K s
  | .skip, x, K, s, hc, hlp, h => by
    simp only [compC, Option.some.injEq] at hc
    subst hc
    exact fun r n E hE hr hyy G a w hs => wpIn_skip ⟨s, G, h, hs⟩
  | .region id ops dr, x, K, s, hc, hlp, h => by
    simp only [compC, Option.bind_eq_some_iff] at hc
    obtain ⟨l, hl, hc⟩ := hc
    cases dr with
    | true =>
      simp only [if_true] at hc
      split at hc
      · rename_i hok
        cases hc
        simp only [AW] at h
        cases hrd : runD cs l (pairsOf (masks ops.toList []) l) s with
        | none => rw [hrd] at h; exact h.elim
        | some s' =>
          rw [hrd] at h
          exact fun r n E hE hr hyy G a w hs => region_drawn hcs hm hl hok rfl hrd hs fun G' a' w' h' => ⟨s', G', h, h'⟩
      · cases hc
    | false =>
      simp only [Bool.false_eq_true, if_false, Option.some.injEq] at hc
      subst hc
      simp only [AW] at h
      cases hrd : runH cs hx l s with
      | none => rw [hrd] at h; exact h.elim
      | some s' =>
        rw [hrd] at h
        exact fun r n E hE hr hyy G a w hs => region_seqH hcs hh (yhr hq hr hyy) hl hrd hs fun G' a' w' h' => ⟨s', G', h, h'⟩
  | .seq c d, x, K, s, hc, hlp, h => by
    simp only [compC, Option.bind_eq_some_iff, Option.map_eq_some_iff] at hc
    obtain ⟨x1, h1, y1, h2, rfl⟩ := hc
    simp only [AW] at h
    have hlp' : q = true → x1.noLp = true ∧ y1.noLp = true := fun e => by simpa only [AC.noLp, Bool.and_eq_true] using hlp e
    refine Awp.seq ((AW_sound hcs hh hm hq c h1 (fun e => (hlp' e).1) h).mono fun e s' hk => ?_)
    cases e with
    | normal => exact AW_sound hcs hh hm hq d h2 (fun e => (hlp' e).2) hk
    | _ => exact hk
  | .cond c d e, x, K, s, hc, hlp, h => by
    simp only [compC, Option.bind_eq_some_iff, Option.map_eq_some_iff] at hc
    obtain ⟨o, h0, x1, h1, y1, h2, rfl⟩ := hc
    simp only [AW] at h
    refine Awp.cond h0 ?_
    cases ho : evO s.tm o <;> rw [ho] at h <;> simp only [condV] at h ⊢
    have hlp' : q = true → x1.noLp = true ∧ y1.noLp = true := fun e => by simpa only [AC.noLp, Bool.and_eq_true] using hlp e
    exact ⟨fun hp => AW_sound hcs hh hm hq d h1 (fun e => (hlp' e).1) (h.1 hp), fun hp => AW_sound hcs hh hm hq e h2 (fun e => (hlp' e).2) (h.2 hp)⟩
  | .block id c, x, K, s, hc, hlp, h => by
    simp only [compC, Option.map_eq_some_iff] at hc
    obtain ⟨x1, h1, rfl⟩ := hc
    exact Awp.block (AW_sound hcs hh hm hq c h1 (fun e => by simpa only [AC.noLp] using hlp e) h)
  | .loop c, x, K, s, hc, hlp, h => by
    have hc' := hc
    simp only [compC, Option.map_eq_some_iff] at hc'
    obtain ⟨x1, h1, rfl⟩ := hc'
    cases q with
    | false => exact h _ hc
    | true => simp [AC.noLp] at hlp
  | .exit id, x, K, s, hc, hlp, h => by
    simp only [compC, Option.some.injEq] at hc
    subst hc
    exact fun r n E hE hr hyy G a w hs => wpIn_exit ⟨s, G, h, hs⟩
  | .ret, x, K, s, hc, hlp, h => by
    simp only [compC, Option.some.injEq] at hc
    subst hc
    exact fun r n E hE hr hyy G a w hs => wpIn_ret ⟨s, G, h, hs⟩
  | .rangeFunc g ps c d, x, K, s, hc, hlp, h => by
    have hc' := hc
    simp only [compC, Option.bind_eq_some_iff, Option.map_eq_some_iff] at hc'
    obtain ⟨o, h0, x1, h1, y1, h2, rfl⟩ := hc'
    cases q with
    | false => exact h _ hc
    | true => simp [AC.noLp] at hlp
  | .scope _, _, _, _, hc, _, _ => by simp [compC] at hc
  | .label _, _, _, _, hc, _, _ => by simp [compC] at hc
  | .goto _, _, _, _, hc, _, _ => by simp [compC] at hc
  | .refuse _, _, _, _, hc, _, _ => by simp [compC] at hc

theorem compC_loop : ∀ {c : Code} {x : AC}, compC P c = some (.loop x) → ∃ d, c = .loop d ∧ compC P d = some x := by
  intro c x h
  cases c with
  | loop d =>
    simp only [compC, Option.map_eq_some_iff, AC.loop.injEq] at h
    obtain ⟨y, h1, rfl⟩ := h
    exact ⟨d, rfl, h1⟩
  | region id ops dr =>
    simp only [compC, Option.bind_eq_some_iff] at h
    obtain ⟨l, _, h⟩ := h
    split at h
    · split at h <;> cases h
    · cases h
  | seq d e =>
    simp only [compC, Option.bind_eq_some_iff, Option.map_eq_some_iff] at h
    obtain ⟨_, _, _, _, h⟩ := h
    cases h
  | cond c d e =>
    simp only [compC, Option.bind_eq_some_iff, Option.map_eq_some_iff] at h
    obtain ⟨_, _, _, _, _, _, h⟩ := h
    cases h
  | rangeFunc g ps d e =>
    simp only [compC, Option.bind_eq_some_iff, Option.map_eq_some_iff] at h
    obtain ⟨_, _, _, _, _, _, h⟩ := h
    cases h
  | _ => simp [compC] at h

theorem Cor.of (hcs : Good P cs) (hh : HGood P hx) (hm : P.follows .mixedOrders = true) {x : AC} {K : Post} {s : AState} (h : AW P cs hx b x K s) : Cor P (YH P hx) b x K s := fun c hc => AW_sound hcs hh hm (fun e => by cases e) c hc (fun e => by cases e) h

theorem Cor.mono {y : Ghost → Prop} {x : AC} {K K' : Post} {s : AState} (h : Cor P y b x K s) (hk : ∀ e s, K e s → K' e s) : Cor P y b x K' s := fun c hc => (h c hc).mono hk

theorem Cor.wk {y : Ghost → Prop} {x : AC} {K : Post} {s s2 : AState} (hw : Wkn b s s2) (h : Cor P y b x K s2) : Cor P y b x K s := fun c hc => (h c hc).wk hw

theorem Awp.post {q : Bool} {y : Ghost → Prop} {c : Code} {K : Post} {s : AState} (h : Awp P q y b c (fun e s' => ∃ s2, Wkn b s' s2 ∧ K e s2) s) : Awp P q y b c K s := fun r n E hE hr hyy G a w hs =>
  wpIn_mono (h r n E hE hr hyy G a w hs) fun e a' w' ⟨s', G', ⟨s2, h1, h2⟩, h3⟩ =>
    let ⟨G'', h4⟩ := h1 E hE G' a' w' h3
    ⟨s2, G'', h2, h4⟩

/-- a state may be weakened where code ends -/
theorem Cor.post {y : Ghost → Prop} {x : AC} {K : Post} {s : AState} (h : Cor P y b x (fun e s' => ∃ s2, Wkn b s' s2 ∧ K e s2) s) : Cor P y b x K s := fun c hc => (h c hc).post

/-- THE LOOP: at the head of round x the state is S x. -/
theorem Cor.loop (hcs : Good P cs) (hh : HGood P hx) (hm : P.follows .mixedOrders = true) {y : AC} {K : Post} {α : Type} (S : α → AState) (I : α → Prop) (μ : α → Nat)
    (step : ∀ x, I x → AW P cs hx b y (eThen (fun s' => ∃ x', I x' ∧ μ x' < μ x ∧ Wkn b s' (S x')) K) (S x)) {x : α} (h0 : I x) {s : AState} (hw : Wkn b s (S x)) : Cor P (YH P hx) b (.loop y) K s := fun c hc => by
  obtain ⟨d, rfl, hd⟩ := compC_loop hc
  exact Awp.loop S I μ (fun x hx => AW_sound hcs hh hm (fun e => by cases e) d hd (fun e => by cases e) (step x hx)) h0 hw

end

/-- what is known of a function's text -/
structure FnC (P : Program) (f n : Nat) (x : AC) (rs : List RV) : Prop where
  ent : ∀ (cargs : Array Value) (w : World), (callFunc f cargs).run P w = .ok (.enter f cargs) w
  fn : ∃ fn c, P.funcs[f]? = some fn ∧ fn.body = some c ∧ compRs P fn.results.toList = some rs ∧ compC P c = some x ∧ fn.ntmps = n

def bg (n : Nat) (args : List AV) (hp : List HEnt) (nx : Nat) : AState := ⟨args ++ List.replicate (n - args.length) .any, hp, nx⟩

def Fi (rs : List RV) (v : AV) : Post := fun e s' => (e = .normal ∨ e = .ret) ∧ ∃ u, resV s' rs = some u ∧ purR (getE s'.hp) u = some v ∧ sub1 noId v = v

theorem FnC.fok {P : Program} {f n : Nat} {x : AC} {rs : List RV} (h : FnC P f n x rs) {y : Ghost → Prop} {args : List AV} {v : AV} (hargs : subs noId args = args) (hb : Cor P y 0 x (Fi rs v) (bg n args [] 0)) (hy : ∀ G, y G := by intro G; exact YH_no _ G) : FOk P f args v := by
  obtain ⟨fn, c, h1, h2, h3, h4, rfl⟩ := h.fn
  refine LOkE.fok (LOkY.e (loky_of_awp h.ent h1 h2 h3 ((hb c h4).mono ?_)) hy) hargs
  rintro e s' ⟨h5, u, h6, h7⟩
  exact ⟨h5, u, h6, h7⟩

def FinL (rs : List RV) (R : AV → List HEnt → Nat → Prop) : Post := fun e s' => (e = .normal ∨ e = .ret) ∧ ∃ u, resV s' rs = some u ∧ R u s'.hp s'.next

theorem FnC.loky {P : Program} {f n : Nat} {x : AC} {rs : List RV} (h : FnC P f n x rs) {y : Ghost → Prop} {args : List AV} {hp : List HEnt} {nx : Nat} {R : AV → List HEnt → Nat → Prop} (hb : Cor P y nx x (FinL rs R) (bg n args hp nx)) : LOkY y P f args hp nx R := by
  obtain ⟨fn, c, h1, h2, h3, h4, rfl⟩ := h.fn
  exact loky_of_awp h.ent h1 h2 h3 (hb c h4)

theorem FnC.lok {P : Program} {f n : Nat} {x : AC} {rs : List RV} (h : FnC P f n x rs) {y : Ghost → Prop} {args : List AV} {hp : List HEnt} {nx : Nat} {R : AV → List HEnt → Nat → Prop} (hb : Cor P y nx x (FinL rs R) (bg n args hp nx)) (hy : ∀ G, y G := by intro G; exact YH_no _ G) : LOkE P f args hp nx R :=
  (h.loky hb).e hy

/-! ### 'and', 'or' -/
theorem pickV_and (c b : Bool) : pickV (.bool c) (optv c (.bool b)) (.bool false) = some (.bool (c && b)) := by cases c <;> rfl
theorem pickV_or (c b : Bool) : pickV (.bool c) (.bool true) (optv (!c) (.bool b)) = some (.bool (c || b)) := by cases c <;> rfl
theorem pickV_ct (a b : AV) : pickV (.bool true) a b = some a := rfl
theorem pickV_cf (a b : AV) : pickV (.bool false) a b = some b := rfl

end Eng
