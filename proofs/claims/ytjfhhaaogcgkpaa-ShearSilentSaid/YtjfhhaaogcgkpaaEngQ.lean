/-
  THE ENGINE, PART Q: the operations of a region, one after the other.
-/
import Derived.Test.YtjfhhaaogcgkpaaEngP
namespace Eng
open Go Go.RowKit
set_option linter.unusedSimpArgs false
set_option linter.unusedVariables false

def opd : Operand → Option Opd
  | .tmp t => some (.t t)
  | .const v => (absC v).map .c
  | .func f => some (.c (.fn f [] []))
  | .global _ => none

def opds : List Operand → Option (List Opd)
  | [] => some []
  | x :: xs => (opd x).bind fun a => (opds xs).map fun r => a :: r

def usesTmp (t : Nat) : Operand → Bool
  | .tmp u => u == t
  | _ => false

/-- is the slice that is built here handed to a call of this region? (then it is not written any more) -/
def handed (ops : List Oper) : Option Nat → Bool
  | none => false
  | some d => ops.any fun o => match o.op with
    | .call { callee := .builtin .append, args, .. } => (args[1]?).any (usesTmp d)
    | .call { callee := .builtin _, .. } => false
    | .call { args, .. } => args.any (usesTmp d)
    | _ => false

def compG (ops : List Oper) : Option (Nat × Bool) → Option (Option (Nat × Bool))
  | none => some none
  | some (j, want) => ((ops[j]?).bind (·.dst)).map fun d => some (d, want)

def compO (P : Program) (ops : List Oper) (o : Oper) : Option AOper :=
  (compA P (handed ops o.dst) o.op).bind fun (op, xs) => (opds xs).bind fun ys => (compG ops o.guard).map fun g => ⟨o.dst, op, ys, g⟩

def compL (P : Program) (ops : List Oper) : List Oper → Option (List AOper)
  | [] => some []
  | o :: os => (compO P ops o).bind fun a => (compL P ops os).map fun r => a :: r

structure Env where
  G : Ghost
  w : World
  defers : List Deferred
  nx : Nat
  nw : ∀ t, nx ≤ t → G.ι t = none
  ok : ∀ r o, G.ro r = some o → r < w.heap.size
  sz : ∀ r, G.an.P r → r < w.heap.size

/-- the mark that a range over a function leaves -/
def mark (D : Nat) : Deferred := { target := .collected D, args := #[] }

/-- the deferred calls: marks alone, beside those that were there -/
def Dfr (E : Env) (G : Ghost) (ds : List Deferred) : Prop :=
  ∃ pre : List Nat, ds = pre.map mark ++ E.defers ∧ pre.Nodup ∧ ∀ D ∈ pre, G.ro D = some (.deferred (some [])) ∧ E.w.heap.size ≤ D

theorem Dfr.ro {E : Env} {G G' : Ghost} {ds : List Deferred} (h : Dfr E G ds) (hro : ∀ r o, G.ro r = some o → G'.ro r = some o) : Dfr E G' ds :=
  let ⟨pre, h1, h2, h3⟩ := h
  ⟨pre, h1, h2, fun D hD => ⟨hro _ _ (h3 D hD).1, (h3 D hD).2⟩⟩
theorem Dfr.mono {E : Env} {G G' : Ghost} {ds : List Deferred} (h : Dfr E G ds) (hle : G.le G') : Dfr E G' ds := h.ro hle.ro
theorem Dfr.nil {E : Env} {G : Ghost} : Dfr E G E.defers := ⟨[], rfl, List.nodup_nil, fun _ h => by simp at h⟩

structure SRel (E : Env) (G : Ghost) (s : AState) (a : Act) (w : World) : Prop where
  tm : VRels G s.tm a.tmps.toList
  hp : HRel G (· ∈ s.hp) (s.next ≤ ·) w
  df : Dfr E G a.defers
  le : E.G.le G
  kp : Keeps E.w w

theorem getT_eq : ∀ (l : List AV) (n : Nat), getT l n = l.getD n .any
  | [], n => by simp [getT]
  | v :: l, 0 => by simp [getT]
  | v :: l, n + 1 => by simp [getT, getT_eq l n]

theorem setT_eq : ∀ (l : List AV) (n : Nat) (x : AV), setT l n x = l.set n x
  | [], n, x => by simp [setT]
  | v :: l, 0, x => by simp [setT]
  | v :: l, n + 1, x => by simp [setT, setT_eq l n]

theorem getT_sound {G : Ghost} {tm : List AV} {a : Act} (h : VRels G tm a.tmps.toList) (n : Nat) : VRel G (getT tm n) (a.tmps.getD n undef) := by
  rw [getT_eq]
  cases hn : tm[n]? with
  | none => simp [List.getD, hn, VRel]
  | some v =>
    obtain ⟨c, h1, h2⟩ := h.get n v hn
    have e : a.tmps[n]? = some c := by rw [← Array.getElem?_toList]; exact h1
    rw [Array.getD_eq_getD_getElem?, e]
    simpa [List.getD, hn] using h2

theorem opd_sound {G : Ghost} {tm : List AV} {a : Act} (h : VRels G tm a.tmps.toList) {x : Operand} {y : Opd} (hx : opd x = some y) : VRel G (evO tm y) (a.eval x) := by
  cases x with
  | tmp t => simp only [opd, Option.some.injEq] at hx; subst hx; exact getT_sound h t
  | const v =>
    simp only [opd, Option.map_eq_some_iff] at hx
    obtain ⟨c, h1, rfl⟩ := hx
    exact absC_rel h1 G
  | func f =>
    simp only [opd, Option.some.injEq] at hx
    subst hx
    simp only [evO, Act.eval, VRel, VRels]
    exact ⟨[], [], rfl, rfl, rfl⟩
  | global g => simp [opd] at hx

theorem opds_sound {G : Ghost} {tm : List AV} {a : Act} (h : VRels G tm a.tmps.toList) : ∀ {xs : List Operand} {ys : List Opd}, opds xs = some ys → VRels G (evs tm ys) (xs.map a.eval)
  | [], ys, hx => by simp only [opds, Option.some.injEq] at hx; subst hx; simp [evs, VRels]
  | x :: xs, ys, hx => by
    simp only [opds, Option.bind_eq_some_iff, Option.map_eq_some_iff] at hx
    obtain ⟨y, h1, r, h2, rfl⟩ := hx
    simp only [evs, List.map_cons, VRels]
    exact ⟨_, _, rfl, opd_sound h h1, opds_sound h h2⟩

theorem put_sound {G : Ghost} {s : AState} {a : Act} (h : VRels G s.tm a.tmps.toList) {v : AV} {c : Value} (hv : VRel G v c) (dst : Option Nat) : VRels G (s.put dst v).tm (a.put dst c).tmps.toList := by
  cases dst with
  | none => exact h
  | some d =>
    simp only [AState.put, Act.put, setT_eq]
    have := h.set d hv
    simpa using this

theorem put_hp (s : AState) (dst : Option Nat) (v : AV) : (s.put dst v).hp = s.hp ∧ (s.put dst v).next = s.next := by cases dst <;> exact ⟨rfl, rfl⟩
theorem put_df (a : Act) (dst : Option Nat) (c : Value) : (a.put dst c).defers = a.defers := by cases dst <;> rfl

theorem mem_dropG : ∀ {hp : List HEnt} {t g : Nat} {e : HEnt}, e ∈ dropG hp t g → e ∈ hp ∧ (e.grp ≠ g ∨ e.id = t)
  | [], _, _, _, h => by simp [dropG] at h
  | x :: r, t, g, e, h => by
    simp only [dropG] at h
    split at h
    · split at h
      · rcases List.mem_cons.1 h with rfl | h
        · rename_i hid; exact ⟨by simp, .inr hid⟩
        · obtain ⟨h1, h2⟩ := mem_dropG h; exact ⟨by simp [h1], h2⟩
      · obtain ⟨h1, h2⟩ := mem_dropG h; exact ⟨by simp [h1], h2⟩
    · rename_i hg
      rcases List.mem_cons.1 h with rfl | h
      · exact ⟨by simp, .inl hg⟩
      · obtain ⟨h1, h2⟩ := mem_dropG h; exact ⟨by simp [h1], h2⟩

theorem mem_applyE {f : Eff} {hp : List HEnt} {e : HEnt} (h : e ∈ applyE f hp) : effM f (· ∈ hp) e := by
  cases f with
  | no => exact h
  | new x =>
    rcases List.mem_cons.1 h with rfl | h
    · exact .inr rfl
    · exact .inl h
  | set t g k => exact mem_setB h
  | ext t g x =>
    rcases List.mem_cons.1 h with rfl | h
    · exact .inr rfl
    · exact .inl (mem_dropG h)

theorem effOp_id {lk : Look} {id : Nat} {op : AOp} {vals : List AV} {v : AV} {f : Eff} (h : effOp lk id op vals = some (v, f)) {fr : Nat → Prop} {t : Nat} (ht : fr t) (hne : t ≠ id) : frE f fr t := by
  unfold effOp at h
  split at h
  · cases h; exact ⟨ht, hne⟩
  · split at h
    · split at h
      · cases h; exact ⟨ht, hne⟩
      · cases h
    · split at h
      · cases h; exact ⟨ht, hne⟩
      · cases h
  · split at h
    · cases h; exact ⟨ht, hne⟩
    · cases h
  · simp only [Option.map_eq_some_iff, Prod.mk.injEq] at h
    obtain ⟨f', hf, _, rfl⟩ := h
    unfold storeV at hf
    split at hf
    · split at hf
      · split at hf
        · simp only [Option.map_eq_some_iff] at hf
          obtain ⟨_, _, rfl⟩ := hf
          exact ht
        · cases hf
      · cases hf
    · cases hf
  · unfold appV at h
    split at h
    · simp only [Option.bind_eq_some_iff] at h
      obtain ⟨xs, _, h⟩ := h
      split at h
      · cases h; exact ht
      · split at h
        · cases h; exact ⟨ht, hne⟩
        · cases h
    · split at h
      · simp only [Option.bind_eq_some_iff] at h
        obtain ⟨xs, _, h⟩ := h
        split at h
        · cases h; exact ⟨ht, hne⟩
        · cases h
      · cases h
    · cases h
  · cases h

theorem optv_rel {G : Ghost} {v : AV} {c : Value} (h : VRel G v c) (b : Bool) (hb : b = true) : VRel G (optv b v) c := by subst hb; exact h

section
variable {P : Program} {E : Env} {G : Ghost} {s s' : AState} {a : Act} {w : World} {o : Oper} {r : Option Nat} {n : Nat} {K : Act → World → Prop} {Q : Exit → Act → World → Prop} {cs : Ctx}

theorem look_mem (s : AState) : ∀ t e, getE s.hp t = some e → e ∈ s.hp ∧ e.id = t := fun t e h => getE_mem h

/-- one operation without a guard -/
theorem stepR_sound (hcs : Good P cs) {ops : List Oper} {ao : AOper} (hc : compO P ops o = some ao) (hs : stepR cs ao s = some s') (h : SRel E G s a w)
    (hK : ∀ (G' : Ghost) (a' : Act) (w' : World), SRel E G' s' a' w' → K a' w') : o.wpIn (FW r) n P a w K Q := by
  unfold compO at hc
  simp only [Option.bind_eq_some_iff, Option.map_eq_some_iff] at hc
  obtain ⟨⟨op, xs⟩, hA, ys, hys, g, hg, rfl⟩ := hc
  have hca := compA_inv hA
  have hv := opds_sound h.tm hys
  unfold stepR at hs
  simp only at hs
  split at hs
  · cases he : effOp (getE s.hp) s.next op (evs s.tm ys) with
    | none => rw [he] at hs; cases hs
    | some p =>
      obtain ⟨v, f⟩ := p
      rw [he] at hs
      simp only [obind, Option.bind_some, putE, Option.some.injEq] at hs
      subst hs
      refine eff_sound (id := s.next) (Nat.le_refl _) hca rfl h.hp hv (look_mem s) he fun G' cv w' hle hcv hH hk => hK G' _ w' ⟨?_, ?_, ?_, h.le.trans hle, h.kp.trans hk⟩
      · exact put_sound (s := s) (VRels.mono hle _ h.tm) hcv o.dst
      · exact hH.sub (fun e he => mem_applyE he) fun t ht => effOp_id he (fr := (s.next ≤ ·)) (by show s.next ≤ t; have : s.next + 1 ≤ t := ht; omega) (by have : s.next + 1 ≤ t := ht; omega)
      · rw [put_df]; exact h.df.mono hle
  · cases he : valOp cs (getE s.hp) op (evs s.tm ys) with
    | none => rw [he] at hs; cases hs
    | some v =>
      rw [he] at hs
      simp only [obind, Option.bind_some, putV, Option.some.injEq] at hs
      subst hs
      refine val_sound hcs hca rfl h.hp hv (look_mem s) he fun G' cv w' hle hcv hH hb => hK G' _ w' ⟨?_, ?_, ?_, h.le.trans hle, h.kp.trans (.of_below hb)⟩
      · exact put_sound (VRels.mono hle _ h.tm) hcv o.dst
      · rw [(put_hp _ _ _).1, (put_hp _ _ _).2]; exact hH
      · rw [put_df]; exact h.df.mono hle

theorem wanted_some {ops : Array Oper} {j d : Nat} {want : Bool} {tm : List AV} {b : Bool} (hg : o.guard = some (j, want)) (hd : (ops.toList[j]?).bind (·.dst) = some d) (h : VRels G tm a.tmps.toList) (hb : gbool want (getT tm d) = some b) :
    Region.wanted o (yielded ops a.tmps) = b := by
  have hr := getT_sound h d
  have hd' : (ops[j]?).bind (·.dst) = some d := by rw [← Array.getElem?_toList]; exact hd
  simp only [Region.wanted, hg, yielded, hd', Option.bind_some]
  unfold gbool at hb
  split at hb
  · rename_i x hx
    cases hb
    rw [hx] at hr
    simp only [VRel] at hr
    have e : a.tmps[d]? = some (.bool x) := by
      cases hn : a.tmps[d]? with
      | none => simp [Array.getD_eq_getD_getElem?, hn, undef] at hr
      | some c => simpa [Array.getD_eq_getD_getElem?, hn] using hr
    rw [e]
    cases x <;> cases want <;> rfl
  · rename_i hx
    cases hb
    rw [hx] at hr
    simp only [VRel, VRels] at hr
    obtain ⟨ccs, rfl, hr⟩ := hr
    have e : a.tmps[d]? = none ∨ a.tmps[d]? = some (.tuple #[]) := by
      cases hn : a.tmps[d]? with
      | none => exact .inl rfl
      | some c => right; simpa [Array.getD_eq_getD_getElem?, hn] using hr
    rcases e with e | e <;> rw [e] <;> rfl
  · cases hb

/-- one operation, guarded or not -/
theorem step_sound (hcs : Good P cs) {ops : Array Oper} {ao : AOper} (hc : compO P ops.toList o = some ao) (hs : step cs ao s = some s') (h : SRel E G s a w)
    (hK : ∀ (G' : Ghost) (a' : Act) (w' : World), SRel E G' s' a' w' → K a' w') :
    if Region.wanted o (yielded ops a.tmps) then o.wpIn (FW r) n P a w K Q else (∀ f, o.about P w a.eval = some f → (FW r).fn f) ∧ K (a.put o.dst undef) w := by
  have hc' := hc
  unfold compO at hc
  simp only [Option.bind_eq_some_iff, Option.map_eq_some_iff] at hc
  obtain ⟨⟨op, xs⟩, hA, ys, hys, g, hg, rfl⟩ := hc
  have skip : SRel E G (s.put o.dst (.tup [])) (a.put o.dst undef) w := by
    refine ⟨put_sound h.tm (by simp only [VRel, VRels]; exact ⟨[], rfl, rfl⟩) o.dst, ?_, ?_, h.le, h.kp⟩
    · rw [(put_hp _ _ _).1, (put_hp _ _ _).2]; exact h.hp
    · rw [put_df]; exact h.df
  unfold step at hs
  cases hgd : o.guard with
  | none =>
    simp only [hgd, compG, Option.some.injEq] at hg
    subst hg
    simp only at hs
    rw [if_pos (by simp [Region.wanted, hgd])]
    exact stepR_sound hcs hc' hs h hK
  | some p =>
    obtain ⟨j, want⟩ := p
    simp only [hgd, compG, Option.map_eq_some_iff] at hg
    obtain ⟨d, hd, rfl⟩ := hg
    simp only at hs
    cases hb : gbool want (getT s.tm d) with
    | none => rw [hb] at hs; cases hs
    | some b =>
      rw [hb] at hs
      simp only [obind, Option.bind_some] at hs
      have hw := wanted_some (a := a) hgd hd h.tm hb
      rw [hw]
      unfold stepG at hs
      simp only at hs
      split at hs
      · rename_i heff
        cases b with
        | true => simp only [if_true] at hs ⊢; exact stepR_sound hcs hc' hs h hK
        | false =>
          simp only [Bool.false_eq_true, if_false, Option.some.injEq] at hs ⊢
          subst hs
          exact ⟨fun _ _ => trivial, hK G _ w skip⟩
      · rename_i heff
        cases b with
        | true =>
          simp only [gif_true, if_true] at hs ⊢
          refine stepR_sound hcs hc' (s' := s') ?_ h hK
          unfold stepR
          simp only
          rw [if_neg heff]
          exact hs
        | false =>
          simp only [gif_false, obind, Option.bind_some, putV, Option.some.injEq, Bool.false_eq_true, if_false] at hs ⊢
          subst hs
          exact ⟨fun _ _ => trivial, hK G _ w skip⟩

theorem run_sound (hcs : Good P cs) {ops : Array Oper} : ∀ {l : List Oper} {k : Nat} {aops : List AOper} {s s' : AState} {G : Ghost} {a : Act} {w : World}, compL P ops.toList l = some aops → (∀ i, l[i]? = ops[k + i]?) → run cs aops s = some s' → SRel E G s a w →
    (∀ (G' : Ghost) (a' : Act) (w' : World), SRel E G' s' a' w' → Q .normal a' w') → wpOpsIn (FW r) n P ops Q (List.range' k l.length) a w
  | [], k, aops, s, s', G, a, w, hc, hl, hs, h, hQ => by
    simp only [compL, Option.some.injEq] at hc
    subst hc
    simp only [run, Option.some.injEq] at hs
    subst hs
    simpa [wpOpsIn] using hQ G a w h
  | o :: l, k, aops, s, s', G, a, w, hc, hl, hs, h, hQ => by
    simp only [compL, Option.bind_eq_some_iff, Option.map_eq_some_iff] at hc
    obtain ⟨ao, h1, r', h2, rfl⟩ := hc
    simp only [run] at hs
    cases hst : step cs ao s with
    | none => rw [hst] at hs; cases hs
    | some s1 =>
      rw [hst] at hs
      simp only [obind, Option.bind_some] at hs
      have hk : ops[k]? = some o := by have := hl 0; simp at this; exact this.symm
      simp only [List.length_cons, List.range'_succ, wpOpsIn, hk]
      have hl' : ∀ i, l[i]? = ops[k + 1 + i]? := fun i => by
        have := hl (i + 1)
        simp only [List.getElem?_cons_succ] at this
        rw [this]; congr 1; omega
      exact step_sound hcs h1 hst h fun G' a' w' h' => run_sound hcs h2 hl' hs h' hQ

end
end Eng
