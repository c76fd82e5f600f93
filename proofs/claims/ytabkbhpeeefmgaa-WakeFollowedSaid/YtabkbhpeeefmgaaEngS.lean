/-
THE ENGINE, PART Q: the operations of a region, one after the other.
THE ENGINE, PART R: a region whose order is drawn: what one operation does, whenever its turn comes.
THE ENGINE, PART S: a region whose order is drawn comes to what its operations come to one after the other in the order of the text, if operations without an order between them do not touch the same slots and blocks.
-/
import Derived.Test.YtabkbhpeeefmgaaEngP
namespace Eng
open Go Go.RowKit
set_option linter.unusedSimpArgs false
set_option linter.unusedVariables false

def opd : Operand → Option Opd
  | .tmp t => some (.t t)
  | .const v => (absC v).map .c
  | .func f => some (.c (.fn f [] []))
  | .global _ => none

def opds : List Operand → Option (List Opd)
  | [] => some []
  | x :: xs => (opd x).bind fun a => (opds xs).map fun r => a :: r

def usesTmp (t : Nat) : Operand → Bool
  | .tmp u => u == t
  | _ => false

/-- is the slice handed to a call of this region? -/
def handed1 (app : Bool) (ops : List Oper) (d : Nat) : Bool :=
  ops.any fun o => match o.op with
    | .call { callee := .builtin .append, args, .. } => app && (args[1]?).any (usesTmp d)
    | .call { callee := .builtin _, .. } => false
    | .call { args, .. } => args.any (usesTmp d)
    | _ => false
/-- is the slice that is built here handed to a call of this region, itself or in another slice? (then it is not written any more) -/
def handed (ops : List Oper) : Option Nat → Bool
  | none => false
  | some d => handed1 true ops d || ops.any fun o => match o.op, o.dst with
    | .buildSlice _ _ parts, some e => parts.any (fun p => usesTmp d p.2) && handed1 false ops e
    | _, _ => false

def compG (ops : List Oper) : Option (Nat × Bool) → Option (Option (Nat × Bool))
  | none => some none
  | some (j, want) => ((ops[j]?).bind (·.dst)).map fun d => some (d, want)

def compO (P : Program) (ops : List Oper) (o : Oper) : Option AOper :=
  (compA P (handed ops o.dst) o.op).bind fun (op, xs) => (opds xs).bind fun ys => (compG ops o.guard).map fun g => ⟨o.dst, op, ys, g⟩

def compL (P : Program) (ops : List Oper) : List Oper → Option (List AOper)
  | [] => some []
  | o :: os => (compO P ops o).bind fun a => (compL P ops os).map fun r => a :: r

structure Env where
  G : Ghost
  w : World
  defers : List Deferred
  nx : Nat
  nw : ∀ t, nx ≤ t → G.ι t = none
  ok : ∀ r o, G.ro r = some o → r < w.heap.size
  sz : ∀ r, G.an.P r → r < w.heap.size

/-- the mark that a range over a function leaves -/
def mark (D : Nat) : Deferred := { target := .collected D, args := #[] }

/-- the deferred calls: marks alone, beside those that were there -/
def Dfr (E : Env) (G : Ghost) (ds : List Deferred) : Prop :=
  ∃ pre : List Nat, ds = pre.map mark ++ E.defers ∧ pre.Nodup ∧ ∀ D ∈ pre, G.ro D = some (.deferred (some [])) ∧ E.w.heap.size ≤ D

theorem Dfr.ro {E : Env} {G G' : Ghost} {ds : List Deferred} (h : Dfr E G ds) (hro : ∀ r o, G.ro r = some o → G'.ro r = some o) : Dfr E G' ds :=
  let ⟨pre, h1, h2, h3⟩ := h
  ⟨pre, h1, h2, fun D hD => ⟨hro _ _ (h3 D hD).1, (h3 D hD).2⟩⟩
theorem Dfr.mono {E : Env} {G G' : Ghost} {ds : List Deferred} (h : Dfr E G ds) (hle : G.le G') : Dfr E G' ds := h.ro hle.ro
theorem Dfr.nil {E : Env} {G : Ghost} : Dfr E G E.defers := ⟨[], rfl, List.nodup_nil, fun _ h => by simp at h⟩

structure SRel (E : Env) (G : Ghost) (s : AState) (a : Act) (w : World) : Prop where
  tm : VRels G s.tm a.tmps.toList
  hp : HRel G (· ∈ s.hp) (s.next ≤ ·) w
  df : Dfr E G a.defers
  le : E.G.le G
  kp : Keeps E.w w

theorem getT_eq : ∀ (l : List AV) (n : Nat), getT l n = l.getD n .any
  | [], n => by simp [getT]
  | v :: l, 0 => by simp [getT]
  | v :: l, n + 1 => by simp [getT, getT_eq l n]

theorem setT_eq : ∀ (l : List AV) (n : Nat) (x : AV), setT l n x = l.set n x
  | [], n, x => by simp [setT]
  | v :: l, 0, x => by simp [setT]
  | v :: l, n + 1, x => by simp [setT, setT_eq l n]

theorem getT_sound {G : Ghost} {tm : List AV} {a : Act} (h : VRels G tm a.tmps.toList) (n : Nat) : VRel G (getT tm n) (a.tmps.getD n undef) := by
  rw [getT_eq]
  cases hn : tm[n]? with
  | none => simp [List.getD, hn, VRel]
  | some v =>
    obtain ⟨c, h1, h2⟩ := h.get n v hn
    have e : a.tmps[n]? = some c := by rw [← Array.getElem?_toList]; exact h1
    rw [Array.getD_eq_getD_getElem?, e]
    simpa [List.getD, hn] using h2

theorem opd_sound {G : Ghost} {tm : List AV} {a : Act} (h : VRels G tm a.tmps.toList) {x : Operand} {y : Opd} (hx : opd x = some y) : VRel G (evO tm y) (a.eval x) := by
  cases x with
  | tmp t => simp only [opd, Option.some.injEq] at hx; subst hx; exact getT_sound h t
  | const v =>
    simp only [opd, Option.map_eq_some_iff] at hx
    obtain ⟨c, h1, rfl⟩ := hx
    exact absC_rel h1 G
  | func f =>
    simp only [opd, Option.some.injEq] at hx
    subst hx
    simp only [evO, Act.eval, VRel, VRels]
    exact ⟨[], [], rfl, rfl, rfl⟩
  | global g => simp [opd] at hx

theorem opds_sound {G : Ghost} {tm : List AV} {a : Act} (h : VRels G tm a.tmps.toList) : ∀ {xs : List Operand} {ys : List Opd}, opds xs = some ys → VRels G (evs tm ys) (xs.map a.eval)
  | [], ys, hx => by simp only [opds, Option.some.injEq] at hx; subst hx; simp [evs, VRels]
  | x :: xs, ys, hx => by
    simp only [opds, Option.bind_eq_some_iff, Option.map_eq_some_iff] at hx
    obtain ⟨y, h1, r, h2, rfl⟩ := hx
    simp only [evs, List.map_cons, VRels]
    exact ⟨_, _, rfl, opd_sound h h1, opds_sound h h2⟩

theorem put_sound {G : Ghost} {s : AState} {a : Act} (h : VRels G s.tm a.tmps.toList) {v : AV} {c : Value} (hv : VRel G v c) (dst : Option Nat) : VRels G (s.put dst v).tm (a.put dst c).tmps.toList := by
  cases dst with
  | none => exact h
  | some d =>
    simp only [AState.put, Act.put, setT_eq]
    have := h.set d hv
    simpa using this

theorem put_hp (s : AState) (dst : Option Nat) (v : AV) : (s.put dst v).hp = s.hp ∧ (s.put dst v).next = s.next := by cases dst <;> exact ⟨rfl, rfl⟩
theorem put_df (a : Act) (dst : Option Nat) (c : Value) : (a.put dst c).defers = a.defers := by cases dst <;> rfl

theorem mem_dropG : ∀ {hp : List HEnt} {t g : Nat} {e : HEnt}, e ∈ dropG hp t g → e ∈ hp ∧ (e.grp ≠ g ∨ e.id = t)
  | [], _, _, _, h => by simp [dropG] at h
  | x :: r, t, g, e, h => by
    simp only [dropG] at h
    split at h
    · split at h
      · rcases List.mem_cons.1 h with rfl | h
        · rename_i hid; exact ⟨by simp, .inr hid⟩
        · obtain ⟨h1, h2⟩ := mem_dropG h; exact ⟨by simp [h1], h2⟩
      · obtain ⟨h1, h2⟩ := mem_dropG h; exact ⟨by simp [h1], h2⟩
    · rename_i hg
      rcases List.mem_cons.1 h with rfl | h
      · exact ⟨by simp, .inl hg⟩
      · obtain ⟨h1, h2⟩ := mem_dropG h; exact ⟨by simp [h1], h2⟩

theorem mem_applyE {f : Eff} {hp : List HEnt} {e : HEnt} (h : e ∈ applyE f hp) : effM f (· ∈ hp) e := by
  cases f with
  | no => exact h
  | new x =>
    rcases List.mem_cons.1 h with rfl | h
    · exact .inr rfl
    · exact .inl h
  | set t g k => exact mem_setB h
  | ext t g x =>
    rcases List.mem_cons.1 h with rfl | h
    · exact .inr rfl
    · exact .inl (mem_dropG h)

theorem effOp_id {lk : Look} {id : Nat} {op : AOp} {vals : List AV} {v : AV} {f : Eff} (h : effOp lk id op vals = some (v, f)) {fr : Nat → Prop} {t : Nat} (ht : fr t) (hne : t ≠ id) : frE f fr t := by
  unfold effOp at h
  split at h
  · cases h; exact ⟨ht, hne⟩
  · split at h
    · split at h
      · cases h; exact ⟨ht, hne⟩
      · cases h
    · split at h
      · cases h; exact ⟨ht, hne⟩
      · cases h
  · split at h
    · cases h; exact ⟨ht, hne⟩
    · cases h
  · simp only [Option.map_eq_some_iff, Prod.mk.injEq] at h
    obtain ⟨f', hf, _, rfl⟩ := h
    unfold storeV at hf
    split at hf
    · split at hf
      · split at hf
        · simp only [Option.map_eq_some_iff] at hf
          obtain ⟨_, _, rfl⟩ := hf
          exact ht
        · cases hf
      · cases hf
    · cases hf
  · unfold appV at h
    split at h
    · simp only [Option.bind_eq_some_iff] at h
      obtain ⟨xs, _, h⟩ := h
      split at h
      · cases h; exact ht
      · split at h
        · cases h; exact ⟨ht, hne⟩
        · cases h
    · simp only [Option.bind_eq_some_iff] at h
      obtain ⟨xs, _, h⟩ := h
      split at h
      · cases h; exact ⟨ht, hne⟩
      · cases h
    · split at h
      · simp only [Option.bind_eq_some_iff] at h
        obtain ⟨xs, _, h⟩ := h
        split at h
        · cases h; exact ⟨ht, hne⟩
        · cases h
      · cases h
    · cases h
  · split at h
    · cases h; exact ⟨ht, hne⟩
    · cases h
  · unfold cpyV at h
    split at h
    · split at h
      · simp only [Option.bind_eq_some_iff] at h
        obtain ⟨xs, _, h⟩ := h
        split at h
        · cases h; exact ht
        · cases h
      · cases h
    · cases h
  · cases h

theorem optv_rel {G : Ghost} {v : AV} {c : Value} (h : VRel G v c) (b : Bool) (hb : b = true) : VRel G (optv b v) c := by subst hb; exact h

section
variable {P : Program} {E : Env} {G : Ghost} {s s' : AState} {a : Act} {w : World} {o : Oper} {r : Option Nat} {n : Nat} {K : Act → World → Prop} {Q : Exit → Act → World → Prop} {cs : Ctx}

theorem look_mem (s : AState) : ∀ t e, getE s.hp t = some e → e ∈ s.hp ∧ e.id = t := fun t e h => getE_mem h

/-- one operation without a guard -/
theorem stepR_sound (hcs : Good P cs) {ops : List Oper} {ao : AOper} (hc : compO P ops o = some ao) (hs : stepR cs ao s = some s') (h : SRel E G s a w)
    (hK : ∀ (G' : Ghost) (a' : Act) (w' : World), SRel E G' s' a' w' → K a' w') : o.wpIn (FW r) n P a w K Q := by
  unfold compO at hc
  simp only [Option.bind_eq_some_iff, Option.map_eq_some_iff] at hc
  obtain ⟨⟨op, xs⟩, hA, ys, hys, g, hg, rfl⟩ := hc
  have hca := compA_inv hA
  have hv := opds_sound h.tm hys
  unfold stepR at hs
  simp only at hs
  split at hs
  · cases he : effOp (getE s.hp) s.next op (evs s.tm ys) with
    | none => rw [he] at hs; cases hs
    | some p =>
      obtain ⟨v, f⟩ := p
      rw [he] at hs
      simp only [obind, Option.bind_some, putE, Option.some.injEq] at hs
      subst hs
      refine eff_sound (id := s.next) (Nat.le_refl _) hca rfl h.hp hv (look_mem s) he fun G' cv w' hle hcv hH hk => hK G' _ w' ⟨?_, ?_, ?_, h.le.trans hle, h.kp.trans hk⟩
      · exact put_sound (s := s) (VRels.mono hle _ h.tm) hcv o.dst
      · exact hH.sub (fun e he => mem_applyE he) fun t ht => effOp_id he (fr := (s.next ≤ ·)) (by show s.next ≤ t; have : s.next + 1 ≤ t := ht; omega) (by have : s.next + 1 ≤ t := ht; omega)
      · rw [put_df]; exact h.df.mono hle
  · cases he : valOp cs (getE s.hp) op (evs s.tm ys) with
    | none => rw [he] at hs; cases hs
    | some v =>
      rw [he] at hs
      simp only [obind, Option.bind_some, putV, Option.some.injEq] at hs
      subst hs
      refine val_sound hcs hca rfl h.hp hv (look_mem s) he fun G' cv w' hle hcv hH hb => hK G' _ w' ⟨?_, ?_, ?_, h.le.trans hle, h.kp.trans (.of_below hb)⟩
      · exact put_sound (VRels.mono hle _ h.tm) hcv o.dst
      · rw [(put_hp _ _ _).1, (put_hp _ _ _).2]; exact hH
      · rw [put_df]; exact h.df.mono hle

theorem wanted_some {ops : Array Oper} {j d : Nat} {want : Bool} {tm : List AV} {b : Bool} (hg : o.guard = some (j, want)) (hd : (ops.toList[j]?).bind (·.dst) = some d) (h : VRels G tm a.tmps.toList) (hb : gbool want (getT tm d) = some b) :
    Region.wanted o (yielded ops a.tmps) = b := by
  have hr := getT_sound h d
  have hd' : (ops[j]?).bind (·.dst) = some d := by rw [← Array.getElem?_toList]; exact hd
  simp only [Region.wanted, hg, yielded, hd', Option.bind_some]
  unfold gbool at hb
  split at hb
  · rename_i x hx
    cases hb
    rw [hx] at hr
    simp only [VRel] at hr
    have e : a.tmps[d]? = some (.bool x) := by
      cases hn : a.tmps[d]? with
      | none => simp [Array.getD_eq_getD_getElem?, hn, undef] at hr
      | some c => simpa [Array.getD_eq_getD_getElem?, hn] using hr
    rw [e]
    cases x <;> cases want <;> rfl
  · rename_i hx
    cases hb
    rw [hx] at hr
    simp only [VRel, VRels] at hr
    obtain ⟨ccs, rfl, hr⟩ := hr
    have e : a.tmps[d]? = none ∨ a.tmps[d]? = some (.tuple #[]) := by
      cases hn : a.tmps[d]? with
      | none => exact .inl rfl
      | some c => right; simpa [Array.getD_eq_getD_getElem?, hn] using hr
    rcases e with e | e <;> rw [e] <;> rfl
  · cases hb

/-- one operation, guarded or not -/
theorem step_sound (hcs : Good P cs) {ops : Array Oper} {ao : AOper} (hc : compO P ops.toList o = some ao) (hs : step cs ao s = some s') (h : SRel E G s a w)
    (hK : ∀ (G' : Ghost) (a' : Act) (w' : World), SRel E G' s' a' w' → K a' w') :
    if Region.wanted o (yielded ops a.tmps) then o.wpIn (FW r) n P a w K Q else (∀ f, o.about P w a.eval = some f → (FW r).fn f) ∧ K (a.put o.dst undef) w := by
  have hc' := hc
  unfold compO at hc
  simp only [Option.bind_eq_some_iff, Option.map_eq_some_iff] at hc
  obtain ⟨⟨op, xs⟩, hA, ys, hys, g, hg, rfl⟩ := hc
  have skip : SRel E G (s.put o.dst (.tup [])) (a.put o.dst undef) w := by
    refine ⟨put_sound h.tm (by simp only [VRel, VRels]; exact ⟨[], rfl, rfl⟩) o.dst, ?_, ?_, h.le, h.kp⟩
    · rw [(put_hp _ _ _).1, (put_hp _ _ _).2]; exact h.hp
    · rw [put_df]; exact h.df
  unfold step at hs
  cases hgd : o.guard with
  | none =>
    simp only [hgd, compG, Option.some.injEq] at hg
    subst hg
    simp only at hs
    rw [if_pos (by simp [Region.wanted, hgd])]
    exact stepR_sound hcs hc' hs h hK
  | some p =>
    obtain ⟨j, want⟩ := p
    simp only [hgd, compG, Option.map_eq_some_iff] at hg
    obtain ⟨d, hd, rfl⟩ := hg
    simp only at hs
    cases hb : gbool want (getT s.tm d) with
    | none => rw [hb] at hs; cases hs
    | some b =>
      rw [hb] at hs
      simp only [obind, Option.bind_some] at hs
      have hw := wanted_some (a := a) hgd hd h.tm hb
      rw [hw]
      unfold stepG at hs
      simp only at hs
      split at hs
      · rename_i heff
        cases b with
        | true => simp only [if_true] at hs ⊢; exact stepR_sound hcs hc' hs h hK
        | false =>
          simp only [Bool.false_eq_true, if_false, Option.some.injEq] at hs ⊢
          subst hs
          exact ⟨fun _ _ => trivial, hK G _ w skip⟩
      · rename_i heff
        cases b with
        | true =>
          simp only [gif_true, if_true] at hs ⊢
          refine stepR_sound hcs hc' (s' := s') ?_ h hK
          unfold stepR
          simp only
          rw [if_neg heff]
          exact hs
        | false =>
          simp only [gif_false, obind, Option.bind_some, putV, Option.some.injEq, Bool.false_eq_true, if_false] at hs ⊢
          subst hs
          exact ⟨fun _ _ => trivial, hK G _ w skip⟩

theorem run_sound (hcs : Good P cs) {ops : Array Oper} : ∀ {l : List Oper} {k : Nat} {aops : List AOper} {s s' : AState} {G : Ghost} {a : Act} {w : World}, compL P ops.toList l = some aops → (∀ i, l[i]? = ops[k + i]?) → run cs aops s = some s' → SRel E G s a w →
    (∀ (G' : Ghost) (a' : Act) (w' : World), SRel E G' s' a' w' → Q .normal a' w') → wpOpsIn (FW r) n P ops Q (List.range' k l.length) a w
  | [], k, aops, s, s', G, a, w, hc, hl, hs, h, hQ => by
    simp only [compL, Option.some.injEq] at hc
    subst hc
    simp only [run, Option.some.injEq] at hs
    subst hs
    simpa [wpOpsIn] using hQ G a w h
  | o :: l, k, aops, s, s', G, a, w, hc, hl, hs, h, hQ => by
    simp only [compL, Option.bind_eq_some_iff, Option.map_eq_some_iff] at hc
    obtain ⟨ao, h1, r', h2, rfl⟩ := hc
    simp only [run] at hs
    cases hst : step cs ao s with
    | none => rw [hst] at hs; cases hs
    | some s1 =>
      rw [hst] at hs
      simp only [obind, Option.bind_some] at hs
      have hk : ops[k]? = some o := by have := hl 0; simp at this; exact this.symm
      simp only [List.length_cons, List.range'_succ, wpOpsIn, hk]
      have hl' : ∀ i, l[i]? = ops[k + 1 + i]? := fun i => by
        have := hl (i + 1)
        simp only [List.getElem?_cons_succ] at this
        rw [this]; congr 1; omega
      exact step_sound hcs h1 hst h fun G' a' w' h' => run_sound hcs h2 hl' hs h' hQ

end
end Eng

namespace Eng
open Go Go.RowKit
set_option linter.unusedSimpArgs false
set_option linter.unusedVariables false

/-- the numbers of blocks that an operation looks at -/
def tidL : List AV → List Nat
  | [] => []
  | .ptr t _ _ _ :: r => t :: tidL r
  | .slice t _ _ _ :: r => t :: tidL r
  | _ :: r => tidL r

def tids : AOp → List AV → List Nat
  | .load .., vals => tidL vals
  | .store .., vals => tidL vals
  | .app .., vals => tidL vals
  | .cpy, vals => tidL vals
  | .call _, vals => tidL vals
  | .callv, .fn _ first cap :: vals => tidL (first ++ vals ++ cap)
  | _, _ => []

theorem tidL_ptr {vals : List AV} {t esz i j : Nat} (h : AV.ptr t esz i j ∈ vals) : t ∈ tidL vals := by
  induction vals with
  | nil => simp at h
  | cons v vs ih =>
    rcases List.mem_cons.1 h with rfl | h
    · simp [tidL]
    · have := ih h
      cases v <;> simp [tidL, this]

theorem tidL_slice {vals : List AV} {t esz i n : Nat} (h : AV.slice t esz i n ∈ vals) : t ∈ tidL vals := by
  induction vals with
  | nil => simp at h
  | cons v vs ih =>
    rcases List.mem_cons.1 h with rfl | h
    · simp [tidL]
    · have := ih h
      cases v <;> simp [tidL, this]

theorem pur_congr {lk lk' : Look} {v : AV} (h : ∀ t esz i n, v = .slice t esz i n → lk t = lk' t) : pur lk v = pur lk' v := by
  cases v <;> simp only [pur]
  rw [h _ _ _ _ rfl]

theorem purs_congr {lk lk' : Look} : ∀ {vals : List AV}, (∀ t ∈ tidL vals, lk t = lk' t) → purs lk vals = purs lk' vals
  | [], _ => rfl
  | v :: vs, h => by
    have h1 : pur lk v = pur lk' v := pur_congr fun t esz i n e => h t (by subst e; simp [tidL])
    have h2 : purs lk vs = purs lk' vs := purs_congr fun t ht => h t (by cases v <;> simp [tidL, ht])
    simp only [purs, h1, h2]

theorem valOp_congr {cs : Ctx} {lk lk' : Look} {op : AOp} {vals : List AV} (h : ∀ t ∈ tids op vals, lk t = lk' t) : valOp cs lk op vals = valOp cs lk' op vals := by
  cases op <;> try rfl
  case load size ag =>
    simp only [tids] at h
    match vals, h with
    | [], _ => rfl
    | [x], h =>
      simp only [valOp]
      cases x <;> simp only [loadV]
      rw [h _ (by simp [tidL])]
    | _ :: _ :: _, _ => rfl
  case call f => simp only [valOp, callV, purs_congr h]
  case callv =>
    cases vals with
    | nil => rfl
    | cons g vs =>
      cases g <;> try rfl
      simp only [tids] at h
      simp only [valOp, callV, purs_congr h]

theorem srcV_congr {lk lk' : Look} {esz : Nat} {x : AV} (h : ∀ t e i n, x = .slice t e i n → lk t = lk' t) : srcV lk esz x = srcV lk' esz x := by
  cases x <;> simp only [srcV]
  rw [h _ _ _ _ rfl]

theorem effOp_congr {lk lk' : Look} {id : Nat} {op : AOp} {vals : List AV} (h : ∀ t ∈ tids op vals, lk t = lk' t) : effOp lk id op vals = effOp lk' id op vals := by
  cases op <;> try rfl
  case alloc => cases vals <;> rfl
  case box =>
    match vals with
    | [] => rfl
    | [_] => rfl
    | _ :: _ :: _ => rfl
  case store size ag =>
    simp only [tids] at h
    match vals, h with
    | [], _ => rfl
    | [_], _ => rfl
    | [a, x], h =>
      simp only [effOp]
      cases a <;> simp only [storeV]
      rw [h _ (by simp [tidL])]
    | _ :: _ :: _ :: _, _ => rfl
  case app e esz bytes =>
    simp only [tids] at h
    match vals, h with
    | [], _ => rfl
    | [_], _ => rfl
    | [a, x], h =>
      have hx : srcV lk esz x = srcV lk' esz x := srcV_congr fun t e i n ex => h t (by subst ex; cases a <;> simp [tidL])
      simp only [effOp]
      cases a <;> simp only [appV, hx]
      rw [h _ (by simp [tidL])]
    | _ :: _ :: _ :: _, _ => rfl

  case mks e bytes z =>
    match vals with
    | [] => rfl
    | [x] => cases x <;> rfl
    | [x, y] => cases x <;> cases y <;> rfl
    | x :: y :: _ :: _ => cases x <;> cases y <;> rfl
  case cpy =>
    simp only [tids] at h
    match vals, h with
    | [], _ => rfl
    | [_], _ => rfl
    | [a, x], h =>
      have hx : srcV lk 1 x = srcV lk' 1 x := srcV_congr fun t e i n ex => h t (by subst ex; cases a <;> simp [tidL])
      simp only [effOp]
      cases a <;> simp only [cpyV, hx]
      rw [h _ (by simp [tidL])]
    | _ :: _ :: _ :: _, _ => rfl

/-- what an operation comes to: its value, what it changes, whether it takes a number -/
def outOp (cs : Ctx) (o : AOper) (s : AState) : Option (AV × Eff × Bool) :=
  match o.guard with
  | none => if o.op.isEff then (effOp (getE s.hp) s.next o.op (evs s.tm o.xs)).map fun (v, f) => (v, f, true) else (valOp cs (getE s.hp) o.op (evs s.tm o.xs)).map fun v => (v, .no, false)
  | some (g, want) => (gbool want (getT s.tm g)).bind fun b =>
    if b then
      if o.op.isEff then (effOp (getE s.hp) s.next o.op (evs s.tm o.xs)).map fun (v, f) => (v, f, true) else (valOp cs (getE s.hp) o.op (evs s.tm o.xs)).map fun v => (v, .no, false)
    else some (.tup [], .no, false)

def after (s : AState) (dst : Option Nat) (v : AV) (f : Eff) (c : Bool) : AState := { tm := (s.put dst v).tm, hp := applyE f s.hp, next := if c then s.next + 1 else s.next }

theorem step_out {cs : Ctx} {o : AOper} {s s' : AState} (h : step cs o s = some s') : ∃ v f c, outOp cs o s = some (v, f, c) ∧ s' = after s o.dst v f c := by
  have hR : ∀ {s'}, stepR cs o s = some s' → ∃ v f c, (if o.op.isEff then (effOp (getE s.hp) s.next o.op (evs s.tm o.xs)).map fun (v, f) => (v, f, true) else (valOp cs (getE s.hp) o.op (evs s.tm o.xs)).map fun v => (v, Eff.no, false)) = some (v, f, c) ∧ s' = after s o.dst v f c := by
    intro s' h
    unfold stepR at h
    split at h
    · rename_i heff
      cases he : effOp (getE s.hp) s.next o.op (evs s.tm o.xs) with
      | none => rw [he] at h; cases h
      | some p =>
        rw [he] at h
        simp only [obind, Option.bind_some, putE, Option.some.injEq] at h
        exact ⟨p.1, p.2, true, by rw [if_pos heff]; rfl, by rw [← h]; rfl⟩
    · rename_i heff
      cases he : valOp cs (getE s.hp) o.op (evs s.tm o.xs) with
      | none => rw [he] at h; cases h
      | some v =>
        rw [he] at h
        simp only [obind, Option.bind_some, putV, Option.some.injEq] at h
        refine ⟨v, .no, false, by rw [if_neg heff]; rfl, ?_⟩
        rw [← h]
        cases o.dst <;> rfl
  unfold step at h
  unfold outOp
  split at h
  · rename_i hg; rw [hg]; exact hR h
  · rename_i g want hg
    rw [hg]
    simp only
    cases hb : gbool want (getT s.tm g) with
    | none => rw [hb] at h; cases h
    | some b =>
      rw [hb] at h
      simp only [obind, Option.bind_some] at h ⊢
      cases b with
      | true =>
        simp only [if_true]
        refine hR ?_
        unfold stepG at h
        split at h
        · simpa using h
        · rename_i heff
          rw [gif_true] at h
          unfold stepR
          rw [if_neg heff]
          exact h
      | false =>
        refine ⟨.tup [], .no, false, by simp, ?_⟩
        unfold stepG at h
        split at h
        · simp only [Bool.false_eq_true, if_false, Option.some.injEq] at h
          rw [← h]; cases o.dst <;> rfl
        · rw [gif_false] at h
          simp only [obind, Option.bind_some, putV, Option.some.injEq] at h
          rw [← h]; cases o.dst <;> rfl

section
variable {P : Program} {G : Ghost} {M : HEnt → Prop} {fr : Nat → Prop} {s : AState} {a : Act} {w : World} {o : Oper} {r : Option Nat} {n : Nat} {K : Act → World → Prop} {Q : Exit → Act → World → Prop} {cs : Ctx}

theorem out_sound (hcs : Good P cs) {ops : Array Oper} {ao : AOper} (hc : compO P ops.toList o = some ao) {v : AV} {f : Eff} {c : Bool} (hout : outOp cs ao s = some (v, f, c)) {T : List AV} (hT : VRels G T a.tmps.toList)
    (hev : evs T ao.xs = evs s.tm ao.xs) (hgd : ∀ g want, ao.guard = some (g, want) → getT T g = getT s.tm g) (hH : HRel G M fr w)
    (hrd : ∀ t ∈ tids ao.op (evs s.tm ao.xs), ∀ e, getE s.hp t = some e → M e) (hid : c = true → fr s.next)
    (hK : ∀ (G' : Ghost) (cv : Value) (w' : World), G.le G' → VRel G' v cv → HRel G' (effM f M) (fun t => fr t ∧ (c = true → t ≠ s.next)) w' → Keeps w w' → K (a.put o.dst cv) w') :
    if Region.wanted o (yielded ops a.tmps) then o.wpIn (FW r) n P a w K Q else (∀ f, o.about P w a.eval = some f → (FW r).fn f) ∧ K (a.put o.dst undef) w := by
  unfold compO at hc
  simp only [Option.bind_eq_some_iff, Option.map_eq_some_iff] at hc
  obtain ⟨⟨op, xs⟩, hA, ys, hys, g, hg, rfl⟩ := hc
  have hca := compA_inv hA
  have hv := opds_sound hT hys
  simp only at hev hrd
  rw [hev] at hv
  -- the look-ups that it makes
  let lk' : Look := fun t => if t ∈ tids op (evs s.tm ys) then getE s.hp t else none
  have hlk : ∀ t e, lk' t = some e → M e ∧ e.id = t := fun t e h => by
    simp only [lk'] at h
    split at h
    · rename_i ht; exact ⟨hrd t ht e h, (getE_mem h).2⟩
    · cases h
  have hcg : ∀ t ∈ tids op (evs s.tm ys), getE s.hp t = lk' t := fun t ht => by simp only [lk', if_pos ht]
  have main : (if op.isEff then (effOp (getE s.hp) s.next op (evs s.tm ys)).map fun (v, f) => (v, f, true) else (valOp cs (getE s.hp) op (evs s.tm ys)).map fun v => (v, Eff.no, false)) = some (v, f, c) → o.wpIn (FW r) n P a w K Q := by
    intro h
    split at h
    · simp only [Option.map_eq_some_iff, Prod.mk.injEq] at h
      obtain ⟨⟨v', f'⟩, he, rfl, rfl, rfl⟩ := h
      rw [effOp_congr hcg] at he
      exact eff_sound (hid rfl) hca rfl hH hv hlk he fun G' cv w' hle hcv hH' hk => hK G' cv w' hle hcv (hH'.sub (fun _ h => h) fun t ht => effOp_id he ht.1 (ht.2 rfl)) hk
    · simp only [Option.map_eq_some_iff, Prod.mk.injEq] at h
      obtain ⟨v', he, rfl, rfl, rfl⟩ := h
      rw [valOp_congr hcg] at he
      exact val_sound hcs hca rfl hH hv hlk he fun G' cv w' hle hcv hH' hb => hK G' cv w' hle hcv (hH'.sub (fun _ h => h) fun t ht => ht.1) (.of_below hb)
  unfold outOp at hout
  cases hgo : o.guard with
  | none =>
    simp only [hgo, compG, Option.some.injEq] at hg
    subst hg
    simp only at hout
    rw [if_pos (by simp [Region.wanted, hgo])]
    exact main hout
  | some p =>
    obtain ⟨j, want⟩ := p
    simp only [hgo, compG, Option.map_eq_some_iff] at hg
    obtain ⟨d, hd, rfl⟩ := hg
    simp only at hout hgd
    cases hb : gbool want (getT s.tm d) with
    | none => rw [hb] at hout; cases hout
    | some b =>
      rw [hb] at hout
      simp only [Option.bind_some] at hout
      rw [wanted_some (a := a) hgo hd hT (by rw [hgd d want rfl]; exact hb)]
      cases b with
      | true => simp only [if_true] at hout ⊢; exact main hout
      | false =>
        simp only [Bool.false_eq_true, if_false, Option.some.injEq, Prod.mk.injEq] at hout ⊢
        obtain ⟨rfl, rfl, rfl⟩ := hout
        exact ⟨fun _ _ => trivial, hK G undef w .rfl (by simp only [VRel, VRels]; exact ⟨[], rfl, rfl⟩) (hH.sub (fun _ h => h) fun t ht => ht.1) .rfl⟩

end
end Eng

namespace Eng
open Go Go.RowKit
set_option linter.unusedSimpArgs false
set_option linter.unusedVariables false

def edges (o : Oper) : List Nat := o.after.toList.filterMap fun e => if Region.binds .any e then some e.on else none

/-- which operations come surely before, as bits -/
def mask1 (acc : List Nat) (o : Oper) : Nat := (edges o).foldl (fun s i => s ||| (2 ^ i ||| acc.getD i 0)) 0
def masks : List Oper → List Nat → List Nat
  | [], acc => acc
  | o :: os, acc => masks os (acc ++ [mask1 acc o])

theorem mask1_bit {acc : List Nat} {o : Oper} {i : Nat} (h : (mask1 acc o).testBit i = true) : ∃ e ∈ edges o, i = e ∨ (acc.getD e 0).testBit i = true := by
  unfold mask1 at h
  have key : ∀ (l : List Nat) (s : Nat), (l.foldl (fun s i => s ||| (2 ^ i ||| acc.getD i 0)) s).testBit i = true → s.testBit i = true ∨ ∃ e ∈ l, i = e ∨ (acc.getD e 0).testBit i = true := by
    intro l
    induction l with
    | nil => intro s h; exact .inl h
    | cons e l ih =>
      intro s h
      rcases ih _ h with h | ⟨e', he', h⟩
      · simp only [Nat.testBit_or, Bool.or_eq_true] at h
        rcases h with h | h | h
        · exact .inl h
        · rw [Nat.testBit_two_pow] at h
          simp only [decide_eq_true_eq] at h
          exact .inr ⟨e, by simp, .inl h.symm⟩
        · exact .inr ⟨e, by simp, .inr h⟩
      · exact .inr ⟨e', by simp [he'], h⟩
  rcases key _ _ h with h | h
  · simp at h
  · exact h

/-- whatever is closed under the edges is closed under 'surely before' -/
theorem masks_closed {S : Nat → Prop} : ∀ {os : List Oper} {acc : List Nat} {all : List Oper}, (∀ k, os[k]? = all[acc.length + k]?) → (∀ (k : Nat) (o : Oper), all[k]? = some o → S k → ∀ e ∈ edges o, S e) →
    (∀ j i, (acc.getD j 0).testBit i = true → S j → S i) → ∀ j i, ((masks os acc).getD j 0).testBit i = true → S j → S i
  | [], acc, all, _, _, h => h
  | o :: os, acc, all, hal, hS, h => by
    have ho : all[acc.length]? = some o := by have := hal 0; simp at this; exact this.symm
    refine masks_closed (all := all) (os := os) (acc := acc ++ [mask1 acc o]) (fun k => ?_) hS fun j i hb hj => ?_
    · have := hal (k + 1)
      simp only [List.getElem?_cons_succ] at this
      rw [this]; simp only [List.length_append, List.length_singleton]; congr 1; omega
    · rw [List.getD_eq_getElem?_getD, List.getElem?_append] at hb
      split at hb
      · exact h j i (by rw [List.getD_eq_getElem?_getD]; exact hb) hj
      · rename_i hge
        by_cases hj0 : j = acc.length
        · subst hj0
          simp at hb
          obtain ⟨e, he, hi⟩ := mask1_bit hb
          have hSe := hS _ o ho hj e he
          rcases hi with rfl | hi
          · exact hSe
          · exact h e i hi hSe
        · have : j - acc.length ≠ 0 := by omega
          obtain ⟨m, hm⟩ := Nat.exists_eq_succ_of_ne_zero this
          rw [hm] at hb
          simp at hb

def slotsR (o : AOper) : List Nat := o.xs.filterMap (fun | .t n => some n | .c _ => none) ++ (match o.guard with | some (g, _) => [g] | none => [])

def sIndep (x y : AOper) : Bool :=
  (match x.dst with | some d => !(slotsR y).contains d && y.dst != some d | none => true) && (match y.dst with | some d => !(slotsR x).contains d | none => true)

def AOp.reads : AOp → Bool
  | .load .. | .call _ | .callv | .store .. | .app .. | .cpy => true
  | _ => false

def relevant (x y : AOp) : Bool := (x.isEff && (y.isEff || y.reads)) || (y.isEff && x.reads)

def wG : Eff → Option Nat
  | .no => none
  | .new e => some e.grp
  | .set _ g _ => some g
  | .ext _ g _ => some g

abbrev FP := List Nat × Option Nat

def fpO (o : AOper) (s : AState) : FP :=
  ((tids o.op (evs s.tm o.xs)).filterMap fun t => (getE s.hp t).map (·.grp),
   if o.op.isEff then (effOp (getE s.hp) s.next o.op (evs s.tm o.xs)).bind fun p => wG p.2 else none)

def indep (x y : FP) : Bool :=
  (match x.2 with | some g => !y.1.contains g && y.2 != some g | none => true) && (match y.2 with | some g => !x.1.contains g | none => true)

def runL (cs : Ctx) : List AOper → AState → List FP → Option (AState × List FP)
  | [], s, log => some (s, log)
  | o :: os, s, log => (step cs o s).bind fun s' => runL cs os s' (log ++ [fpO o s])

def pairsOf (ms : List Nat) (aops : List AOper) : List (Nat × Nat) :=
  (List.range aops.length).flatMap fun j => (List.range j).filterMap fun i =>
    if (ms.getD j 0).testBit i then none
    else match aops[i]?, aops[j]? with
      | some x, some y => if relevant x.op y.op then some (i, j) else none
      | _, _ => none

def runD (cs : Ctx) (aops : List AOper) (pairs : List (Nat × Nat)) (s : AState) : Option AState :=
  match pairs with
  | [] => run cs aops s
  | ps => (runL cs aops s []).bind fun p => if ps.all (fun (i, j) => indep (p.2.getD i ([], none)) (p.2.getD j ([], none))) then some p.1 else none

def okD (ops : List Oper) (ms : List Nat) (aops : List AOper) : Bool :=
  (List.range ops.length).all fun j => (match ops[j]? with | some o => (edges o).all (· < j) | none => true) &&
    (List.range j).all fun i => (ms.getD j 0).testBit i || (match aops[i]?, aops[j]? with | some x, some y => sIndep x y | _, _ => true)

/-! ### what is there when some operations have run -/
section
variable (aops : List AOper) (st : Nat → AState) (v : Nat → AV) (f : Nat → Eff)

def dstOf (k : Nat) : Option Nat := (aops[k]?).bind (·.dst)

def tmS (S : Nat → Bool) : Nat → List AV
  | 0 => (st 0).tm
  | k + 1 => if S k then (match dstOf aops k with | some d => setT (tmS S k) d (v k) | none => tmS S k) else tmS S k

def actG (e : Eff) (g : Nat) (l : List HEnt) : List HEnt :=
  match e with
  | .no => l
  | .new x => if x.grp = g then [x] else l
  | .set t g' k => if g' = g then [⟨t, g', k⟩] else l
  | .ext t g' x => if g' = g then l.filter (·.id = t) ++ [x] else l

def hS (S : Nat → Bool) (g : Nat) : Nat → List HEnt
  | 0 => (st 0).hp.filter (·.grp = g)
  | k + 1 => if S k then actG (f k) g (hS S g k) else hS S g k

theorem actG_other {e : Eff} {g : Nat} (h : wG e ≠ some g) (l : List HEnt) : actG e g l = l := by
  cases e <;> simp only [actG, wG] at * <;> first | rfl | (rw [if_neg (fun x => h (by rw [x]))])

theorem tmS_len (S : Nat → Bool) (k : Nat) : (tmS aops st v S k).length = (st 0).tm.length := by
  induction k with
  | zero => rfl
  | succ k ih =>
    simp only [tmS]
    split
    · split
      · rw [setT_eq, List.length_set]; exact ih
      · exact ih
    · exact ih

theorem tmS_get {S S' : Nat → Bool} {x : Nat} {k : Nat} (h : ∀ j, j < k → S j ≠ S' j → dstOf aops j ≠ some x) : getT (tmS aops st v S k) x = getT (tmS aops st v S' k) x := by
  induction k with
  | zero => rfl
  | succ k ih =>
    have ih := ih fun j hj => h j (by omega)
    have hl := tmS_len aops st v S k
    have hl' := tmS_len aops st v S' k
    simp only [tmS]
    by_cases hx : dstOf aops k = some x
    · have hs : S k = S' k := Decidable.byContradiction fun e => h k (by omega) e hx
      rw [hs, hx]
      split
      · simp only [setT_eq, getT_eq, List.getD_eq_getElem?_getD, List.getElem?_set, hl, hl', if_true]
      · exact ih
    · have skip : ∀ (T : List AV), getT (match dstOf aops k with | some d => setT T d (v k) | none => T) x = getT T x := by
        intro T
        cases hd : dstOf aops k with
        | none => rfl
        | some d =>
          have : d ≠ x := fun e => hx (by rw [hd, e])
          simp only [setT_eq, getT_eq, List.getD_eq_getElem?_getD, List.getElem?_set, this, if_false]
      cases S k <;> cases S' k <;> simp only [Bool.false_eq_true, if_false, if_true, skip] <;> exact ih

theorem tmS_ins {S : Nat → Bool} {i : Nat} (hi : S i = false) {k : Nat} (hk : i < k) (h : ∀ j, i < j → j < k → S j = true → ∀ d, dstOf aops i = some d → dstOf aops j ≠ some d) :
    tmS aops st v (fun j => S j || decide (j = i)) k = (match dstOf aops i with | some d => setT (tmS aops st v S k) d (v i) | none => tmS aops st v S k) := by
  have same : ∀ m, m ≤ i → tmS aops st v (fun j => S j || decide (j = i)) m = tmS aops st v S m := by
    intro m
    induction m with
    | zero => intro _; rfl
    | succ m ih =>
      intro hm
      have : m ≠ i := by omega
      simp only [tmS, ih (by omega), this, decide_false, Bool.or_false]
  induction k with
  | zero => omega
  | succ k ih =>
    by_cases hki : k = i
    · subst hki
      simp only [tmS, same k (Nat.le_refl _), decide_true, Bool.or_true, if_true, hi, Bool.false_eq_true, if_false]
    · have hlt : i < k := by omega
      have ih := ih hlt fun j h1 h2 => h j h1 (by omega)
      simp only [tmS, hki, decide_false, Bool.or_false, ih]
      cases hS : S k with
      | false => simp
      | true =>
        simp only [if_true]
        cases hd : dstOf aops i with
        | none => rfl
        | some d =>
          cases hd' : dstOf aops k with
          | none => rfl
          | some d' =>
            have : d ≠ d' := fun e => h k hlt (by omega) hS d hd (by rw [hd', e])
            simp only [setT_eq]
            rw [List.set_comm _ _ this]

theorem hS_get {S S' : Nat → Bool} {g : Nat} {k : Nat} (h : ∀ j, j < k → S j ≠ S' j → wG (f j) ≠ some g) : hS st f S g k = hS st f S' g k := by
  induction k with
  | zero => rfl
  | succ k ih =>
    have ih := ih fun j hj => h j (by omega)
    simp only [hS, ih]
    by_cases hx : wG (f k) = some g
    · have hs : S k = S' k := Decidable.byContradiction fun e => h k (by omega) e hx
      rw [hs]
    · simp only [actG_other hx, ite_self]

theorem hS_from {S : Nat → Bool} {g : Nat} {i k : Nat} (hik : i ≤ k) (h : ∀ j, i ≤ j → j < k → S j = true → wG (f j) ≠ some g) : hS st f S g k = hS st f S g i := by
  induction k with
  | zero => have : i = 0 := by omega
            rw [this]
  | succ k ih =>
    by_cases hki : i = k + 1
    · rw [hki]
    · have ih := ih (by omega) fun j h1 h2 => h j h1 (by omega)
      simp only [hS]
      split
      · rename_i hs
        rw [actG_other (h k (by omega) (by omega) hs)]; exact ih
      · exact ih

end
end Eng
