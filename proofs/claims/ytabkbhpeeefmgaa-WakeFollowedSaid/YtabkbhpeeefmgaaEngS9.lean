/-
THE ENGINE, PART S7: functions that change one block, or lay one: in whatever heap.
THE ENGINE, PART SA: functions that lay one block of rows, in whatever heap.
THE ENGINE, PART S9: the rules of a walk, bundled: one name for all of them.
-/
import Derived.Test.YtabkbhpeeefmgaaEngS6
namespace Eng
open Go Go.RowKit
set_option linter.unusedSimpArgs false
set_option linter.unusedVariables false

/-- block t alone is looked at, as number 0 -/
def toZ (t : Nat) : Nat → Fate := fun u => if u = t then .as 0 else .gone

theorem LOk.one {P : Program} {f : Nat} {args args0 : List AV} {H : List HEnt} {nx n' t ty n : Nat} {x x' v : AV}
    (h : LOk P f args0 [⟨0, 0, .rows ty n [x]⟩] 1 v [⟨0, 0, .rows ty n [x']⟩] n') (ha : subs (toZ t) args = args0)
    (hx : sub1 noId x = x) (hx' : sub1 noId x' = x') (hv : sub1 noId v = v) (he : getE H t = some ⟨t, t, .rows ty n [x]⟩) :
    LOk P f args H nx v (setB H t t (.rows ty n [x'])) nx := by
  refine ⟨h.1, fun G w cargs hH hr => ?_⟩
  have hm := (getE_mem he).1
  obtain ⟨l, hl, hb, hro, hgr⟩ := hH.ent _ hm
  simp only at hl hb hgr
  have hlt := hb.lt
  let G0 : Ghost := { ι := fun u => if u = 0 then some l else none, ro := G.ro, an := ⟨fun r => r < w.heap.size ∧ r ≠ l.b, G.ro, fun r => w.heap[r]?⟩ }
  have hs : Subst G G0 (toZ t) := by
    refine ⟨fun _ _ _ _ h => h, fun u u' l' hu hl' => ?_, fun u esz vals l' hu => ?_⟩
    · unfold toZ at hu
      split at hu
      · rename_i e
        cases hu
        rw [e, hl] at hl'; cases hl'
        simp [G0]
      · cases hu
    · unfold toZ at hu
      split at hu <;> cases hu
  have hsn : Subst G G0 noId := ⟨fun _ _ _ _ h => h, fun u u' l' hu => by simp [noId] at hu, fun u esz vals l' hu => by simp [noId] at hu⟩
  have hr0 : VRels G0 args0 cargs := ha ▸ VRels.subst hs _ hr
  have hb0 : BRel G0 l w (.rows ty n [x]) := by
    have := BRel.subst hsn hb
    simpa only [ABlk.sub, subs, hx] using this
  have hH0 : HRel G0 (· ∈ [⟨0, 0, .rows ty n [x]⟩]) (1 ≤ ·) w := by
    refine ⟨hH.ro, fun e he => ?_, fun e e' he he' hne => ?_, fun u hu => ?_, fun e e' he he' _ => ?_, fun e he l' hl' => ?_, fun r hr => hr.1, fun r hr => ⟨rfl, rfl⟩⟩
    · rw [List.mem_singleton] at he; subst he
      exact ⟨l, by simp [G0], hb0, hro, by simp⟩
    · rw [List.mem_singleton] at he he'; subst he; subst he'; exact absurd rfl hne
    · have : u ≠ 0 := by omega
      simp [G0, this]
    · rw [List.mem_singleton] at he he'; rw [he, he']
    · rw [List.mem_singleton] at he; subst he
      simp only [G0, if_true, Option.some.injEq] at hl'
      subst hl'
      exact fun x => x.2 rfl
  refine (h.2 G0 w cargs hH0 hr0).mono ?_
  rintro e w' ⟨v0, hp0, nx0, G', cv, ⟨e1, e2, e3⟩, rfl, hle, hH', hcv, hk⟩
  rw [e2] at hH'
  rw [e1] at hcv
  have hιl : G'.ι 0 = some l := hle.ι 0 l (by simp [G0])
  obtain ⟨l', hl1, hb', hro', _⟩ := hH'.ent ⟨0, 0, .rows ty n [x']⟩ (by simp)
  simp only at hl1 hb'
  rw [hιl] at hl1; cases hl1
  have hlo : ∀ r, r < w.heap.size → r ≠ l.b → G'.ro r = G.ro r ∧ w'.heap[r]? = w.heap[r]? := fun r h1 h2 => by
    have := hH'.lo r (by rw [hle.an]; exact ⟨h1, h2⟩)
    rw [hle.an] at this
    exact this
  have hGlt : ∀ r o, G.ro r = some o → r < w.heap.size ∧ r ≠ l.b := fun r o hr => ⟨(Array.getElem?_eq_some_iff.1 (hH.ro r o hr)).1, fun e => by rw [e, hro] at hr; cases hr⟩
  let G2 : Ghost := { ι := G.ι, ro := fun r => if r < w.heap.size then G.ro r else w'.heap[r]?, an := G.an }
  have hle2 : G.le G2 := ⟨⟨fun _ _ h => h, fun r o hr => by simp only [G2, (hGlt r o hr).1, if_true]; exact hr⟩, rfl⟩
  have hs2 : Subst G' G2 noId := ⟨fun r cur e fr hr => by
      simp only [G2]
      split
      · rename_i hlt'
        by_cases hrb : r = l.b
        · rw [hrb, hro'] at hr; cases hr
        · rw [← (hlo r hlt' hrb).1]; exact hr
      · exact hH'.ro _ _ hr, fun u u' l' hu => by simp [noId] at hu, fun u esz vals l' hu => by simp [noId] at hu⟩
  have hb2 : BRel G2 l w' (.rows ty n [x']) := by
    have := BRel.subst hs2 hb'
    simpa only [ABlk.sub, subs, hx'] using this
  have hv2 : VRel G2 v cv := by
    have := VRel.subst hs2 _ hcv
    rwa [hv] at this
  refine ⟨v, _, nx, G2, cv, ⟨rfl, rfl, rfl⟩, rfl, hle2, ?_, hv2, hk⟩
  have hH2 : HRel G2 (· ∈ H) (nx ≤ ·) { w with heap := w'.heap.set l.b w.heap[l.b] (Nat.lt_of_lt_of_le hlt hk.size) } := by
    have hsame : ∀ r, r < w.heap.size → (w'.heap.set l.b w.heap[l.b] (Nat.lt_of_lt_of_le hlt hk.size))[r]? = w.heap[r]? := fun r hr => by
      by_cases hrb : r = l.b
      · subst hrb; simp [hlt]
      · rw [Array.getElem?_set_ne _ (Ne.symm hrb)]; exact (hlo r hr hrb).2
    have h1 := hH.world (w' := { w with heap := w'.heap.set l.b w.heap[l.b] (Nat.lt_of_lt_of_le hlt hk.size) }) hsame (by simp; exact hk.size)
    refine ⟨fun r o hr => ?_, fun e he => ?_, h1.sep, h1.fresh, h1.uniq, h1.own, h1.sz, fun r hr => ?_⟩
    · simp only [G2] at hr
      split at hr
      · exact h1.ro r o hr
      · rename_i hge
        have : r ≠ l.b := fun e => hge (e ▸ hlt)
        show (w'.heap.set l.b w.heap[l.b] (Nat.lt_of_lt_of_le hlt hk.size))[r]? = _
        rw [Array.getElem?_set_ne _ (Ne.symm this)]; exact hr
    · obtain ⟨l3, h3, h4, h5, h6⟩ := h1.ent e he
      refine ⟨l3, h3, h4.mono hle2, ?_, h6⟩
      obtain ⟨l4, h7, h8, _⟩ := hH.ent e he
      rw [h3] at h7; cases h7
      simp only [G2, h8.lt, if_true]; exact h5
    · have hr' := hH.sz r hr
      refine ⟨?_, (h1.lo r hr).2⟩
      simp only [G2, hr', if_true]; exact (h1.lo r hr).1
  exact (hH2.setB (e := ⟨t, t, .rows ty n [x]⟩) hm hl (w' := w') (fun r hr => by
      show _ = (w'.heap.set l.b w.heap[l.b] (Nat.lt_of_lt_of_le hlt hk.size))[r]?
      rw [Array.getElem?_set_ne _ (Ne.symm hr)]) (by simp) hb2).sub (fun e he => mem_setB he) (fun _ h => h)

/-- A function that lays one block and hands back where it lies, in whatever heap. -/
theorem LOk.lay {P : Program} {f : Nat} {args : List AV} {H : List HEnt} {nx n' ty n : Nat} {x : AV}
    (h : LOk P f args [] 0 (.ptr 0 n 0 0) [⟨0, 0, .rows ty n [x]⟩] n') (ha : subs noId args = args) (hx : sub1 noId x = x) :
    LOk P f args H nx (.ptr nx n 0 0) (⟨nx, nx, .rows ty n [x]⟩ :: H) (nx + 1) := by
  refine ⟨h.1, fun G w cargs hH hr => ?_⟩
  let G0 : Ghost := { ι := fun u => none, ro := G.ro, an := ⟨fun r => r < w.heap.size, G.ro, fun r => w.heap[r]?⟩ }
  have hsn : Subst G G0 noId := ⟨fun _ _ _ _ h => h, fun u u' l' hu => by simp [noId] at hu, fun u esz vals l' hu => by simp [noId] at hu⟩
  have hr0 : VRels G0 args cargs := by
    have := VRels.subst hsn _ hr
    rwa [ha] at this
  have hH0 : HRel G0 (· ∈ []) (0 ≤ ·) w := ⟨hH.ro, fun e he => absurd he (by simp), fun e _ he => absurd he (by simp), fun _ _ => rfl, fun e _ he => absurd he (by simp), fun e he => absurd he (by simp), fun _ hr => hr, fun _ _ => ⟨rfl, rfl⟩⟩
  refine (h.2 G0 w cargs hH0 hr0).mono ?_
  rintro e w' ⟨v0, hp0, nx0, G', cv, ⟨e1, e2, e3⟩, rfl, hle, hH', hcv, hk⟩
  rw [e2] at hH'
  rw [e1] at hcv
  obtain ⟨l, hl1, hb', hro', _⟩ := hH'.ent ⟨0, 0, .rows ty n [x]⟩ (by simp)
  simp only at hl1 hb'
  have hlo : ∀ r, r < w.heap.size → G'.ro r = G.ro r ∧ w'.heap[r]? = w.heap[r]? := fun r h1 => by
    have := hH'.lo r (by rw [hle.an]; exact h1)
    rw [hle.an] at this
    exact this
  have hlb : ¬ l.b < w.heap.size := fun x => by
    have h0 := hH'.own _ (List.mem_singleton.2 rfl) l hl1
    rw [hle.an] at h0
    exact h0 x
  have hGlt : ∀ r o, G.ro r = some o → r < w.heap.size := fun r o hr => (Array.getElem?_eq_some_iff.1 (hH.ro r o hr)).1
  let G1 : Ghost := { ι := G.ι, ro := fun r => if r < w.heap.size then G.ro r else if r = l.b then none else w'.heap[r]?, an := G.an }
  let G2 : Ghost := G1.put nx l
  have hn : G1.ι nx = none := hH.fresh nx (Nat.le_refl nx)
  have hle1 : G.le G1 := ⟨⟨fun _ _ h => h, fun r o hr => by simp only [G1, hGlt r o hr, if_true]; exact hr⟩, rfl⟩
  have hle2 : G.le G2 := hle1.trans (Ghost.le_put hn)
  have hs2 : Subst G' G2 noId := ⟨fun r cur e fr hr => by
      simp only [G2, Ghost.put, G1]
      split
      · rename_i hlt'
        rw [← (hlo r hlt').1]; exact hr
      · split
        · rename_i e; rw [e, hro'] at hr; cases hr
        · exact hH'.ro _ _ hr, fun u u' l' hu => by simp [noId] at hu, fun u esz vals l' hu => by simp [noId] at hu⟩
  have hb2 : BRel G2 l w' (.rows ty n [x]) := by
    have := BRel.subst hs2 hb'
    simpa only [ABlk.sub, subs, hx] using this
  have hput : ∀ e ∈ H, e.id ≠ nx := fun e he hx => by
    obtain ⟨l3, h3, _⟩ := hH.ent e he
    rw [hx] at h3
    exact absurd h3 (by have := hH.fresh nx (Nat.le_refl nx); rw [this]; simp)
  have hιe : ∀ e ∈ H, G2.ι e.id = G.ι e.id := fun e he => by simp [G2, G1, Ghost.put, hput e he]
  have hnew : G2.ι nx = some l := by simp [G2, Ghost.put]
  have hv2 : VRel G2 (.ptr nx n 0 0) cv := by
    simp only [VRel] at hcv ⊢
    obtain ⟨l5, h5, h6, h7⟩ := hcv
    rw [hl1] at h5; cases h5
    exact ⟨l, hnew, h6, h7⟩
  refine ⟨_, _, _, G2, cv, ⟨rfl, rfl, rfl⟩, rfl, hle2, ?_, hv2, hk⟩
  have h1 := hH.world (w' := w') (fun r hr => (hlo r hr).2) hk.size
  have hgrp : ∀ e ∈ H, e.grp < nx := fun e he => by
    obtain ⟨_, _, _, _, h6⟩ := hH.ent e he
    exact Nat.lt_of_not_le h6
  refine ⟨fun r o hr => ?_, fun e he => ?_, fun e e' he he' hne l1 l2 h3 h4 => ?_, fun u hu => ?_, fun e e' he he' hid => ?_, fun e he l1 h3 => ?_, h1.sz, fun r hr => ?_⟩
  · simp only [G2, G1, Ghost.put] at hr
    split at hr
    · exact h1.ro r o hr
    · split at hr
      · cases hr
      · exact hr
  · rcases List.mem_cons.1 he with rfl | he
    · refine ⟨l, hnew, hb2, ?_, by simp⟩
      simp [G2, G1, Ghost.put, hlb]
    · obtain ⟨l3, h3, h4, h5, h6⟩ := h1.ent e he
      obtain ⟨l4, h7, h8, _⟩ := hH.ent e he
      rw [h3] at h7; cases h7
      refine ⟨l3, by rw [hιe e he]; exact h3, h4.mono hle2, ?_, fun x => h6 (Nat.le_of_succ_le x)⟩
      simp only [G2, G1, Ghost.put, h8.lt, if_true]; exact h5
  · have old : ∀ e ∈ H, ∀ l1, G2.ι e.id = some l1 → l1.b < w.heap.size := fun e he l1 hl => by
      rw [hιe e he] at hl
      obtain ⟨l4, h7, h8, _⟩ := hH.ent e he
      rw [hl] at h7; cases h7
      exact h8.lt
    rcases List.mem_cons.1 he with rfl | he <;> rcases List.mem_cons.1 he' with rfl | he'
    · exact absurd rfl hne
    · rw [hnew] at h3; cases h3
      exact fun x => hlb (x ▸ old e' he' l2 h4)
    · rw [hnew] at h4; cases h4
      exact fun x => hlb (x ▸ old e he l1 h3)
    · rw [hιe e he] at h3; rw [hιe e' he'] at h4
      exact hH.sep e e' he he' hne l1 l2 h3 h4
  · have : u ≠ nx := by omega
    simp only [G2, Ghost.put, this, if_false]
    exact hH.fresh u (by omega)
  · rcases List.mem_cons.1 he with rfl | he <;> rcases List.mem_cons.1 he' with rfl | he'
    · rfl
    · exact absurd hid.symm (hput e' he')
    · exact absurd hid (hput e he)
    · exact hH.uniq e e' he he' hid
  · rcases List.mem_cons.1 he with rfl | he
    · rw [hnew] at h3; cases h3
      exact fun x => hlb (hH.sz _ x)
    · rw [hιe e he] at h3; exact hH.own e he l1 h3
  · have hr' := hH.sz r hr
    refine ⟨?_, (h1.lo r hr).2⟩
    simp only [G2, G1, Ghost.put, hr', if_true]; exact (h1.lo r hr).1

/-- a method of one block: c tells what comes back and what the block holds then -/
def oneK (H : List HEnt) (nx t ty n : Nat) : Option (AV × AV) → Option (AV × List HEnt × Nat)
  | some (v, x') => some (v, setB H t t (.rows ty n [x']), nx)
  | none => none
def oneE (c : List AV → AV → Option (AV × AV)) (args : List AV) (H : List HEnt) (nx t ty n : Nat) : Option HEnt → Option (AV × List HEnt × Nat)
  | some ⟨_, g, .rows ty' n' [x]⟩ => if g = t ∧ n' = n ∧ ty' = ty then oneK H nx t ty n (c (subs (toZ t) args) x) else none
  | _ => none
def oneH (ty n : Nat) (c : List AV → AV → Option (AV × AV)) : List AV → List HEnt → Nat → Option (AV × List HEnt × Nat)
  | .ptr t n' 0 0 :: args, H, nx => if n' = n then oneE c (.ptr t n' 0 0 :: args) H nx t ty n (getE H t) else none
  | _, _, _ => none
/-- its contract, at block 0 -/
def One (P : Program) (f ty n : Nat) (c : List AV → AV → Option (AV × AV)) : Prop :=
  ∀ args x v x', c args x = some (v, x') → (∃ n', LOk P f args [⟨0, 0, .rows ty n [x]⟩] 1 v [⟨0, 0, .rows ty n [x']⟩] n') ∧ sub1 noId x = x ∧ sub1 noId x' = x' ∧ sub1 noId v = v
theorem One.hn {P : Program} {f ty n : Nat} {c : List AV → AV → Option (AV × AV)} (h : One P f ty n c) : Hn P f (oneH ty n c) := fun args H nx v hp' nx' hc => by
  unfold oneH at hc
  split at hc
  · rename_i t n' args
    split at hc
    · rename_i hn
      subst hn
      unfold oneE at hc
      split at hc
      · rename_i i g ty' n'' x he
        split at hc
        · rename_i hcc
          obtain ⟨rfl, rfl, rfl⟩ := hcc
          unfold oneK at hc
          split at hc
          · rename_i v0 x' hcv
            simp only [Option.some.injEq, Prod.mk.injEq] at hc
            obtain ⟨rfl, rfl, rfl⟩ := hc
            obtain ⟨⟨m, h1⟩, h2, h3, h4⟩ := h _ _ _ _ hcv
            have hid := (getE_mem he).2
            simp only at hid
            subst hid
            exact LOk.one h1 rfl h2 h3 h4 he
          · cases hc
        · cases hc
      · cases hc
    · cases hc
  · cases hc

section
variable (c : List AV → AV → Option (AV × AV)) (args : List AV) (H : List HEnt) (nx t ty n i j : Nat) (x x' v : AV) (k : IntKind) (m : Int) (b : Bool) (l : List AV)
theorem o_h : oneH ty n c (.ptr t n 0 0 :: args) H nx = oneE c (.ptr t n 0 0 :: args) H nx t ty n (getE H t) := by simp only [oneH, if_true]
theorem o_e : oneE c args H nx t ty n (some ⟨t, t, .rows ty n [x]⟩) = oneK H nx t ty n (c (subs (toZ t) args) x) := by simp only [oneE, and_self, if_true]
theorem o_k : oneK H nx t ty n (some (v, x')) = some (v, setB H t t (.rows ty n [x']), nx) := rfl
theorem z_nil : subs (toZ t) [] = [] := rfl
theorem z_cons : subs (toZ t) (v :: l) = sub1 (toZ t) v :: subs (toZ t) l := rfl
theorem z_ptr : sub1 (toZ t) (.ptr t n i j) = .ptr 0 n i j := by simp [sub1, toZ]
theorem z_int : sub1 (toZ t) (.int k m) = .int k m := rfl
theorem z_bool : sub1 (toZ t) (.bool b) = .bool b := rfl
theorem z_agg : sub1 (toZ t) (.agg l) = .agg (subs (toZ t) l) := rfl
end
/-- a function that lays one block -/
def layH (ty n : Nat) (c : List AV → Option AV) : List AV → List HEnt → Nat → Option (AV × List HEnt × Nat) := fun args H nx => match c args with
  | some x => some (.ptr nx n 0 0, ⟨nx, nx, .rows ty n [x]⟩ :: H, nx + 1)
  | none => none
def Lay (P : Program) (f ty n : Nat) (c : List AV → Option AV) : Prop :=
  ∀ args x, c args = some x → (∃ n', LOk P f args [] 0 (.ptr 0 n 0 0) [⟨0, 0, .rows ty n [x]⟩] n') ∧ subs noId args = args ∧ sub1 noId x = x
theorem Lay.hn {P : Program} {f ty n : Nat} {c : List AV → Option AV} (h : Lay P f ty n c) : Hn P f (layH ty n c) := fun args H nx v hp' nx' hc => by
  unfold layH at hc
  split at hc
  · rename_i x hx
    simp only [Option.some.injEq, Prod.mk.injEq] at hc
    obtain ⟨rfl, rfl, rfl⟩ := hc
    obtain ⟨⟨m, h1⟩, h2, h3⟩ := h _ _ hx
    exact LOk.lay h1 h2 h3
  · cases hc
theorem y_h {c : List AV → Option AV} {args : List AV} {x : AV} (h : c args = some x) (ty n : Nat) (H : List HEnt) (nx : Nat) : layH ty n c args H nx = some (.ptr nx n 0 0, ⟨nx, nx, .rows ty n [x]⟩ :: H, nx + 1) := by
  unfold layH; rw [h]

/-- what is not handed to a function stays as it is -/
theorem LOkE.frame {P : Program} {f : Nat} {args : List AV} {hp : List HEnt} {nx : Nat} {R : AV → List HEnt → Nat → Prop} (h : LOkE P f args hp nx R) (rest H : List HEnt) (hH : ∀ e, e ∈ H ↔ e ∈ rest ∨ e ∈ hp)
    (hd : ∀ e ∈ hp, ∀ e' ∈ rest, e.grp ≠ e'.grp) (hn : ∀ v h n, R v h n → nx ≤ n) : LOkE P f args H nx (fun v h' n => ∃ h0, R v h0 n ∧ h' = rest ++ h0) := by
  refine ⟨h.1, fun G w cargs hG hr => ?_⟩
  let G0 : Ghost := { ι := G.ι, ro := G.ro, an := ⟨fun r => G.an.P r ∨ ∃ e ∈ rest, ∃ l, G.ι e.id = some l ∧ l.b = r, G.ro, fun r => w.heap[r]?⟩ }
  have s0 : G.sub G0 := ⟨fun _ _ h => h, fun _ _ h => h⟩
  have hmem : ∀ e ∈ hp, e ∈ H := fun e he => (hH e).2 (.inr he)
  have hmemr : ∀ e ∈ rest, e ∈ H := fun e he => (hH e).2 (.inl he)
  have hb0 : ∀ {G G' : Ghost} {l : Loc} {w : World} {k : ABlk}, G.sub G' → BRel G l w k → BRel G' l w k := fun {G G' l w k} hs hb => by
    cases k with
    | rows e esz vals =>
      obtain ⟨h1, h2, cur, h3, h4, pre, suf, h5, h6, h7⟩ := hb
      exact ⟨h1, h2, cur, h3, h4, pre, suf, h5, VRels.mono' hs _ h6, h7⟩
    | obj _ => exact hb
  have hH0 : HRel G0 (· ∈ hp) (nx ≤ ·) w := by
    refine ⟨hG.ro, fun e he => ?_, fun e e' he he' => hG.sep e e' (hmem e he) (hmem e' he'), hG.fresh, fun e e' he he' => hG.uniq e e' (hmem e he) (hmem e' he'), fun e he l hl hP => ?_, fun r hP => ?_, fun r _ => ⟨rfl, rfl⟩⟩
    · obtain ⟨l, h1, h2, h3, h4⟩ := hG.ent e (hmem e he)
      exact ⟨l, h1, hb0 s0 h2, h3, h4⟩
    · rcases hP with hP | ⟨e', he', l', hl', hb⟩
      · exact hG.own e (hmem e he) l hl hP
      · exact hG.sep e e' (hmem e he) (hmemr e' he') (hd e he e' he') l l' hl hl' hb.symm
    · rcases hP with hP | ⟨e', he', l', hl', hb⟩
      · exact hG.sz r hP
      · obtain ⟨l2, h1, h2, _⟩ := hG.ent e' (hmemr e' he')
        rw [hl'] at h1; cases h1
        exact hb ▸ h2.lt
  refine (h.2 G0 w cargs hH0 (VRels.mono' s0 _ hr)).mono ?_
  rintro e w' ⟨v, h0, n, G', cv, hR, rfl, hle, hH', hv, hk⟩
  have hlo : ∀ r, G0.an.P r → G'.ro r = G.ro r ∧ w'.heap[r]? = w.heap[r]? := fun r hr => by
    have := hH'.lo r (by rw [hle.an]; exact hr)
    rw [hle.an] at this
    exact this
  let G2 : Ghost := { ι := G'.ι, ro := G'.ro, an := G.an }
  have s2 : G'.sub G2 := ⟨fun _ _ h => h, fun _ _ h => h⟩
  have hle2 : G.le G2 := ⟨⟨hle.ι, hle.ro⟩, rfl⟩
  have hn' := hn _ _ _ hR
  refine ⟨v, rest ++ h0, n, G2, cv, ⟨h0, hR, rfl⟩, rfl, hle2, ?_, VRel.mono' s2 _ hv, hk⟩
  have hPr : ∀ e ∈ rest, ∀ l, G2.ι e.id = some l → G0.an.P l.b := fun e he l hl => by
    obtain ⟨l2, h1, h2, _⟩ := hG.ent e (hmemr e he)
    have := hle.ι _ _ h1
    have e1 : l2 = l := by
      have h3 : G'.ι e.id = some l := hl
      have h4 : G'.ι e.id = some l2 := this
      rw [h3] at h4; cases h4; rfl
    exact .inr ⟨e, he, l2, h1, by rw [e1]⟩
  have hNP : ∀ e ∈ h0, ∀ l, G2.ι e.id = some l → ¬ G0.an.P l.b := fun e he l hl => by
    have := hH'.own e he l hl
    rwa [hle.an] at this
  refine ⟨hH'.ro, fun e he => ?_, fun e e' he he' hne l l' hl hl' => ?_, hH'.fresh, fun e e' he he' hid => ?_, fun e he l hl hP => ?_, fun r hr => Nat.lt_of_lt_of_le (hG.sz r hr) hk.size, fun r hr => ?_⟩
  · rcases List.mem_append.1 he with he | he
    · obtain ⟨l, h1, h2, h3, h4⟩ := hG.ent e (hmemr e he)
      have hP : G0.an.P l.b := .inr ⟨e, he, l, h1, rfl⟩
      refine ⟨l, hle.ι _ _ h1, (h2.mono hle2).world (hlo _ hP).2, (hlo _ hP).1.trans h3, fun x => h4 (Nat.le_trans hn' x)⟩
    · obtain ⟨l, h1, h2, h3, h4⟩ := hH'.ent e he
      exact ⟨l, h1, hb0 s2 h2, h3, h4⟩
  · rcases List.mem_append.1 he with he | he <;> rcases List.mem_append.1 he' with he' | he'
    · obtain ⟨l2, h1, _⟩ := hG.ent e (hmemr e he)
      obtain ⟨l3, h2, _⟩ := hG.ent e' (hmemr e' he')
      have e1 : l2 = l := by have h4 : G2.ι e.id = some l2 := hle.ι _ _ h1; rw [hl] at h4; cases h4; rfl
      have e2 : l3 = l' := by have h4 : G2.ι e'.id = some l3 := hle.ι _ _ h2; rw [hl'] at h4; cases h4; rfl
      exact e1 ▸ e2 ▸ hG.sep e e' (hmemr e he) (hmemr e' he') hne l2 l3 h1 h2
    · exact fun x => hNP e' he' l' hl' (x ▸ hPr e he l hl)
    · exact fun x => hNP e he l hl (x ▸ hPr e' he' l' hl')
    · exact hH'.sep e e' he he' hne l l' hl hl'
  · rcases List.mem_append.1 he with he | he <;> rcases List.mem_append.1 he' with he' | he'
    · exact hG.uniq e e' (hmemr e he) (hmemr e' he') hid
    · obtain ⟨l, hl, _⟩ := hH'.ent e' he'
      exact absurd (hPr e he l (by rw [hid]; exact hl)) (hNP e' he' l hl)
    · obtain ⟨l, hl, _⟩ := hH'.ent e he
      exact absurd (hPr e' he' l (by rw [← hid]; exact hl)) (hNP e he l hl)
    · exact hH'.uniq e e' he he' hid
  · rcases List.mem_append.1 he with he | he
    · obtain ⟨l2, h1, _⟩ := hG.ent e (hmemr e he)
      have e1 : l2 = l := by have h4 : G2.ι e.id = some l2 := hle.ι _ _ h1; rw [hl] at h4; cases h4; rfl
      exact hG.own e (hmemr e he) l2 h1 (e1 ▸ hP)
    · exact hNP e he l hl (.inl hP)
  · have := hlo r (.inl hr)
    exact ⟨this.1.trans (hG.lo r hr).1, this.2.trans (hG.lo r hr).2⟩

/-- more numbers are free -/
theorem LOkE.nx {P : Program} {f : Nat} {args : List AV} {hp : List HEnt} {nx nx2 : Nat} {R : AV → List HEnt → Nat → Prop} (h : LOkE P f args hp nx R) (hle : nx2 ≤ nx) : LOkE P f args hp nx2 R :=
  ⟨h.1, fun G w cargs hG hr => h.2 G w cargs (hG.sub (fun _ h => h) fun t ht => Nat.le_trans hle ht) hr⟩

theorem LOk.frame {P : Program} {f : Nat} {args : List AV} {hp hp' : List HEnt} {nx nx' : Nat} {v : AV} (h : LOk P f args hp nx v hp' nx') (rest H : List HEnt) (hH : ∀ e, e ∈ H ↔ e ∈ rest ∨ e ∈ hp)
    (hd : ∀ e ∈ hp, ∀ e' ∈ rest, e.grp ≠ e'.grp) (hn : nx ≤ nx') : LOk P f args H nx v (rest ++ hp') nx' := by
  have := LOkE.frame h rest H hH hd (fun v h n hr => hr.2.2 ▸ hn)
  refine ⟨this.1, fun G w cargs h1 h2 => (this.2 G w cargs h1 h2).mono ?_⟩
  rintro e w' ⟨u, k, n, G', cv, ⟨h0, ⟨rfl, rfl, rfl⟩, rfl⟩, h3⟩
  exact ⟨_, _, _, G', cv, ⟨rfl, rfl, rfl⟩, h3⟩

/-- what is in none of these groups -/
def restG (gs : List Nat) : List HEnt → List HEnt
  | [] => []
  | e :: r => if memN gs e.grp then restG gs r else e :: restG gs r
theorem mem_restG {gs : List Nat} : ∀ {H : List HEnt} {e : HEnt}, e ∈ restG gs H ↔ e ∈ H ∧ memN gs e.grp = false
  | [], e => by simp [restG]
  | x :: r, e => by
    simp only [restG]
    split
    · rename_i hx
      rw [mem_restG (H := r)]
      constructor
      · rintro ⟨h1, h2⟩; exact ⟨by simp [h1], h2⟩
      · rintro ⟨h1, h2⟩
        rcases List.mem_cons.1 h1 with rfl | h1
        · rw [hx] at h2; cases h2
        · exact ⟨h1, h2⟩
    · rename_i hx
      rw [List.mem_cons, mem_restG (H := r), List.mem_cons]
      constructor
      · rintro (rfl | ⟨h1, h2⟩)
        · exact ⟨.inl rfl, by simpa using hx⟩
        · exact ⟨.inr h1, h2⟩
      · rintro ⟨rfl | h1, h2⟩
        · exact .inl rfl
        · exact .inr ⟨h1, h2⟩
theorem rs_nil (gs : List Nat) : restG gs [] = [] := rfl
theorem rs_t (gs : List Nat) (t g : Nat) (k : ABlk) (r : List HEnt) (h : memN gs g = true) : restG gs (⟨t, g, k⟩ :: r) = restG gs r := by simp [restG, h]
theorem rs_f (gs : List Nat) (t g : Nat) (k : ABlk) (r : List HEnt) (h : memN gs g = false) : restG gs (⟨t, g, k⟩ :: r) = ⟨t, g, k⟩ :: restG gs r := by simp [restG, h]

/-- a contract in a small heap, in a greater one -/
theorem LOk.at {P : Program} {f : Nat} {args : List AV} {hp hp' : List HEnt} {nx nx' nx2 : Nat} {v : AV} (h : LOk P f args hp nx v hp' nx') (gs : List Nat) (H : List HEnt) (h1 : ∀ e ∈ hp, e ∈ H ∧ memN gs e.grp = true) (h2 : nx2 ≤ nx) (hn : nx ≤ nx') :
    LOk P f args H nx2 v (hp' ++ restG gs H) nx' := by
  have ha := LOk.frame h (restG gs H) (restG gs H ++ hp) (fun e => List.mem_append) (fun e he e' he' hx => by
    have := (mem_restG.1 he').2
    rw [← hx, (h1 e he).2] at this; cases this) hn
  refine ⟨ha.1, fun G w cargs hG hr => ?_⟩
  have hG2 : HRel G (· ∈ restG gs H ++ hp) (nx ≤ ·) w := hG.sub (fun e he => by
    rcases List.mem_append.1 he with he | he
    · exact (mem_restG.1 he).1
    · exact (h1 e he).1) (fun t ht => Nat.le_trans h2 ht)
  refine (ha.2 G w cargs hG2 hr).mono ?_
  rintro e w' ⟨u, k, n, G', cv, ⟨rfl, rfl, rfl⟩, he, hle, hH, h3⟩
  exact ⟨_, _, _, G', cv, ⟨rfl, rfl, rfl⟩, he, hle, hH.sub (fun e he => by
    rcases List.mem_append.1 he with he | he
    · exact List.mem_append.2 (.inr he)
    · exact List.mem_append.2 (.inl he)) (fun _ h => h), h3⟩

theorem ag_nils : AV.isAgg .nilslice = false := rfl
theorem ag_sl (t esz i n : Nat) : AV.isAgg (.slice t esz i n) = false := rfl
theorem ag_vs (l : List AV) : AV.isAgg (.vs l) = false := rfl
theorem ag_str (s : ByteArray) : AV.isAgg (.str s) = false := rfl
theorem ag_ptr (t esz i j : Nat) : AV.isAgg (.ptr t esz i j) = false := rfl
theorem ag_nilp : AV.isAgg .nilptr = false := rfl
theorem ag_vp (l : List AV) (i j : Nat) : AV.isAgg (.vp l i j) = false := rfl
theorem ag_fun (f : Nat) (a b : List AV) : AV.isAgg (.fn f a b) = false := rfl
end Eng

namespace Eng
open Go Go.RowKit
set_option linter.unusedSimpArgs false
set_option linter.unusedVariables false

/-- A function that lays one block of rows and hands back the slice of them, in whatever heap. -/
theorem LOk.layS {P : Program} {f : Nat} {args : List AV} {H : List HEnt} {nx n' ty n : Nat} {m : Nat} {xs : List AV}
    (h : LOk P f args [] 0 (.slice 0 n 0 m) [⟨0, 0, .rows ty n xs⟩] n') (ha : subs noId args = args) (hx : subs noId xs = xs) :
    LOk P f args H nx (.slice nx n 0 m) (⟨nx, nx, .rows ty n xs⟩ :: H) (nx + 1) := by
  refine ⟨h.1, fun G w cargs hH hr => ?_⟩
  let G0 : Ghost := { ι := fun u => none, ro := G.ro, an := ⟨fun r => r < w.heap.size, G.ro, fun r => w.heap[r]?⟩ }
  have hsn : Subst G G0 noId := ⟨fun _ _ _ _ h => h, fun u u' l' hu => by simp [noId] at hu, fun u esz vals l' hu => by simp [noId] at hu⟩
  have hr0 : VRels G0 args cargs := by
    have := VRels.subst hsn _ hr
    rwa [ha] at this
  have hH0 : HRel G0 (· ∈ []) (0 ≤ ·) w := ⟨hH.ro, fun e he => absurd he (by simp), fun e _ he => absurd he (by simp), fun _ _ => rfl, fun e _ he => absurd he (by simp), fun e he => absurd he (by simp), fun _ hr => hr, fun _ _ => ⟨rfl, rfl⟩⟩
  refine (h.2 G0 w cargs hH0 hr0).mono ?_
  rintro e w' ⟨v0, hp0, nx0, G', cv, ⟨e1, e2, e3⟩, rfl, hle, hH', hcv, hk⟩
  rw [e2] at hH'
  rw [e1] at hcv
  obtain ⟨l, hl1, hb', hro', _⟩ := hH'.ent ⟨0, 0, .rows ty n xs⟩ (by simp)
  simp only at hl1 hb'
  have hlo : ∀ r, r < w.heap.size → G'.ro r = G.ro r ∧ w'.heap[r]? = w.heap[r]? := fun r h1 => by
    have := hH'.lo r (by rw [hle.an]; exact h1)
    rw [hle.an] at this
    exact this
  have hlb : ¬ l.b < w.heap.size := fun x => by
    have h0 := hH'.own _ (List.mem_singleton.2 rfl) l hl1
    rw [hle.an] at h0
    exact h0 x
  have hGlt : ∀ r o, G.ro r = some o → r < w.heap.size := fun r o hr => (Array.getElem?_eq_some_iff.1 (hH.ro r o hr)).1
  let G1 : Ghost := { ι := G.ι, ro := fun r => if r < w.heap.size then G.ro r else if r = l.b then none else w'.heap[r]?, an := G.an }
  let G2 : Ghost := G1.put nx l
  have hn : G1.ι nx = none := hH.fresh nx (Nat.le_refl nx)
  have hle1 : G.le G1 := ⟨⟨fun _ _ h => h, fun r o hr => by simp only [G1, hGlt r o hr, if_true]; exact hr⟩, rfl⟩
  have hle2 : G.le G2 := hle1.trans (Ghost.le_put hn)
  have hs2 : Subst G' G2 noId := ⟨fun r cur e fr hr => by
      simp only [G2, Ghost.put, G1]
      split
      · rename_i hlt'
        rw [← (hlo r hlt').1]; exact hr
      · split
        · rename_i e; rw [e, hro'] at hr; cases hr
        · exact hH'.ro _ _ hr, fun u u' l' hu => by simp [noId] at hu, fun u esz vals l' hu => by simp [noId] at hu⟩
  have hb2 : BRel G2 l w' (.rows ty n xs) := by
    have := BRel.subst hs2 hb'
    simpa only [ABlk.sub, hx] using this
  have hput : ∀ e ∈ H, e.id ≠ nx := fun e he hx => by
    obtain ⟨l3, h3, _⟩ := hH.ent e he
    rw [hx] at h3
    exact absurd h3 (by have := hH.fresh nx (Nat.le_refl nx); rw [this]; simp)
  have hιe : ∀ e ∈ H, G2.ι e.id = G.ι e.id := fun e he => by simp [G2, G1, Ghost.put, hput e he]
  have hnew : G2.ι nx = some l := by simp [G2, Ghost.put]
  have hv2 : VRel G2 (.slice nx n 0 m) cv := by
    simp only [VRel] at hcv ⊢
    obtain ⟨l5, cap, h5, h6⟩ := hcv
    rw [hl1] at h5; cases h5
    exact ⟨l, cap, hnew, h6⟩
  refine ⟨_, _, _, G2, cv, ⟨rfl, rfl, rfl⟩, rfl, hle2, ?_, hv2, hk⟩
  have h1 := hH.world (w' := w') (fun r hr => (hlo r hr).2) hk.size
  have hgrp : ∀ e ∈ H, e.grp < nx := fun e he => by
    obtain ⟨_, _, _, _, h6⟩ := hH.ent e he
    exact Nat.lt_of_not_le h6
  refine ⟨fun r o hr => ?_, fun e he => ?_, fun e e' he he' hne l1 l2 h3 h4 => ?_, fun u hu => ?_, fun e e' he he' hid => ?_, fun e he l1 h3 => ?_, h1.sz, fun r hr => ?_⟩
  · simp only [G2, G1, Ghost.put] at hr
    split at hr
    · exact h1.ro r o hr
    · split at hr
      · cases hr
      · exact hr
  · rcases List.mem_cons.1 he with rfl | he
    · refine ⟨l, hnew, hb2, ?_, by simp⟩
      simp [G2, G1, Ghost.put, hlb]
    · obtain ⟨l3, h3, h4, h5, h6⟩ := h1.ent e he
      obtain ⟨l4, h7, h8, _⟩ := hH.ent e he
      rw [h3] at h7; cases h7
      refine ⟨l3, by rw [hιe e he]; exact h3, h4.mono hle2, ?_, fun x => h6 (Nat.le_of_succ_le x)⟩
      simp only [G2, G1, Ghost.put, h8.lt, if_true]; exact h5
  · have old : ∀ e ∈ H, ∀ l1, G2.ι e.id = some l1 → l1.b < w.heap.size := fun e he l1 hl => by
      rw [hιe e he] at hl
      obtain ⟨l4, h7, h8, _⟩ := hH.ent e he
      rw [hl] at h7; cases h7
      exact h8.lt
    rcases List.mem_cons.1 he with rfl | he <;> rcases List.mem_cons.1 he' with rfl | he'
    · exact absurd rfl hne
    · rw [hnew] at h3; cases h3
      exact fun x => hlb (x ▸ old e' he' l2 h4)
    · rw [hnew] at h4; cases h4
      exact fun x => hlb (x ▸ old e he l1 h3)
    · rw [hιe e he] at h3; rw [hιe e' he'] at h4
      exact hH.sep e e' he he' hne l1 l2 h3 h4
  · have : u ≠ nx := by omega
    simp only [G2, Ghost.put, this, if_false]
    exact hH.fresh u (by omega)
  · rcases List.mem_cons.1 he with rfl | he <;> rcases List.mem_cons.1 he' with rfl | he'
    · rfl
    · exact absurd hid.symm (hput e' he')
    · exact absurd hid (hput e he)
    · exact hH.uniq e e' he he' hid
  · rcases List.mem_cons.1 he with rfl | he
    · rw [hnew] at h3; cases h3
      exact fun x => hlb (hH.sz _ x)
    · rw [hιe e he] at h3; exact hH.own e he l1 h3
  · have hr' := hH.sz r hr
    refine ⟨?_, (h1.lo r hr).2⟩
    simp only [G2, G1, Ghost.put, hr', if_true]; exact (h1.lo r hr).1


/-- a function that lays one block of rows -/
def layHs (ty n : Nat) (c : List AV → Option (List AV)) : List AV → List HEnt → Nat → Option (AV × List HEnt × Nat) := fun args H nx => match c args with
  | some xs => some (.slice nx n 0 xs.length, ⟨nx, nx, .rows ty n xs⟩ :: H, nx + 1)
  | none => none
def LayS (P : Program) (f ty n : Nat) (c : List AV → Option (List AV)) : Prop :=
  ∀ args xs, c args = some xs → (∃ n', LOk P f args [] 0 (.slice 0 n 0 xs.length) [⟨0, 0, .rows ty n xs⟩] n') ∧ subs noId args = args ∧ subs noId xs = xs
theorem LayS.hn {P : Program} {f ty n : Nat} {c : List AV → Option (List AV)} (h : LayS P f ty n c) : Hn P f (layHs ty n c) := fun args H nx v hp' nx' hc => by
  unfold layHs at hc
  split at hc
  · rename_i x hx
    simp only [Option.some.injEq, Prod.mk.injEq] at hc
    obtain ⟨rfl, rfl, rfl⟩ := hc
    obtain ⟨⟨m, h1⟩, h2, h3⟩ := h _ _ hx
    exact LOk.layS h1 h2 h3
  · cases hc
theorem yS_h {c : List AV → Option (List AV)} {args : List AV} {xs : List AV} (h : c args = some xs) (ty n : Nat) (H : List HEnt) (nx : Nat) : layHs ty n c args H nx = some (.slice nx n 0 xs.length, ⟨nx, nx, .rows ty n xs⟩ :: H, nx + 1) := by
  unfold layHs; rw [h]
/-- entries of the heap are forgotten -/
theorem Wkn.sub {b : Nat} {tm : List AV} {hp hp2 : List HEnt} {nx : Nat} (h : ∀ e ∈ hp2, e ∈ hp) : Wkn b ⟨tm, hp, nx⟩ ⟨tm, hp2, nx⟩ := fun E hE G a w hs => ⟨G, hs.tm, hs.hp.sub h (fun _ h => h), hs.df, hs.le, hs.kp⟩
theorem callR_int {vals : List AV} {k : IntKind} {n : Int} : callR vals (some (.int k n)) = some (.int k n) := by simp [callR, AV.flatV, AV.leaf]
theorem callR_bool {vals : List AV} {p : Bool} : callR vals (some (.bool p)) = some (.bool p) := by simp [callR, AV.flatV, AV.leaf]
theorem callR_t2 {vals : List AV} {a b : Int} : callR vals (some (.tup [.int .i64 a, .int .i64 b])) = some (.tup [.int .i64 a, .int .i64 b]) := callR_flat _ _ rfl
/-! lists out of values -/
def onL {α : Type} (dec : AV → Option α) (vals : List AV) (g : List α → Option AV) : Option AV := match decL dec vals with
  | some l => g l
  | none => none
theorem onL_map {α : Type} {dec : AV → Option α} {enc : α → AV} (h : ∀ x, dec (enc x) = some x) (l : List α) (g : List α → Option AV) : onL dec (l.map enc) g = g l := by
  simp only [onL, decL_map dec enc h]
theorem onL_inv {α : Type} {dec : AV → Option α} {enc : α → AV} (h : ∀ v x, dec v = some x → v = enc x) {vals : List AV} {g : List α → Option AV} {v : AV} (hv : onL dec vals g = some v) : ∃ l, vals = l.map enc ∧ g l = some v := by
  unfold onL at hv
  split at hv
  · rename_i l hl; exact ⟨l, decL_inv dec enc h hl, hv⟩
  · cases hv
/-! loops along a list -/
theorem lt_t {n m : Nat} (h : n < m) : decide ((n : Int) < (m : Int)) = true := by simp; omega
theorem lt_f {n m : Nat} (h : m ≤ n) : decide ((n : Int) < (m : Int)) = false := by simp; omega
theorem get_e {α : Type} (e : α → AV) (l : List α) {n : Nat} (h : n < l.length) : (l.map e)[n]? = some (e l[n]) := by simp [h]
theorem suc_w {n : Nat} (h : n ≤ 9223372036854775806) : IntKind.wrap .i64 ((n : Int) + 1) = ((n + 1 : Nat) : Int) := by rw [wrap64 (by omega) (by omega)]; rfl
theorem mxN {k m : Nat} (h : k ≤ m) (hm : m ≤ 1099511627776) : (k ≤ maxLen) = True := by
  simp only [eq_iff_iff, iff_true]
  exact Nat.le_trans h (Nat.le_trans hm (by decide))
theorem compC_seq {P : Program} {c : Code} {x z : AC} (h : compC P c = some (.seq x z)) : ∃ c1 c2, c = .seq c1 c2 ∧ compC P c1 = some x ∧ compC P c2 = some z := by
  cases c with
  | seq d e =>
    simp only [compC, Option.bind_eq_some_iff, Option.map_eq_some_iff] at h
    obtain ⟨x1, h1, y1, h2, h3⟩ := h
    cases h3
    exact ⟨d, e, rfl, h1, h2⟩
  | region id ops dr =>
    simp only [compC] at h
    split at h
    · cases h
    · split at h
      · split at h <;> cases h
      · cases h
  | cond c d e =>
    simp only [compC, Option.bind_eq_some_iff, Option.map_eq_some_iff] at h
    obtain ⟨_, _, _, _, _, _, h⟩ := h
    cases h
  | rangeFunc g ps d e =>
    simp only [compC, Option.bind_eq_some_iff, Option.map_eq_some_iff] at h
    obtain ⟨_, _, _, _, _, _, h⟩ := h
    cases h
  | _ => simp [compC] at h
/-- a part first, then the rest: between them the state may be weakened (Cor.wk) -/
theorem Cor.seq {P : Program} {y : Ghost → Prop} {b : Nat} {x z : AC} {K : Post} {s : AState} (h : Cor P y b x (eThen (Cor P y b z K) K) s) : Cor P y b (.seq x z) K s := fun c hc => by
  obtain ⟨c1, c2, rfl, h1, h2⟩ := compC_seq hc
  refine Awp.seq ((h c1 h1).mono fun e s' hk => ?_)
  cases e with
  | normal => exact hk c2 h2
  | _ => exact hk
end Eng

namespace Eng
open Go

abbrev TyOf {p : Prop} (_ : p) : Prop := p
theorem ruB : TyOf (And.intro (And.intro (And.intro (And.intro (And.intro (And.intro (And.intro (And.intro @g_u (And.intro @rd_ps @rl_nil)) (And.intro @rl_cons (And.intro @rlK_some @chkD_some))) (And.intro (And.intro @al_nil (And.intro @al_cons @gF_0)) (And.intro @gF_s (And.intro @id_nn @id_sn)))) (And.intro (And.intro (And.intro @id_ns (And.intro @id_ss @f_p)) (And.intro @f_fbs (And.intro @f_load @f_call))) (And.intro (And.intro @f_callv (And.intro @t_callv @f_alloc)) (And.intro @f_boxF (And.intro @f_bsl @f_store))))) (And.intro (And.intro (And.intro (And.intro @f_app (And.intro @wS_set @wA_no)) (And.intro @wA_new (And.intro @wA_ext @gi_nil))) (And.intro (And.intro @gi_cons (And.intro @cG_some @cG_none)) (And.intro @tl_nil (And.intro @tl_ptr @tl_slice)))) (And.intro (And.intro (And.intro @tl_int (And.intro @tl_bool @tl_str)) (And.intro @tl_agg (And.intro @tl_tup @tl_vs))) (And.intro (And.intro @tl_vp (And.intro @tl_fn @tl_nils)) (And.intro (And.intro @d_and @d_or) (And.intro @d_not @d_nn)))))) (And.intro (And.intro (And.intro (And.intro (And.intro @pk_and (And.intro @pk_or @pk_orn)) (And.intro @Decidable.not_not (And.intro @rd_w @wr_w))) (And.intro (And.intro @ro_one (And.intro @fl_nil @fl_cons)) (And.intro @wrapL (And.intro @Rd_s @Int.toNat_natCast)))) (And.intro (And.intro (And.intro @Int.natCast_nonneg (And.intro @W_skip @W_ops)) (And.intro @W_opsD (And.intro @W_seq @W_cond))) (And.intro (And.intro @W_block (And.intro @W_exit @W_ret)) (And.intro (And.intro @W_bad @W_loop) (And.intro @W_rf @RN_some))))) (And.intro (And.intro (And.intro (And.intro @R_nil (And.intro @R_nth @R_nbl)) (And.intro @R_npr (And.intro @R_rth @R_rbl))) (And.intro (And.intro @R_rpr (And.intro @R_eth @R_epr)) (And.intro @R_ebl (And.intro @R_ebn @CV_t)))) (And.intro (And.intro (And.intro @CV_f (And.intro @CV_d @r_nil)) (And.intro @r_cons (And.intro @rd_nil @s_p))) (And.intro (And.intro @s_load1 (And.intro @s_call1 @s_callv1)) (And.intro (And.intro @s_fbs1 @s_alloc1) (And.intro @s_boxF1 @s_boxT1))))))) (And.intro (And.intro (And.intro (And.intro (And.intro (And.intro @s_bsl1 (And.intro @s_store1 @s_app1)) (And.intro @boxF_sc (And.intro @boxT_1 @boxT_1n))) (And.intro (And.intro @valOp_callv (And.intro @fbs_ok @bsl_ok)) (And.intro @putT_s (And.intro @putT_n @putS_set)))) (And.intro (And.intro (And.intro @putA_eq (And.intro @ap_no @ap_new)) (And.intro @ap_set (And.intro @ap_ext @q_p))) (And.intro (And.intro @q_load (And.intro @q_call @q_callv)) (And.intro @q_fbs (And.intro @gP_eq @gL_eq))))) (And.intro (And.intro (And.intro (And.intro @gC_eq (And.intro @gV_eq @gF_eq)) (And.intro @gE_t (And.intro @gE_f @gE_nt))) (And.intro (And.intro @gE_nf (And.intro @g_t @g_f)) (And.intro @gbool_opt (And.intro @gif_true @gif_false)))) (And.intro (And.intro (And.intro @gif_some (And.intro @obind_some @e_mov)) (And.intro @e_pick (And.intro @e_add @e_sub))) (And.intro (And.intro @e_mul (And.intro @e_quo @e_rem)) (And.intro (And.intro @e_eql @e_neq) (And.intro @e_lss @e_leq)))))) (And.intro (And.intro (And.intro (And.intro (And.intro @e_gtr (And.intro @e_geq @e_eqB)) (And.intro @e_neB (And.intro @e_eqN @e_neN))) (And.intro (And.intro @e_eqa (And.intro @e_nea @e_neg)) (And.intro @e_not (And.intro @e_conv @e_build)))) (And.intro (And.intro (And.intro @e_mkfn (And.intro @e_faddr @e_faddrV)) (And.intro @e_field (And.intro @e_iaddrS @e_iaddrA))) (And.intro (And.intro @e_idxA (And.intro @e_ext @e_lenT)) (And.intro (And.intro @e_lenS @e_lenV) (And.intro @e_lenN @e_lenC))))) (And.intro (And.intro (And.intro (And.intro @e_min (And.intro @e_max @e_min3)) (And.intro @e_max3 (And.intro @e_slc @bd_0))) (And.intro (And.intro @bd_l (And.intro @bd_h @bd_lh)) (And.intro @bd_hm (And.intro @sv_0 @sv_0x)))) (And.intro (And.intro (And.intro @sv_n (And.intro @app_vx @p_vx)) (And.intro @pR_vx (And.intro @n_vx @sl_vx))) (And.intro (And.intro @cells_vx (And.intro @sc_vx @tl_vx)) (And.intro (And.intro @e_nilP @e_nilV) (And.intro @e_nilF @e_nilY)))))))) (And.intro (And.intro (And.intro (And.intro (And.intro (And.intro (And.intro @ia_slice (And.intro @ia_vs @ia_arr)) (And.intro @ia_arrV (And.intro @sg_t @sg_f))) (And.intro (And.intro @eq_nil (And.intro @eq_i @eq_b)) (And.intro @eq_s (And.intro @bf_nil @bf_cons)))) (And.intro (And.intro (And.intro @cells_int (And.intro @cells_bool @cells_str)) (And.intro @cells_agg (And.intro @cells_slice @cells_vs))) (And.intro (And.intro @cells_nil (And.intro @cells_ptr @cells_fn)) (And.intro @sc_int (And.intro @sc_bool @sc_str))))) (And.intro (And.intro (And.intro (And.intro @sc_agg (And.intro @sc_slice @sc_vs)) (And.intro @sc_nil (And.intro @sc_ptr @sc_fn))) (And.intro (And.intro @ag_agg (And.intro @ag_int @ag_bool)) (And.intro @gt_0 (And.intro @gt_s @st_0)))) (And.intro (And.intro (And.intro @st_s (And.intro @ev_t @ev_c)) (And.intro @evs_nil (And.intro @evs_cons @ge_eq))) (And.intro (And.intro @ge_ne (And.intro @ge_nil @sb_nil)) (And.intro (And.intro @sb_eq @sb_ne) (And.intro @sb_gone @dg_nil)))))) (And.intro (And.intro (And.intro (And.intro (And.intro @dg_eq (And.intro @dg_ne @dg_gone)) (And.intro @ld_ptr (And.intro @ld_vp @ldE_some))) (And.intro (And.intro @rd_f (And.intro @rdC_some @rd_t)) (And.intro @rdA_all (And.intro @rdA_part @rdV_eq)))) (And.intro (And.intro (And.intro @rdW_f (And.intro @rdW_all @rdW_part)) (And.intro @sto_ptr (And.intro @stE_some @wr_f))) (And.intro (And.intro @wr_t (And.intro @wrA_all @wrA_part)) (And.intro (And.intro @wrC_agg @wrC_0) (And.intro @callV_eq @callK_some))))) (And.intro (And.intro (And.intro (And.intro @callR_pure (And.intro @callR_flat @pu_nil)) (And.intro @pu_cons (And.intro @consO_some @p_int))) (And.intro (And.intro @p_bool (And.intro @p_str @p_agg)) (And.intro @p_vs (And.intro @p_fn @p_nil)))) (And.intro (And.intro (And.intro @p_ptr (And.intro @p_vp @p_slice)) (And.intro @purE_some (And.intro @pR_tup @pR_int))) (And.intro (And.intro @pR_bool (And.intro @pR_agg @pR_vs)) (And.intro (And.intro @pR_nil @pR_str) (And.intro @pR_slice @pR_fn))))))) (And.intro (And.intro (And.intro (And.intro (And.intro (And.intro @sl_int (And.intro @sl_bool @sl_str)) (And.intro @sl_agg (And.intro @sl_vs @sl_fn))) (And.intro (And.intro @sl_nil (And.intro @sl_ptr @sl_vp)) (And.intro @sl_slice (And.intro @n_int @n_bool)))) (And.intro (And.intro (And.intro @n_str (And.intro @n_agg @n_vs)) (And.intro @n_tup (And.intro @n_nil @n_cons))) (And.intro (And.intro @n_nils (And.intro @app_nil @app_sl)) (And.intro @appE_some (And.intro @src_vs @src_nil))))) (And.intro (And.intro (And.intro (And.intro @src_sl (And.intro @srcE_some @pickV_ct)) (And.intro @pickV_cf (And.intro @optv_true @optv_false))) (And.intro (And.intro @res_eq (And.intro @rvs_nil @rvs_cons)) (And.intro @rv_t (And.intro @rv_c @ro_1)))) (And.intro (And.intro (And.intro @ro_0 (And.intro @ro_2 @addC_eq)) (And.intro @addC_ne (And.intro @decI_I @decL_nil))) (And.intro (And.intro @decL_cons (And.intro @consL_some @kF_nil)) (And.intro (And.intro @kF_t @kF_f) (And.intro @kT_nil @kT_t)))))) (And.intro (And.intro (And.intro (And.intro (And.intro @kT_f (And.intro @mN_nil @mN_eq)) (And.intro @mN_ne (And.intro @Option.map_some.{0, 0} @Option.bind_some.{0, 0}))) (And.intro (And.intro @Option.some.injEq.{0} (And.intro @and_self @and_true)) (And.intro @true_and (And.intro @false_and @and_false)))) (And.intro (And.intro (And.intro @or_true (And.intro @true_or @Bool.false_eq_true)) (And.intro @List.length_cons.{0} (And.intro @List.length_nil.{0} @List.length_append.{0}))) (And.intro (And.intro @List.cons_append.{0} (And.intro @List.nil_append.{0} @List.append_nil.{0})) (And.intro (And.intro @Nat.zero_add @Nat.add_zero) (And.intro @List.getElem?_cons_zero.{0} @List.getElem?_cons_succ.{0}))))) (And.intro (And.intro (And.intro (And.intro @List.set_cons_zero.{0} (And.intro @List.set_cons_succ.{0} @List.take_succ_cons.{0})) (And.intro @List.take_zero.{0} (And.intro @List.take_nil.{0} @List.drop_succ_cons.{0}))) (And.intro (And.intro @List.drop_zero.{0} (And.intro @List.drop_nil.{0} @List.all_cons.{0})) (And.intro @List.all_nil.{0} (And.intro @List.any_cons.{0} @List.any_nil.{0})))) (And.intro (And.intro (And.intro @decide_true (And.intro @decide_false @Bool.and_true)) (And.intro @Bool.true_and (And.intro @Bool.and_false @Bool.false_and))) (And.intro (And.intro @Bool.or_false (And.intro @Bool.false_or @Bool.or_true)) (And.intro (And.intro @Bool.or_self @Bool.and_self) (And.intro @Bool.not_true @Bool.not_false))))))))) := (And.intro (And.intro (And.intro (And.intro (And.intro (And.intro (And.intro (And.intro @g_u (And.intro @rd_ps @rl_nil)) (And.intro @rl_cons (And.intro @rlK_some @chkD_some))) (And.intro (And.intro @al_nil (And.intro @al_cons @gF_0)) (And.intro @gF_s (And.intro @id_nn @id_sn)))) (And.intro (And.intro (And.intro @id_ns (And.intro @id_ss @f_p)) (And.intro @f_fbs (And.intro @f_load @f_call))) (And.intro (And.intro @f_callv (And.intro @t_callv @f_alloc)) (And.intro @f_boxF (And.intro @f_bsl @f_store))))) (And.intro (And.intro (And.intro (And.intro @f_app (And.intro @wS_set @wA_no)) (And.intro @wA_new (And.intro @wA_ext @gi_nil))) (And.intro (And.intro @gi_cons (And.intro @cG_some @cG_none)) (And.intro @tl_nil (And.intro @tl_ptr @tl_slice)))) (And.intro (And.intro (And.intro @tl_int (And.intro @tl_bool @tl_str)) (And.intro @tl_agg (And.intro @tl_tup @tl_vs))) (And.intro (And.intro @tl_vp (And.intro @tl_fn @tl_nils)) (And.intro (And.intro @d_and @d_or) (And.intro @d_not @d_nn)))))) (And.intro (And.intro (And.intro (And.intro (And.intro @pk_and (And.intro @pk_or @pk_orn)) (And.intro @Decidable.not_not (And.intro @rd_w @wr_w))) (And.intro (And.intro @ro_one (And.intro @fl_nil @fl_cons)) (And.intro @wrapL (And.intro @Rd_s @Int.toNat_natCast)))) (And.intro (And.intro (And.intro @Int.natCast_nonneg (And.intro @W_skip @W_ops)) (And.intro @W_opsD (And.intro @W_seq @W_cond))) (And.intro (And.intro @W_block (And.intro @W_exit @W_ret)) (And.intro (And.intro @W_bad @W_loop) (And.intro @W_rf @RN_some))))) (And.intro (And.intro (And.intro (And.intro @R_nil (And.intro @R_nth @R_nbl)) (And.intro @R_npr (And.intro @R_rth @R_rbl))) (And.intro (And.intro @R_rpr (And.intro @R_eth @R_epr)) (And.intro @R_ebl (And.intro @R_ebn @CV_t)))) (And.intro (And.intro (And.intro @CV_f (And.intro @CV_d @r_nil)) (And.intro @r_cons (And.intro @rd_nil @s_p))) (And.intro (And.intro @s_load1 (And.intro @s_call1 @s_callv1)) (And.intro (And.intro @s_fbs1 @s_alloc1) (And.intro @s_boxF1 @s_boxT1))))))) (And.intro (And.intro (And.intro (And.intro (And.intro (And.intro @s_bsl1 (And.intro @s_store1 @s_app1)) (And.intro @boxF_sc (And.intro @boxT_1 @boxT_1n))) (And.intro (And.intro @valOp_callv (And.intro @fbs_ok @bsl_ok)) (And.intro @putT_s (And.intro @putT_n @putS_set)))) (And.intro (And.intro (And.intro @putA_eq (And.intro @ap_no @ap_new)) (And.intro @ap_set (And.intro @ap_ext @q_p))) (And.intro (And.intro @q_load (And.intro @q_call @q_callv)) (And.intro @q_fbs (And.intro @gP_eq @gL_eq))))) (And.intro (And.intro (And.intro (And.intro @gC_eq (And.intro @gV_eq @gF_eq)) (And.intro @gE_t (And.intro @gE_f @gE_nt))) (And.intro (And.intro @gE_nf (And.intro @g_t @g_f)) (And.intro @gbool_opt (And.intro @gif_true @gif_false)))) (And.intro (And.intro (And.intro @gif_some (And.intro @obind_some @e_mov)) (And.intro @e_pick (And.intro @e_add @e_sub))) (And.intro (And.intro @e_mul (And.intro @e_quo @e_rem)) (And.intro (And.intro @e_eql @e_neq) (And.intro @e_lss @e_leq)))))) (And.intro (And.intro (And.intro (And.intro (And.intro @e_gtr (And.intro @e_geq @e_eqB)) (And.intro @e_neB (And.intro @e_eqN @e_neN))) (And.intro (And.intro @e_eqa (And.intro @e_nea @e_neg)) (And.intro @e_not (And.intro @e_conv @e_build)))) (And.intro (And.intro (And.intro @e_mkfn (And.intro @e_faddr @e_faddrV)) (And.intro @e_field (And.intro @e_iaddrS @e_iaddrA))) (And.intro (And.intro @e_idxA (And.intro @e_ext @e_lenT)) (And.intro (And.intro @e_lenS @e_lenV) (And.intro @e_lenN @e_lenC))))) (And.intro (And.intro (And.intro (And.intro @e_min (And.intro @e_max @e_min3)) (And.intro @e_max3 (And.intro @e_slc @bd_0))) (And.intro (And.intro @bd_l (And.intro @bd_h @bd_lh)) (And.intro @bd_hm (And.intro @sv_0 @sv_0x)))) (And.intro (And.intro (And.intro @sv_n (And.intro @app_vx @p_vx)) (And.intro @pR_vx (And.intro @n_vx @sl_vx))) (And.intro (And.intro @cells_vx (And.intro @sc_vx @tl_vx)) (And.intro (And.intro @e_nilP @e_nilV) (And.intro @e_nilF @e_nilY)))))))) (And.intro (And.intro (And.intro (And.intro (And.intro (And.intro (And.intro @ia_slice (And.intro @ia_vs @ia_arr)) (And.intro @ia_arrV (And.intro @sg_t @sg_f))) (And.intro (And.intro @eq_nil (And.intro @eq_i @eq_b)) (And.intro @eq_s (And.intro @bf_nil @bf_cons)))) (And.intro (And.intro (And.intro @cells_int (And.intro @cells_bool @cells_str)) (And.intro @cells_agg (And.intro @cells_slice @cells_vs))) (And.intro (And.intro @cells_nil (And.intro @cells_ptr @cells_fn)) (And.intro @sc_int (And.intro @sc_bool @sc_str))))) (And.intro (And.intro (And.intro (And.intro @sc_agg (And.intro @sc_slice @sc_vs)) (And.intro @sc_nil (And.intro @sc_ptr @sc_fn))) (And.intro (And.intro @ag_agg (And.intro @ag_int @ag_bool)) (And.intro @gt_0 (And.intro @gt_s @st_0)))) (And.intro (And.intro (And.intro @st_s (And.intro @ev_t @ev_c)) (And.intro @evs_nil (And.intro @evs_cons @ge_eq))) (And.intro (And.intro @ge_ne (And.intro @ge_nil @sb_nil)) (And.intro (And.intro @sb_eq @sb_ne) (And.intro @sb_gone @dg_nil)))))) (And.intro (And.intro (And.intro (And.intro (And.intro @dg_eq (And.intro @dg_ne @dg_gone)) (And.intro @ld_ptr (And.intro @ld_vp @ldE_some))) (And.intro (And.intro @rd_f (And.intro @rdC_some @rd_t)) (And.intro @rdA_all (And.intro @rdA_part @rdV_eq)))) (And.intro (And.intro (And.intro @rdW_f (And.intro @rdW_all @rdW_part)) (And.intro @sto_ptr (And.intro @stE_some @wr_f))) (And.intro (And.intro @wr_t (And.intro @wrA_all @wrA_part)) (And.intro (And.intro @wrC_agg @wrC_0) (And.intro @callV_eq @callK_some))))) (And.intro (And.intro (And.intro (And.intro @callR_pure (And.intro @callR_flat @pu_nil)) (And.intro @pu_cons (And.intro @consO_some @p_int))) (And.intro (And.intro @p_bool (And.intro @p_str @p_agg)) (And.intro @p_vs (And.intro @p_fn @p_nil)))) (And.intro (And.intro (And.intro @p_ptr (And.intro @p_vp @p_slice)) (And.intro @purE_some (And.intro @pR_tup @pR_int))) (And.intro (And.intro @pR_bool (And.intro @pR_agg @pR_vs)) (And.intro (And.intro @pR_nil @pR_str) (And.intro @pR_slice @pR_fn))))))) (And.intro (And.intro (And.intro (And.intro (And.intro (And.intro @sl_int (And.intro @sl_bool @sl_str)) (And.intro @sl_agg (And.intro @sl_vs @sl_fn))) (And.intro (And.intro @sl_nil (And.intro @sl_ptr @sl_vp)) (And.intro @sl_slice (And.intro @n_int @n_bool)))) (And.intro (And.intro (And.intro @n_str (And.intro @n_agg @n_vs)) (And.intro @n_tup (And.intro @n_nil @n_cons))) (And.intro (And.intro @n_nils (And.intro @app_nil @app_sl)) (And.intro @appE_some (And.intro @src_vs @src_nil))))) (And.intro (And.intro (And.intro (And.intro @src_sl (And.intro @srcE_some @pickV_ct)) (And.intro @pickV_cf (And.intro @optv_true @optv_false))) (And.intro (And.intro @res_eq (And.intro @rvs_nil @rvs_cons)) (And.intro @rv_t (And.intro @rv_c @ro_1)))) (And.intro (And.intro (And.intro @ro_0 (And.intro @ro_2 @addC_eq)) (And.intro @addC_ne (And.intro @decI_I @decL_nil))) (And.intro (And.intro @decL_cons (And.intro @consL_some @kF_nil)) (And.intro (And.intro @kF_t @kF_f) (And.intro @kT_nil @kT_t)))))) (And.intro (And.intro (And.intro (And.intro (And.intro @kT_f (And.intro @mN_nil @mN_eq)) (And.intro @mN_ne (And.intro @Option.map_some.{0, 0} @Option.bind_some.{0, 0}))) (And.intro (And.intro @Option.some.injEq.{0} (And.intro @and_self @and_true)) (And.intro @true_and (And.intro @false_and @and_false)))) (And.intro (And.intro (And.intro @or_true (And.intro @true_or @Bool.false_eq_true)) (And.intro @List.length_cons.{0} (And.intro @List.length_nil.{0} @List.length_append.{0}))) (And.intro (And.intro @List.cons_append.{0} (And.intro @List.nil_append.{0} @List.append_nil.{0})) (And.intro (And.intro @Nat.zero_add @Nat.add_zero) (And.intro @List.getElem?_cons_zero.{0} @List.getElem?_cons_succ.{0}))))) (And.intro (And.intro (And.intro (And.intro @List.set_cons_zero.{0} (And.intro @List.set_cons_succ.{0} @List.take_succ_cons.{0})) (And.intro @List.take_zero.{0} (And.intro @List.take_nil.{0} @List.drop_succ_cons.{0}))) (And.intro (And.intro @List.drop_zero.{0} (And.intro @List.drop_nil.{0} @List.all_cons.{0})) (And.intro @List.all_nil.{0} (And.intro @List.any_cons.{0} @List.any_nil.{0})))) (And.intro (And.intro (And.intro @decide_true (And.intro @decide_false @Bool.and_true)) (And.intro @Bool.true_and (And.intro @Bool.and_false @Bool.false_and))) (And.intro (And.intro @Bool.or_false (And.intro @Bool.false_or @Bool.or_true)) (And.intro (And.intro @Bool.or_self @Bool.and_self) (And.intro @Bool.not_true @Bool.not_false)))))))))
theorem ruH : TyOf (And.intro (And.intro (And.intro (And.intro (And.intro @o_h @o_e) (And.intro @o_k @z_nil)) (And.intro (And.intro @z_cons @z_ptr) (And.intro @z_int (And.intro @z_bool @z_agg)))) (And.intro (And.intro (And.intro @sp_cons @sp_nil) (And.intro @goB_eq @jk_n)) (And.intro (And.intro @jk_r @jk_e) (And.intro @fi_nx (And.intro @noHx_eq @addH_eq))))) (And.intro (And.intro (And.intro (And.intro @addH_ne @h_p) (And.intro @h_load @h_fbs)) (And.intro (And.intro @h_alloc @h_box) (And.intro @h_bsl (And.intro @h_store @h_app)))) (And.intro (And.intro (And.intro @h_call @h_callg) (And.intro @h_callv (And.intro @callT_fn @callT_y))) (And.intro (And.intro @or_none @or_some) (And.intro @rh_nil (And.intro @rh_cons @h_callvg)))))) := (And.intro (And.intro (And.intro (And.intro (And.intro @o_h @o_e) (And.intro @o_k @z_nil)) (And.intro (And.intro @z_cons @z_ptr) (And.intro @z_int (And.intro @z_bool @z_agg)))) (And.intro (And.intro (And.intro @sp_cons @sp_nil) (And.intro @goB_eq @jk_n)) (And.intro (And.intro @jk_r @jk_e) (And.intro @fi_nx (And.intro @noHx_eq @addH_eq))))) (And.intro (And.intro (And.intro (And.intro @addH_ne @h_p) (And.intro @h_load @h_fbs)) (And.intro (And.intro @h_alloc @h_box) (And.intro @h_bsl (And.intro @h_store @h_app)))) (And.intro (And.intro (And.intro @h_call @h_callg) (And.intro @h_callv (And.intro @callT_fn @callT_y))) (And.intro (And.intro @or_none @or_some) (And.intro @rh_nil (And.intro @rh_cons @h_callvg))))))
end Eng
