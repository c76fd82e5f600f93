/-
  THE ENGINE, PART R: a region whose order is drawn: what one operation does, whenever its turn comes.
-/
import Derived.Test.YtjfhhaaogcgkpaaEngQ
namespace Eng
open Go Go.RowKit
set_option linter.unusedSimpArgs false
set_option linter.unusedVariables false

/-- the numbers of blocks that an operation looks at -/
def tidL : List AV → List Nat
  | [] => []
  | .ptr t _ _ _ :: r => t :: tidL r
  | .slice t _ _ _ :: r => t :: tidL r
  | _ :: r => tidL r

def tids : AOp → List AV → List Nat
  | .load .., vals => tidL vals
  | .store .., vals => tidL vals
  | .app .., vals => tidL vals
  | .call _, vals => tidL vals
  | .callv, .fn _ first cap :: vals => tidL (first ++ vals ++ cap)
  | _, _ => []

theorem tidL_ptr {vals : List AV} {t esz i j : Nat} (h : AV.ptr t esz i j ∈ vals) : t ∈ tidL vals := by
  induction vals with
  | nil => simp at h
  | cons v vs ih =>
    rcases List.mem_cons.1 h with rfl | h
    · simp [tidL]
    · have := ih h
      cases v <;> simp [tidL, this]

theorem tidL_slice {vals : List AV} {t esz i n : Nat} (h : AV.slice t esz i n ∈ vals) : t ∈ tidL vals := by
  induction vals with
  | nil => simp at h
  | cons v vs ih =>
    rcases List.mem_cons.1 h with rfl | h
    · simp [tidL]
    · have := ih h
      cases v <;> simp [tidL, this]

theorem pur_congr {lk lk' : Look} {v : AV} (h : ∀ t esz i n, v = .slice t esz i n → lk t = lk' t) : pur lk v = pur lk' v := by
  cases v <;> simp only [pur]
  rw [h _ _ _ _ rfl]

theorem purs_congr {lk lk' : Look} : ∀ {vals : List AV}, (∀ t ∈ tidL vals, lk t = lk' t) → purs lk vals = purs lk' vals
  | [], _ => rfl
  | v :: vs, h => by
    have h1 : pur lk v = pur lk' v := pur_congr fun t esz i n e => h t (by subst e; simp [tidL])
    have h2 : purs lk vs = purs lk' vs := purs_congr fun t ht => h t (by cases v <;> simp [tidL, ht])
    simp only [purs, h1, h2]

theorem valOp_congr {cs : Ctx} {lk lk' : Look} {op : AOp} {vals : List AV} (h : ∀ t ∈ tids op vals, lk t = lk' t) : valOp cs lk op vals = valOp cs lk' op vals := by
  cases op <;> try rfl
  case load size ag =>
    simp only [tids] at h
    match vals, h with
    | [], _ => rfl
    | [x], h =>
      simp only [valOp]
      cases x <;> simp only [loadV]
      rw [h _ (by simp [tidL])]
    | _ :: _ :: _, _ => rfl
  case call f => simp only [valOp, callV, purs_congr h]
  case callv =>
    cases vals with
    | nil => rfl
    | cons g vs =>
      cases g <;> try rfl
      simp only [tids] at h
      simp only [valOp, callV, purs_congr h]

theorem srcV_congr {lk lk' : Look} {esz : Nat} {x : AV} (h : ∀ t e i n, x = .slice t e i n → lk t = lk' t) : srcV lk esz x = srcV lk' esz x := by
  cases x <;> simp only [srcV]
  rw [h _ _ _ _ rfl]

theorem effOp_congr {lk lk' : Look} {id : Nat} {op : AOp} {vals : List AV} (h : ∀ t ∈ tids op vals, lk t = lk' t) : effOp lk id op vals = effOp lk' id op vals := by
  cases op <;> try rfl
  case alloc => cases vals <;> rfl
  case box =>
    match vals with
    | [] => rfl
    | [_] => rfl
    | _ :: _ :: _ => rfl
  case store size ag =>
    simp only [tids] at h
    match vals, h with
    | [], _ => rfl
    | [_], _ => rfl
    | [a, x], h =>
      simp only [effOp]
      cases a <;> simp only [storeV]
      rw [h _ (by simp [tidL])]
    | _ :: _ :: _ :: _, _ => rfl
  case app e esz bytes =>
    simp only [tids] at h
    match vals, h with
    | [], _ => rfl
    | [_], _ => rfl
    | [a, x], h =>
      have hx : srcV lk esz x = srcV lk' esz x := srcV_congr fun t e i n ex => h t (by subst ex; cases a <;> simp [tidL])
      simp only [effOp]
      cases a <;> simp only [appV, hx]
      rw [h _ (by simp [tidL])]
    | _ :: _ :: _ :: _, _ => rfl

/-- what an operation comes to: its value, what it changes, whether it takes a number -/
def outOp (cs : Ctx) (o : AOper) (s : AState) : Option (AV × Eff × Bool) :=
  match o.guard with
  | none => if o.op.isEff then (effOp (getE s.hp) s.next o.op (evs s.tm o.xs)).map fun (v, f) => (v, f, true) else (valOp cs (getE s.hp) o.op (evs s.tm o.xs)).map fun v => (v, .no, false)
  | some (g, want) => (gbool want (getT s.tm g)).bind fun b =>
    if b then
      if o.op.isEff then (effOp (getE s.hp) s.next o.op (evs s.tm o.xs)).map fun (v, f) => (v, f, true) else (valOp cs (getE s.hp) o.op (evs s.tm o.xs)).map fun v => (v, .no, false)
    else some (.tup [], .no, false)

def after (s : AState) (dst : Option Nat) (v : AV) (f : Eff) (c : Bool) : AState := { tm := (s.put dst v).tm, hp := applyE f s.hp, next := if c then s.next + 1 else s.next }

theorem step_out {cs : Ctx} {o : AOper} {s s' : AState} (h : step cs o s = some s') : ∃ v f c, outOp cs o s = some (v, f, c) ∧ s' = after s o.dst v f c := by
  have hR : ∀ {s'}, stepR cs o s = some s' → ∃ v f c, (if o.op.isEff then (effOp (getE s.hp) s.next o.op (evs s.tm o.xs)).map fun (v, f) => (v, f, true) else (valOp cs (getE s.hp) o.op (evs s.tm o.xs)).map fun v => (v, Eff.no, false)) = some (v, f, c) ∧ s' = after s o.dst v f c := by
    intro s' h
    unfold stepR at h
    split at h
    · rename_i heff
      cases he : effOp (getE s.hp) s.next o.op (evs s.tm o.xs) with
      | none => rw [he] at h; cases h
      | some p =>
        rw [he] at h
        simp only [obind, Option.bind_some, putE, Option.some.injEq] at h
        exact ⟨p.1, p.2, true, by rw [if_pos heff]; rfl, by rw [← h]; rfl⟩
    · rename_i heff
      cases he : valOp cs (getE s.hp) o.op (evs s.tm o.xs) with
      | none => rw [he] at h; cases h
      | some v =>
        rw [he] at h
        simp only [obind, Option.bind_some, putV, Option.some.injEq] at h
        refine ⟨v, .no, false, by rw [if_neg heff]; rfl, ?_⟩
        rw [← h]
        cases o.dst <;> rfl
  unfold step at h
  unfold outOp
  split at h
  · rename_i hg; rw [hg]; exact hR h
  · rename_i g want hg
    rw [hg]
    simp only
    cases hb : gbool want (getT s.tm g) with
    | none => rw [hb] at h; cases h
    | some b =>
      rw [hb] at h
      simp only [obind, Option.bind_some] at h ⊢
      cases b with
      | true =>
        simp only [if_true]
        refine hR ?_
        unfold stepG at h
        split at h
        · simpa using h
        · rename_i heff
          rw [gif_true] at h
          unfold stepR
          rw [if_neg heff]
          exact h
      | false =>
        refine ⟨.tup [], .no, false, by simp, ?_⟩
        unfold stepG at h
        split at h
        · simp only [Bool.false_eq_true, if_false, Option.some.injEq] at h
          rw [← h]; cases o.dst <;> rfl
        · rw [gif_false] at h
          simp only [obind, Option.bind_some, putV, Option.some.injEq] at h
          rw [← h]; cases o.dst <;> rfl

section
variable {P : Program} {G : Ghost} {M : HEnt → Prop} {fr : Nat → Prop} {s : AState} {a : Act} {w : World} {o : Oper} {r : Option Nat} {n : Nat} {K : Act → World → Prop} {Q : Exit → Act → World → Prop} {cs : Ctx}

theorem out_sound (hcs : Good P cs) {ops : Array Oper} {ao : AOper} (hc : compO P ops.toList o = some ao) {v : AV} {f : Eff} {c : Bool} (hout : outOp cs ao s = some (v, f, c)) {T : List AV} (hT : VRels G T a.tmps.toList)
    (hev : evs T ao.xs = evs s.tm ao.xs) (hgd : ∀ g want, ao.guard = some (g, want) → getT T g = getT s.tm g) (hH : HRel G M fr w)
    (hrd : ∀ t ∈ tids ao.op (evs s.tm ao.xs), ∀ e, getE s.hp t = some e → M e) (hid : c = true → fr s.next)
    (hK : ∀ (G' : Ghost) (cv : Value) (w' : World), G.le G' → VRel G' v cv → HRel G' (effM f M) (fun t => fr t ∧ (c = true → t ≠ s.next)) w' → Keeps w w' → K (a.put o.dst cv) w') :
    if Region.wanted o (yielded ops a.tmps) then o.wpIn (FW r) n P a w K Q else (∀ f, o.about P w a.eval = some f → (FW r).fn f) ∧ K (a.put o.dst undef) w := by
  unfold compO at hc
  simp only [Option.bind_eq_some_iff, Option.map_eq_some_iff] at hc
  obtain ⟨⟨op, xs⟩, hA, ys, hys, g, hg, rfl⟩ := hc
  have hca := compA_inv hA
  have hv := opds_sound hT hys
  simp only at hev hrd
  rw [hev] at hv
  -- the look-ups that it makes
  let lk' : Look := fun t => if t ∈ tids op (evs s.tm ys) then getE s.hp t else none
  have hlk : ∀ t e, lk' t = some e → M e ∧ e.id = t := fun t e h => by
    simp only [lk'] at h
    split at h
    · rename_i ht; exact ⟨hrd t ht e h, (getE_mem h).2⟩
    · cases h
  have hcg : ∀ t ∈ tids op (evs s.tm ys), getE s.hp t = lk' t := fun t ht => by simp only [lk', if_pos ht]
  have main : (if op.isEff then (effOp (getE s.hp) s.next op (evs s.tm ys)).map fun (v, f) => (v, f, true) else (valOp cs (getE s.hp) op (evs s.tm ys)).map fun v => (v, Eff.no, false)) = some (v, f, c) → o.wpIn (FW r) n P a w K Q := by
    intro h
    split at h
    · simp only [Option.map_eq_some_iff, Prod.mk.injEq] at h
      obtain ⟨⟨v', f'⟩, he, rfl, rfl, rfl⟩ := h
      rw [effOp_congr hcg] at he
      exact eff_sound (hid rfl) hca rfl hH hv hlk he fun G' cv w' hle hcv hH' hk => hK G' cv w' hle hcv (hH'.sub (fun _ h => h) fun t ht => effOp_id he ht.1 (ht.2 rfl)) hk
    · simp only [Option.map_eq_some_iff, Prod.mk.injEq] at h
      obtain ⟨v', he, rfl, rfl, rfl⟩ := h
      rw [valOp_congr hcg] at he
      exact val_sound hcs hca rfl hH hv hlk he fun G' cv w' hle hcv hH' hb => hK G' cv w' hle hcv (hH'.sub (fun _ h => h) fun t ht => ht.1) (.of_below hb)
  unfold outOp at hout
  cases hgo : o.guard with
  | none =>
    simp only [hgo, compG, Option.some.injEq] at hg
    subst hg
    simp only at hout
    rw [if_pos (by simp [Region.wanted, hgo])]
    exact main hout
  | some p =>
    obtain ⟨j, want⟩ := p
    simp only [hgo, compG, Option.map_eq_some_iff] at hg
    obtain ⟨d, hd, rfl⟩ := hg
    simp only at hout hgd
    cases hb : gbool want (getT s.tm d) with
    | none => rw [hb] at hout; cases hout
    | some b =>
      rw [hb] at hout
      simp only [Option.bind_some] at hout
      rw [wanted_some (a := a) hgo hd hT (by rw [hgd d want rfl]; exact hb)]
      cases b with
      | true => simp only [if_true] at hout ⊢; exact main hout
      | false =>
        simp only [Bool.false_eq_true, if_false, Option.some.injEq, Prod.mk.injEq] at hout ⊢
        obtain ⟨rfl, rfl, rfl⟩ := hout
        exact ⟨fun _ _ => trivial, hK G undef w .rfl (by simp only [VRel, VRels]; exact ⟨[], rfl, rfl⟩) (hH.sub (fun _ h => h) fun t ht => ht.1) .rfl⟩

end
end Eng
