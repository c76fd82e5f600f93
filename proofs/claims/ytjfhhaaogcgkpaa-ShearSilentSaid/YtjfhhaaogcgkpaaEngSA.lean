/-
  THE ENGINE, PART SA: functions that lay one block of rows, in whatever heap.
-/
import Derived.Test.YtjfhhaaogcgkpaaEngS7
namespace Eng
open Go Go.RowKit
set_option linter.unusedSimpArgs false
set_option linter.unusedVariables false

/-- A function that lays one block of rows and hands back the slice of them, in whatever heap. -/
theorem LOk.layS {P : Program} {f : Nat} {args : List AV} {H : List HEnt} {nx n' ty n : Nat} {m : Nat} {xs : List AV}
    (h : LOk P f args [] 0 (.slice 0 n 0 m) [⟨0, 0, .rows ty n xs⟩] n') (ha : subs noId args = args) (hx : subs noId xs = xs) :
    LOk P f args H nx (.slice nx n 0 m) (⟨nx, nx, .rows ty n xs⟩ :: H) (nx + 1) := by
  refine ⟨h.1, fun G w cargs hH hr => ?_⟩
  let G0 : Ghost := { ι := fun u => none, ro := G.ro, an := ⟨fun r => r < w.heap.size, G.ro, fun r => w.heap[r]?⟩ }
  have hsn : Subst G G0 noId := ⟨fun _ _ _ _ h => h, fun u u' l' hu => by simp [noId] at hu, fun u esz vals l' hu => by simp [noId] at hu⟩
  have hr0 : VRels G0 args cargs := by
    have := VRels.subst hsn _ hr
    rwa [ha] at this
  have hH0 : HRel G0 (· ∈ []) (0 ≤ ·) w := ⟨hH.ro, fun e he => absurd he (by simp), fun e _ he => absurd he (by simp), fun _ _ => rfl, fun e _ he => absurd he (by simp), fun e he => absurd he (by simp), fun _ hr => hr, fun _ _ => ⟨rfl, rfl⟩⟩
  refine (h.2 G0 w cargs hH0 hr0).mono ?_
  rintro e w' ⟨v0, hp0, nx0, G', cv, ⟨e1, e2, e3⟩, rfl, hle, hH', hcv, hk⟩
  rw [e2] at hH'
  rw [e1] at hcv
  obtain ⟨l, hl1, hb', hro', _⟩ := hH'.ent ⟨0, 0, .rows ty n xs⟩ (by simp)
  simp only at hl1 hb'
  have hlo : ∀ r, r < w.heap.size → G'.ro r = G.ro r ∧ w'.heap[r]? = w.heap[r]? := fun r h1 => by
    have := hH'.lo r (by rw [hle.an]; exact h1)
    rw [hle.an] at this
    exact this
  have hlb : ¬ l.b < w.heap.size := fun x => by
    have h0 := hH'.own _ (List.mem_singleton.2 rfl) l hl1
    rw [hle.an] at h0
    exact h0 x
  have hGlt : ∀ r o, G.ro r = some o → r < w.heap.size := fun r o hr => (Array.getElem?_eq_some_iff.1 (hH.ro r o hr)).1
  let G1 : Ghost := { ι := G.ι, ro := fun r => if r < w.heap.size then G.ro r else if r = l.b then none else w'.heap[r]?, an := G.an }
  let G2 : Ghost := G1.put nx l
  have hn : G1.ι nx = none := hH.fresh nx (Nat.le_refl nx)
  have hle1 : G.le G1 := ⟨⟨fun _ _ h => h, fun r o hr => by simp only [G1, hGlt r o hr, if_true]; exact hr⟩, rfl⟩
  have hle2 : G.le G2 := hle1.trans (Ghost.le_put hn)
  have hs2 : Subst G' G2 noId := ⟨fun r cur e fr hr => by
      simp only [G2, Ghost.put, G1]
      split
      · rename_i hlt'
        rw [← (hlo r hlt').1]; exact hr
      · split
        · rename_i e; rw [e, hro'] at hr; cases hr
        · exact hH'.ro _ _ hr, fun u u' l' hu => by simp [noId] at hu, fun u esz vals l' hu => by simp [noId] at hu⟩
  have hb2 : BRel G2 l w' (.rows ty n xs) := by
    have := BRel.subst hs2 hb'
    simpa only [ABlk.sub, hx] using this
  have hput : ∀ e ∈ H, e.id ≠ nx := fun e he hx => by
    obtain ⟨l3, h3, _⟩ := hH.ent e he
    rw [hx] at h3
    exact absurd h3 (by have := hH.fresh nx (Nat.le_refl nx); rw [this]; simp)
  have hιe : ∀ e ∈ H, G2.ι e.id = G.ι e.id := fun e he => by simp [G2, G1, Ghost.put, hput e he]
  have hnew : G2.ι nx = some l := by simp [G2, Ghost.put]
  have hv2 : VRel G2 (.slice nx n 0 m) cv := by
    simp only [VRel] at hcv ⊢
    obtain ⟨l5, cap, h5, h6⟩ := hcv
    rw [hl1] at h5; cases h5
    exact ⟨l, cap, hnew, h6⟩
  refine ⟨_, _, _, G2, cv, ⟨rfl, rfl, rfl⟩, rfl, hle2, ?_, hv2, hk⟩
  have h1 := hH.world (w' := w') (fun r hr => (hlo r hr).2) hk.size
  have hgrp : ∀ e ∈ H, e.grp < nx := fun e he => by
    obtain ⟨_, _, _, _, h6⟩ := hH.ent e he
    exact Nat.lt_of_not_le h6
  refine ⟨fun r o hr => ?_, fun e he => ?_, fun e e' he he' hne l1 l2 h3 h4 => ?_, fun u hu => ?_, fun e e' he he' hid => ?_, fun e he l1 h3 => ?_, h1.sz, fun r hr => ?_⟩
  · simp only [G2, G1, Ghost.put] at hr
    split at hr
    · exact h1.ro r o hr
    · split at hr
      · cases hr
      · exact hr
  · rcases List.mem_cons.1 he with rfl | he
    · refine ⟨l, hnew, hb2, ?_, by simp⟩
      simp [G2, G1, Ghost.put, hlb]
    · obtain ⟨l3, h3, h4, h5, h6⟩ := h1.ent e he
      obtain ⟨l4, h7, h8, _⟩ := hH.ent e he
      rw [h3] at h7; cases h7
      refine ⟨l3, by rw [hιe e he]; exact h3, h4.mono hle2, ?_, fun x => h6 (Nat.le_of_succ_le x)⟩
      simp only [G2, G1, Ghost.put, h8.lt, if_true]; exact h5
  · have old : ∀ e ∈ H, ∀ l1, G2.ι e.id = some l1 → l1.b < w.heap.size := fun e he l1 hl => by
      rw [hιe e he] at hl
      obtain ⟨l4, h7, h8, _⟩ := hH.ent e he
      rw [hl] at h7; cases h7
      exact h8.lt
    rcases List.mem_cons.1 he with rfl | he <;> rcases List.mem_cons.1 he' with rfl | he'
    · exact absurd rfl hne
    · rw [hnew] at h3; cases h3
      exact fun x => hlb (x ▸ old e' he' l2 h4)
    · rw [hnew] at h4; cases h4
      exact fun x => hlb (x ▸ old e he l1 h3)
    · rw [hιe e he] at h3; rw [hιe e' he'] at h4
      exact hH.sep e e' he he' hne l1 l2 h3 h4
  · have : u ≠ nx := by omega
    simp only [G2, Ghost.put, this, if_false]
    exact hH.fresh u (by omega)
  · rcases List.mem_cons.1 he with rfl | he <;> rcases List.mem_cons.1 he' with rfl | he'
    · rfl
    · exact absurd hid.symm (hput e' he')
    · exact absurd hid (hput e he)
    · exact hH.uniq e e' he he' hid
  · rcases List.mem_cons.1 he with rfl | he
    · rw [hnew] at h3; cases h3
      exact fun x => hlb (hH.sz _ x)
    · rw [hιe e he] at h3; exact hH.own e he l1 h3
  · have hr' := hH.sz r hr
    refine ⟨?_, (h1.lo r hr).2⟩
    simp only [G2, G1, Ghost.put, hr', if_true]; exact (h1.lo r hr).1


/-- a function that lays one block of rows -/
def layHs (ty n : Nat) (c : List AV → Option (List AV)) : List AV → List HEnt → Nat → Option (AV × List HEnt × Nat) := fun args H nx => match c args with
  | some xs => some (.slice nx n 0 xs.length, ⟨nx, nx, .rows ty n xs⟩ :: H, nx + 1)
  | none => none
def LayS (P : Program) (f ty n : Nat) (c : List AV → Option (List AV)) : Prop :=
  ∀ args xs, c args = some xs → (∃ n', LOk P f args [] 0 (.slice 0 n 0 xs.length) [⟨0, 0, .rows ty n xs⟩] n') ∧ subs noId args = args ∧ subs noId xs = xs
theorem LayS.hn {P : Program} {f ty n : Nat} {c : List AV → Option (List AV)} (h : LayS P f ty n c) : Hn P f (layHs ty n c) := fun args H nx v hp' nx' hc => by
  unfold layHs at hc
  split at hc
  · rename_i x hx
    simp only [Option.some.injEq, Prod.mk.injEq] at hc
    obtain ⟨rfl, rfl, rfl⟩ := hc
    obtain ⟨⟨m, h1⟩, h2, h3⟩ := h _ _ hx
    exact LOk.layS h1 h2 h3
  · cases hc
theorem yS_h {c : List AV → Option (List AV)} {args : List AV} {xs : List AV} (h : c args = some xs) (ty n : Nat) (H : List HEnt) (nx : Nat) : layHs ty n c args H nx = some (.slice nx n 0 xs.length, ⟨nx, nx, .rows ty n xs⟩ :: H, nx + 1) := by
  unfold layHs; rw [h]
end Eng
