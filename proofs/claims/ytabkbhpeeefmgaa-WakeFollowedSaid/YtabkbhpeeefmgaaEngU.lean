/-
THE ENGINE, PART T: a region whose order is drawn: the theorem.
THE ENGINE, PART U: regions.
-/
import Derived.Test.YtabkbhpeeefmgaaEngS
namespace Eng
open Go Go.RowKit
set_option linter.unusedSimpArgs false
set_option linter.unusedVariables false

theorem tids_nil {op : AOp} (h : op.reads = false) (vals : List AV) : tids op vals = [] := by
  cases op <;> first | rfl | (simp [AOp.reads] at h)

theorem fp_indep {x y : AOper} {s1 s2 : AState} (h : relevant x.op y.op = false) : indep (fpO x s1) (fpO y s2) = true := by
  simp only [relevant, Bool.or_eq_false_iff, Bool.and_eq_false_iff] at h
  obtain ⟨h1, h2⟩ := h
  simp only [indep, Bool.and_eq_true]
  constructor
  · rcases h1 with h1 | ⟨h1, h3⟩
    · simp [fpO, h1]
    · simp only [fpO, tids_nil h3, h1]
      split <;> simp
  · rcases h2 with h2 | h2
    · simp [fpO, h2]
    · simp only [fpO, tids_nil h2]
      split <;> simp

theorem out_wG {cs : Ctx} {o : AOper} {s : AState} {v : AV} {f : Eff} {c : Bool} (h : outOp cs o s = some (v, f, c)) : (wG f = none ∧ c = false) ∨ ((fpO o s).2 = wG f ∧ c = true ∧ effOp (getE s.hp) s.next o.op (evs s.tm o.xs) = some (v, f)) := by
  have main : (if o.op.isEff then (effOp (getE s.hp) s.next o.op (evs s.tm o.xs)).map fun (v, f) => (v, f, true) else (valOp cs (getE s.hp) o.op (evs s.tm o.xs)).map fun v => (v, Eff.no, false)) = some (v, f, c) →
      (wG f = none ∧ c = false) ∨ ((fpO o s).2 = wG f ∧ c = true ∧ effOp (getE s.hp) s.next o.op (evs s.tm o.xs) = some (v, f)) := by
    intro h
    split at h
    · rename_i heff
      simp only [Option.map_eq_some_iff, Prod.mk.injEq] at h
      obtain ⟨⟨v', f'⟩, he, rfl, rfl, rfl⟩ := h
      exact .inr ⟨by simp [fpO, heff, he], rfl, he⟩
    · simp only [Option.map_eq_some_iff, Prod.mk.injEq] at h
      obtain ⟨v', he, rfl, rfl, rfl⟩ := h
      exact .inl ⟨rfl, rfl⟩
  unfold outOp at h
  split at h
  · exact main h
  · simp only [Option.bind_eq_some_iff] at h
    obtain ⟨b, _, h⟩ := h
    split at h
    · exact main h
    · simp only [Option.some.injEq, Prod.mk.injEq] at h
      obtain ⟨rfl, rfl, rfl⟩ := h
      exact .inl ⟨rfl, rfl⟩

/-- what an effect may look like -/
theorem effOp_shape {lk : Look} {id : Nat} {op : AOp} {vals : List AV} {v : AV} {f : Eff} (h : effOp lk id op vals = some (v, f)) :
    (∀ x, f = .new x → x.grp = id) ∧ (∀ t g k, f = .set t g k → ∃ e, lk t = some e ∧ e.grp = g) ∧ (∀ t g x, f = .ext t g x → x.grp = g ∧ ∃ e, lk t = some e ∧ e.grp = g) := by
  unfold effOp at h
  split at h
  · cases h; exact ⟨fun x e => (by cases e; rfl), fun _ _ _ e => (by cases e), fun _ _ _ e => (by cases e)⟩
  · split at h
    · split at h
      · cases h; exact ⟨fun x e => (by cases e; rfl), fun _ _ _ e => (by cases e), fun _ _ _ e => (by cases e)⟩
      · cases h
    · split at h
      · cases h; exact ⟨fun x e => (by cases e; rfl), fun _ _ _ e => (by cases e), fun _ _ _ e => (by cases e)⟩
      · cases h
  · split at h
    · cases h; exact ⟨fun x e => (by cases e; rfl), fun _ _ _ e => (by cases e), fun _ _ _ e => (by cases e)⟩
    · cases h
  · simp only [Option.map_eq_some_iff, Prod.mk.injEq] at h
    obtain ⟨f', hf, _, rfl⟩ := h
    unfold storeV at hf
    split at hf
    · split at hf
      · rename_i hlk
        split at hf
        · simp only [Option.map_eq_some_iff] at hf
          obtain ⟨_, _, rfl⟩ := hf
          exact ⟨fun x e => (by cases e), fun t g k e => (by cases e; exact ⟨_, hlk, rfl⟩), fun _ _ _ e => (by cases e)⟩
        · cases hf
      · cases hf
    · cases hf
  · unfold appV at h
    split at h
    · simp only [Option.bind_eq_some_iff] at h
      obtain ⟨xs, _, h⟩ := h
      split at h
      · cases h; exact ⟨fun x e => (by cases e), fun _ _ _ e => (by cases e), fun _ _ _ e => (by cases e)⟩
      · split at h
        · cases h; exact ⟨fun x e => (by cases e; rfl), fun _ _ _ e => (by cases e), fun _ _ _ e => (by cases e)⟩
        · cases h
    · simp only [Option.bind_eq_some_iff] at h
      obtain ⟨xs, _, h⟩ := h
      split at h
      · cases h; exact ⟨fun x e => (by cases e; rfl), fun _ _ _ e => (by cases e), fun _ _ _ e => (by cases e)⟩
      · cases h
    · split at h
      · rename_i hlk
        simp only [Option.bind_eq_some_iff] at h
        obtain ⟨xs, _, h⟩ := h
        split at h
        · cases h; exact ⟨fun x e => (by cases e), fun _ _ _ e => (by cases e), fun t g x e => (by cases e; exact ⟨rfl, _, hlk, rfl⟩)⟩
        · cases h
      · cases h
    · cases h
  · split at h
    · cases h; exact ⟨fun x e => (by cases e; rfl), fun _ _ _ e => (by cases e), fun _ _ _ e => (by cases e)⟩
    · cases h
  · unfold cpyV at h
    split at h
    · split at h
      · rename_i hlk
        simp only [Option.bind_eq_some_iff] at h
        obtain ⟨xs, _, h⟩ := h
        split at h
        · cases h; exact ⟨fun x e => (by cases e), fun t g k e => (by cases e; exact ⟨_, hlk, rfl⟩), fun _ _ _ e => (by cases e)⟩
        · cases h
      · cases h
    · cases h
  · cases h

theorem evs_same {T T' : List AV} : ∀ {xs : List Opd}, (∀ n ∈ xs.filterMap (fun | .t n => some n | .c _ => none), getT T n = getT T' n) → evs T xs = evs T' xs
  | [], _ => rfl
  | x :: xs, h => by
    have h1 : evO T x = evO T' x := by
      cases x with
      | t n => exact h n (by simp)
      | c v => rfl
    have h2 := evs_same (T := T) (T' := T') (xs := xs) fun n hn => h n (by
      cases x with
      | t m => simp only [List.filterMap_cons]; exact List.mem_cons_of_mem _ hn
      | c v => simpa only [List.filterMap_cons] using hn)
    simp only [evs, h1, h2]

section
variable {P : Program} {E : Env} {r : Option Nat} {n : Nat} {Q : Exit → Act → World → Prop} {cs : Ctx}

theorem drawn_sound (hcs : Good P cs) {ops : Array Oper} {aops : List AOper} {ms : List Nat} (hms : ms = masks ops.toList []) (hc : ∀ k : Nat, ∀ o, ops[k]? = some o → ∃ ao, aops[k]? = some ao ∧ compO P ops.toList o = some ao ∧ ao.dst = o.dst)
    (hlen : aops.length = ops.size) (hback : ∀ j o, ops[j]? = some o → ∀ e ∈ edges o, e < j)
    (st : Nat → AState) (v : Nat → AV) (f : Nat → Eff) (c : Nat → Bool)
    (hout : ∀ (k : Nat) (ao : AOper), aops[k]? = some ao → outOp cs ao (st k) = some (v k, f k, c k) ∧ st (k + 1) = after (st k) ao.dst (v k) (f k) (c k))
    (hind : ∀ (i j : Nat) (x y : AOper), i < j → aops[i]? = some x → aops[j]? = some y → (ms.getD j 0).testBit i = false → sIndep x y = true ∧ indep (fpO x (st i)) (fpO y (st j)) = true)
    {G : Ghost} {a : Act} {w : World} (h : SRel E G (st 0) a w)
    (hQ : ∀ (G' : Ghost) (a' : Act) (w' : World), SRel E G' (st ops.size) a' w' → Q .normal a' w') :
    wpAnyIn (FW r) n P .any ops Q ops.size (Array.replicate ops.size false) a w := by
  -- numbers rise
  have hnext : ∀ k, k < ops.size → (st (k + 1)).next = if c k then (st k).next + 1 else (st k).next := fun k hk => by
    obtain ⟨ao, h1⟩ : ∃ ao, aops[k]? = some ao := ⟨aops[k], List.getElem?_eq_getElem (by omega)⟩
    rw [(hout k ao h1).2]; rfl
  have hmono : ∀ i k, i ≤ k → k ≤ ops.size → (st i).next ≤ (st k).next := by
    intro i k hik
    induction k with
    | zero => intro _; have : i = 0 := by omega
              rw [this]; exact Nat.le_refl _
    | succ k ih =>
      intro hk
      by_cases hi : i = k + 1
      · rw [hi]; exact Nat.le_refl _
      · have := ih (by omega) (by omega)
        have := hnext k (by omega)
        split at this <;> omega
  -- groups are told by numbers below
  have hgrp : ∀ k, k ≤ ops.size → ∀ e ∈ (st k).hp, e.grp < (st k).next := by
    intro k
    induction k with
    | zero => intro _ e he; obtain ⟨_, _, _, _, h4⟩ := h.hp.ent e he; show e.grp < (st 0).next; have : ¬ (st 0).next ≤ e.grp := h4; omega
    | succ k ih =>
      intro hk e he
      have ih := ih (by omega)
      obtain ⟨ao, h1⟩ : ∃ ao, aops[k]? = some ao := ⟨aops[k], List.getElem?_eq_getElem (by omega)⟩
      obtain ⟨h2, h3⟩ := hout k ao h1
      have hle := hmono k (k + 1) (by omega) hk
      rw [h3] at he
      have he' := mem_applyE (f := f k) he
      have hn := hnext k (by omega)
      rcases out_wG h2 with ⟨hw, _⟩ | ⟨_, hck, heff⟩
      · cases hf : f k <;> rw [hf] at he' hw <;> simp [wG] at hw
        have := ih e he'; omega
      · obtain ⟨s1, s2, s3⟩ := effOp_shape heff
        rw [hck, if_pos rfl] at hn
        cases hf : f k with
        | no => rw [hf] at he'; have := ih e he'; omega
        | new x =>
          rw [hf] at he'
          rcases he' with he' | rfl
          · have := ih e he'; omega
          · have := s1 _ hf; omega
        | set t g κ =>
          rw [hf] at he'
          rcases he' with he' | rfl
          · have := ih e he'.1; omega
          · obtain ⟨e', h5, h6⟩ := s2 _ _ _ hf
            have := ih e' (getE_mem h5).1
            show g < _; omega
        | ext t g x =>
          rw [hf] at he'
          obtain ⟨h7, e', h5, h6⟩ := s3 _ _ _ hf
          rcases he' with he' | rfl
          · have := ih e he'.1; omega
          · have := ih e' (getE_mem h5).1
            omega
  -- the text's own states
  have hall : Nat → Bool := fun _ => true
  have htm : ∀ k, k ≤ ops.size → (st k).tm = tmS aops st v (fun _ => true) k := by
    intro k
    induction k with
    | zero => intro _; rfl
    | succ k ih =>
      intro hk
      obtain ⟨ao, h1⟩ : ∃ ao, aops[k]? = some ao := ⟨aops[k], List.getElem?_eq_getElem (by omega)⟩
      rw [(hout k ao h1).2]
      simp only [after, tmS, if_true, dstOf, h1, Option.bind_some, ← ih (by omega)]
      cases ao.dst <;> rfl
  have hhp : ∀ k, k ≤ ops.size → ∀ e ∈ (st k).hp, e ∈ hS st f (fun _ => true) e.grp k := by
    intro k
    induction k with
    | zero => intro _ e he; simp only [hS]; exact List.mem_filter.2 ⟨he, by simp⟩
    | succ k ih =>
      intro hk e he
      obtain ⟨ao, h1⟩ : ∃ ao, aops[k]? = some ao := ⟨aops[k], List.getElem?_eq_getElem (by omega)⟩
      obtain ⟨h2, h3⟩ := hout k ao h1
      rw [h3] at he
      have he' := mem_applyE (f := f k) he
      simp only [hS, if_true]
      rcases out_wG h2 with ⟨hw, _⟩ | ⟨_, hck, heff⟩
      · cases hf : f k <;> rw [hf] at he' hw <;> simp [wG] at hw
        exact ih (by omega) e he'
      · obtain ⟨s1, s2, s3⟩ := effOp_shape heff
        cases hf : f k with
        | no => rw [hf] at he'; exact ih (by omega) e he'
        | new x =>
          rw [hf] at he'
          simp only [actG]
          rcases he' with he' | rfl
          · have h4 := hgrp k (by omega) e he'
            have h5 := s1 _ hf
            rw [if_neg (by omega)]; exact ih (by omega) e he'
          · simp
        | set t g κ =>
          rw [hf] at he'
          simp only [actG]
          rcases he' with he' | rfl
          · rw [if_neg (fun e => he'.2 e.symm)]; exact ih (by omega) e he'.1
          · simp
        | ext t g x =>
          rw [hf] at he'
          obtain ⟨h7, _⟩ := s3 _ _ _ hf
          simp only [actG]
          rcases he' with he' | rfl
          · split
            · rename_i hg
              refine List.mem_append_left _ (List.mem_filter.2 ⟨ih (by omega) e he'.1, ?_⟩)
              have := he'.2.resolve_left (fun x => x hg.symm)
              simpa using this
            · exact ih (by omega) e he'.1
          · rw [if_pos h7.symm]; simp
  -- the state when the operations of S have run
  let M (S : Nat → Bool) : HEnt → Prop := fun e => e ∈ hS st f S e.grp ops.size
  let fr (S : Nat → Bool) : Nat → Prop := fun t => (st 0).next ≤ t ∧ ∀ j, j < ops.size → S j = true → c j = true → t ≠ (st j).next
  have closed : ∀ (S : Nat → Bool), (∀ (k : Nat) (o : Oper), ops[k]? = some o → S k = true → ∀ e ∈ edges o, S e = true) → ∀ j i, (ms.getD j 0).testBit i = true → S j = true → S i = true := by
    intro S hS
    rw [hms]
    exact masks_closed (S := fun k => S k = true) (all := ops.toList) (by simp) (fun k o ho => hS k o (by rw [← Array.getElem?_toList]; exact ho)) (by simp)
  have fin : ∀ (G : Ghost) (a : Act) (w : World), VRels G (tmS aops st v (fun _ => true) ops.size) a.tmps.toList → HRel G (M fun _ => true) (fr fun _ => true) w → Dfr E G a.defers → E.G.le G → Keeps E.w w → Q .normal a w := by
    intro G a w h1 h2 h3 h4 h5
    refine hQ G a w ⟨by rw [htm _ (Nat.le_refl _)]; exact h1, h2.sub (fun e he => hhp _ (Nat.le_refl _) e he) fun t ht => ?_, h3, h4, h5⟩
    have ht : (st ops.size).next ≤ t := ht
    refine ⟨Nat.le_trans (hmono 0 _ (Nat.zero_le _) (Nat.le_refl _)) ht, fun j hj _ hcj => ?_⟩
    have h6 := hnext j hj
    rw [hcj, if_pos rfl] at h6
    have := hmono (j + 1) ops.size hj (Nat.le_refl _)
    omega
  -- by how many are left
  have main : ∀ (fuel : Nat) (listed : Array Bool) (G : Ghost) (a : Act) (w : World), listed.size = ops.size → ((List.range ops.size).filter fun i => !listed.getD i true).length = fuel →
      (∀ (k : Nat) (o : Oper), ops[k]? = some o → listed.getD k false = true → ∀ e ∈ edges o, listed.getD e false = true) →
      VRels G (tmS aops st v (fun i => listed.getD i false) ops.size) a.tmps.toList → HRel G (M fun i => listed.getD i false) (fr fun i => listed.getD i false) w → Dfr E G a.defers → E.G.le G → Keeps E.w w →
      wpAnyIn (FW r) n P .any ops Q fuel listed a w := by
    intro fuel
    induction fuel with
    | zero =>
      intro listed G a w hsz hun hcl h1 h2 h3 h4 h5
      have hlist : ∀ i, i < ops.size → listed.getD i false = true := fun i hi => by
        have hnil := List.eq_nil_of_length_eq_zero hun
        have : ¬ (i ∈ (List.range ops.size).filter fun i => !listed.getD i true) := by rw [hnil]; simp
        simp only [List.mem_filter, List.mem_range, hi, true_and, Bool.not_eq_true', Bool.not_eq_false] at this
        rw [Array.getD_eq_getD_getElem?, Array.getElem?_eq_getElem (by omega)] at this ⊢
        exact this
      refine ⟨?_, ?_⟩
      · unfold Region.ready
        rw [List.filter_eq_nil_iff]
        intro i hi
        simp only [List.mem_range] at hi
        have := hlist i hi
        rw [Array.getD_eq_getD_getElem?, Array.getElem?_eq_getElem (by omega)] at this ⊢
        simp only [Option.getD_some] at this ⊢
        simp [this]
      · have e1 : tmS aops st v (fun i => listed.getD i false) ops.size = tmS aops st v (fun _ => true) ops.size := by
          have : ∀ k, k ≤ ops.size → tmS aops st v (fun i => listed.getD i false) k = tmS aops st v (fun _ => true) k := by
            intro k
            induction k with
            | zero => intro _; rfl
            | succ k ih => intro hk; simp only [tmS, ih (by omega), hlist k (by omega), if_true]
          exact this _ (Nat.le_refl _)
        rw [e1] at h1
        refine fin G a w h1 (h2.sub (fun e he => ?_) fun t ht => ?_) h3 h4 h5
        · show e ∈ hS st f _ e.grp ops.size
          rw [hS_get st f (S' := fun _ => true) fun j hj hne => absurd (hlist j hj) hne]
          exact he
        · exact ⟨ht.1, fun j hj _ hcj => ht.2 j hj rfl hcj⟩
    | succ fuel ih =>
      intro listed G a w hsz hun hcl h1 h2 h3 h4 h5
      refine ⟨fun hready => ?_, fun i hi => ?_⟩
      · -- the first that is not listed is ready
        exfalso
        have hne : ((List.range ops.size).filter fun i => !listed.getD i true) ≠ [] := fun e => by rw [e] at hun; cases hun
        have hex : ∃ i, i < ops.size ∧ listed.getD i true = false := by
          obtain ⟨i, hi⟩ := List.exists_mem_of_ne_nil _ hne
          simp only [List.mem_filter, List.mem_range, Bool.not_eq_true'] at hi
          exact ⟨i, hi⟩
        -- the least such
        have least : ∀ m, (∃ i, i < m ∧ i < ops.size ∧ listed.getD i true = false) → ∃ i, i < ops.size ∧ listed.getD i true = false ∧ ∀ j, j < i → listed.getD j true = true := by
          intro m
          induction m with
          | zero => rintro ⟨i, hi, _⟩; omega
          | succ m ih =>
            rintro ⟨i, hi, h6, h7⟩
            by_cases hx : ∃ i, i < m ∧ i < ops.size ∧ listed.getD i true = false
            · exact ih hx
            · refine ⟨i, h6, h7, fun j hj => ?_⟩
              cases hv : listed.getD j true with
              | true => rfl
              | false => exact absurd ⟨j, by omega, by omega, hv⟩ hx
        obtain ⟨i, h6, h7⟩ := hex
        obtain ⟨i, hi1, hi2, hi3⟩ := least (i + 1) ⟨i, by omega, h6, h7⟩
        have hmem : i ∈ Region.ready .any ops listed := by
          unfold Region.ready
          simp only [List.mem_filter, List.mem_range]
          refine ⟨hi1, ?_⟩
          rw [hi2]
          obtain ⟨o, ho⟩ : ∃ o, ops[i]? = some o := ⟨ops[i], Array.getElem?_eq_getElem hi1⟩
          simp only [ho, Option.map_some, Option.getD_some, Bool.not_false, Bool.true_and, Array.all_eq_true', Bool.or_eq_true, Bool.not_eq_true']
          intro e he
          by_cases hb : Region.binds .any e = true
          · right
            have hlt := hback i o ho e.on (List.mem_filterMap.2 ⟨e, by simpa using he, by simp [hb]⟩)
            have := hi3 e.on hlt
            rw [Array.getD_eq_getD_getElem?, Array.getElem?_eq_getElem (by omega)] at this ⊢
            exact this
          · left; simpa using hb
        rw [hready] at hmem
        simp at hmem
      · -- an operation whose turn comes
        have hi' := hi
        unfold Region.ready at hi
        simp only [List.mem_filter, List.mem_range, Bool.and_eq_true, Bool.not_eq_true'] at hi
        obtain ⟨hiN, hnl, hdeps⟩ := hi
        obtain ⟨o, ho⟩ : ∃ o, ops[i]? = some o := ⟨ops[i], Array.getElem?_eq_getElem hiN⟩
        obtain ⟨ao, hao, hco, hdst⟩ := hc i o ho
        obtain ⟨ho1, ho2⟩ := hout i ao hao
        have hSi : listed.getD i false = false := by
          rw [Array.getD_eq_getD_getElem?, Array.getElem?_eq_getElem (by omega)] at hnl ⊢
          exact hnl
        have hedge : ∀ e ∈ edges o, listed.getD e false = true := by
          intro e he
          simp only [ho, Option.map_some, Option.getD_some, Array.all_eq_true', Bool.or_eq_true, Bool.not_eq_true'] at hdeps
          obtain ⟨x, hx, hxe⟩ := List.mem_filterMap.1 he
          have := hdeps x (by simpa using hx)
          split at hxe
          · rename_i hb
            cases hxe
            exact this.resolve_left (by rw [hb]; simp)
          · cases hxe
        have hclosed := closed (fun i => listed.getD i false) hcl
        -- others that have run before their turn, or have not though earlier in the text: no order between
        have other : ∀ (j : Nat) (y : AOper), j < ops.size → aops[j]? = some y → (j < i ∧ listed.getD j false = false) ∨ (i < j ∧ listed.getD j false = true) →
            (∀ d, y.dst = some d → d ∉ slotsR ao) ∧ (∀ d, ao.dst = some d → y.dst ≠ some d) ∧ (∀ g, wG (f j) = some g → g ∉ (fpO ao (st i)).1) ∧ (∀ g, wG (f i) = some g → wG (f j) ≠ some g) := by
          intro j y hj hy hcase
          have hwj := out_wG (hout j y hy).1
          have hwi := out_wG ho1
          rcases hcase with ⟨hlt, hnj⟩ | ⟨hlt, hlj⟩
          · -- j earlier, not listed: not an ancestor, for i's edges are listed
            have hb : (ms.getD i 0).testBit j = false := by
              cases hb : (ms.getD i 0).testBit j with
              | false => rfl
              | true =>
                have hcl2 : ∀ (k : Nat) (o' : Oper), ops[k]? = some o' → (listed.getD k false || decide (k = i)) = true → ∀ e ∈ edges o', (listed.getD e false || decide (e = i)) = true := by
                  intro k o' ho' hk e he
                  simp only [Bool.or_eq_true, decide_eq_true_eq] at hk ⊢
                  rcases hk with hk | rfl
                  · exact .inl (hcl k o' ho' hk e he)
                  · rw [ho] at ho'; cases ho'; exact .inl (hedge e he)
                have := closed (fun k => listed.getD k false || decide (k = i)) hcl2 i j hb (by simp)
                simp only [Bool.or_eq_true, decide_eq_true_eq] at this
                rcases this with this | this
                · rw [hnj] at this; cases this
                · omega
            obtain ⟨h6, h7⟩ := hind j i y ao hlt hy hao hb
            simp only [sIndep, Bool.and_eq_true] at h6
            simp only [indep, Bool.and_eq_true] at h7
            refine ⟨fun d hd => ?_, fun d hd => ?_, fun g hg => ?_, fun g hg => ?_⟩
            · have := h6.1; simp only [hd, Bool.and_eq_true, Bool.not_eq_true', List.contains_iff_mem, ← Bool.not_eq_true] at this; simpa using this.1
            · intro e; have := h6.1; simp [e, hd] at this
            · rcases hwj with ⟨hwj, _⟩ | ⟨hwj, _⟩
              · rw [hwj] at hg; cases hg
              · have := h7.1; rw [hwj, hg] at this; simp at this; simpa using this.1
            · intro e
              rcases hwj with ⟨hwj, _⟩ | ⟨hwj, _⟩
              · rw [hwj] at e; cases e
              · rcases hwi with ⟨hwi, _⟩ | ⟨hwi, _⟩
                · rw [hwi] at hg; cases hg
                · have := h7.1; rw [hwj, e, hwi, hg] at this; simp at this
          · -- j later, listed: i is not its ancestor
            have hb : (ms.getD j 0).testBit i = false := by
              cases hb : (ms.getD j 0).testBit i with
              | false => rfl
              | true => have := hclosed j i hb hlj; rw [hSi] at this; cases this
            obtain ⟨h6, h7⟩ := hind i j ao y hlt hao hy hb
            simp only [sIndep, Bool.and_eq_true] at h6
            simp only [indep, Bool.and_eq_true] at h7
            refine ⟨fun d hd => ?_, fun d hd => ?_, fun g hg => ?_, fun g hg => ?_⟩
            · have := h6.2; simp only [hd, Bool.not_eq_true', ← Bool.not_eq_true, List.contains_iff_mem] at this; exact this
            · intro e; have := h6.1; simp [e, hd] at this
            · rcases hwj with ⟨hwj, _⟩ | ⟨hwj, _⟩
              · rw [hwj] at hg; cases hg
              · have := h7.2; rw [hwj, hg] at this; simpa using this
            · intro e
              rcases hwj with ⟨hwj, _⟩ | ⟨hwj, _⟩
              · rw [hwj] at e; cases e
              · rcases hwi with ⟨hwi, _⟩ | ⟨hwi, _⟩
                · rw [hwi] at hg; cases hg
                · have := h7.1; rw [hwi, hg, hwj, e] at this; simp at this
        have dstj : ∀ j d, j < ops.size → dstOf aops j = some d → ∃ y, aops[j]? = some y ∧ y.dst = some d := fun j d hj h => by
          simp only [dstOf, Option.bind_eq_some_iff] at h
          exact h
        have opj : ∀ j, j < ops.size → ∃ y, aops[j]? = some y := fun j hj => ⟨aops[j], List.getElem?_eq_getElem (by omega)⟩
        -- slots as in the text
        have below : ∀ k, k ≤ ops.size → i ≤ k → tmS aops st v (fun j => decide (j < i)) k = (st i).tm := by
          intro k hk hik
          induction k with
          | zero => have : i = 0 := by omega
                    rw [this]; rfl
          | succ k ih' =>
            by_cases hki : i = k + 1
            · rw [htm i (by omega), hki]
              have : ∀ m, m ≤ k + 1 → tmS aops st v (fun j => decide (j < k + 1)) m = tmS aops st v (fun _ => true) m := by
                intro m
                induction m with
                | zero => intro _; rfl
                | succ m ihm => intro hm; have : m < k + 1 := by omega
                                simp only [tmS, ihm (by omega), this, decide_true]
              exact this _ (Nat.le_refl _)
            · have hlt : ¬ k < i := by omega
              simp only [tmS, hlt, decide_false, Bool.false_eq_true, if_false]
              exact ih' (by omega) (by omega)
        have hslot : ∀ x ∈ slotsR ao, getT (tmS aops st v (fun i => listed.getD i false) ops.size) x = getT (st i).tm x := by
          intro x hx
          rw [← below ops.size (Nat.le_refl _) (by omega)]
          refine tmS_get aops st v fun j hj hne hd => ?_
          obtain ⟨y, hy, hyd⟩ := dstj j x hj hd
          by_cases hji : j = i
          · subst hji; simp [hSi] at hne
          · by_cases hlt : j < i
            · have : listed.getD j false = false := by simpa [hlt] using hne
              exact (other j y hj hy (.inl ⟨hlt, this⟩)).1 x hyd hx
            · have : listed.getD j false = true := by simpa [hlt] using hne
              exact (other j y hj hy (.inr ⟨by omega, this⟩)).1 x hyd hx
        have hev : evs (tmS aops st v (fun i => listed.getD i false) ops.size) ao.xs = evs (st i).tm ao.xs := evs_same fun x hx => hslot x (List.mem_append_left _ hx)
        have hgd : ∀ g want, ao.guard = some (g, want) → getT (tmS aops st v (fun i => listed.getD i false) ops.size) g = getT (st i).tm g := fun g want hg => hslot g (List.mem_append_right _ (by rw [hg]; simp))
        -- blocks as in the text
        have hrd : ∀ t ∈ tids ao.op (evs (st i).tm ao.xs), ∀ e, getE (st i).hp t = some e → (M fun i => listed.getD i false) e := by
          intro t ht e he
          have hg : e.grp ∈ (fpO ao (st i)).1 := List.mem_filterMap.2 ⟨t, ht, by rw [he]; rfl⟩
          have h6 := hhp i (by omega) e (getE_mem he).1
          show e ∈ hS st f _ e.grp ops.size
          have e1 : hS st f (fun _ => true) e.grp i = hS st f (fun j => decide (j < i)) e.grp i := hS_get st f fun j hj hne => by simp [hj] at hne
          have e2 : hS st f (fun j => decide (j < i)) e.grp ops.size = hS st f (fun j => decide (j < i)) e.grp i := hS_from st f (by omega) fun j h7 _ h8 => by simp at h8; omega
          have e3 : hS st f (fun i => listed.getD i false) e.grp ops.size = hS st f (fun j => decide (j < i)) e.grp ops.size := hS_get st f fun j hj hne hw => by
            obtain ⟨y, hy⟩ := opj j hj
            by_cases hji : j = i
            · subst hji; simp [hSi] at hne
            · by_cases hlt : j < i
              · have : listed.getD j false = false := by simpa [hlt] using hne
                exact (other j y hj hy (.inl ⟨hlt, this⟩)).2.2.1 _ hw hg
              · have : listed.getD j false = true := by simpa [hlt] using hne
                exact (other j y hj hy (.inr ⟨by omega, this⟩)).2.2.1 _ hw hg
          rw [e3, e2, ← e1]; exact h6
        have hid : c i = true → (fr fun i => listed.getD i false) (st i).next := by
          intro hci
          refine ⟨hmono 0 i (Nat.zero_le _) (by omega), fun j hj hlj hcj e => ?_⟩
          have hji : j ≠ i := fun x => by subst x; simp [hSi] at hlj
          have h6 := hnext j hj
          rw [hcj, if_pos rfl] at h6
          have h7 := hnext i hiN
          rw [hci, if_pos rfl] at h7
          rcases Nat.lt_or_gt_of_ne hji with hlt | hgt
          · have := hmono (j + 1) i hlt (by omega); omega
          · have := hmono (i + 1) j hgt (by omega); omega
        have hstep := out_sound (r := r) (n := n) (o := o) (Q := Q) (K := wpAnyIn (FW r) n P .any ops Q fuel (listed.setIfInBounds i true)) hcs hco ho1 h1 hev hgd h2 hrd hid ?_
        · show wpOpIn (FW r) n P ops Q i _ a w
          unfold wpOpIn
          simp only [ho]
          exact hstep
        · intro G' cv w' hle hcv hH hk
          have hset : ∀ j, (listed.setIfInBounds i true).getD j false = (listed.getD j false || decide (j = i)) := by
            intro j
            rw [Array.getD_eq_getD_getElem?, Array.getD_eq_getD_getElem?, Array.getElem?_setIfInBounds]
            by_cases hji : i = j
            · subst hji
              rw [if_pos rfl, if_pos (by omega)]
              simp
            · have : j ≠ i := fun e => hji e.symm
              rw [if_neg hji]; simp [this]
          have hsetT : (fun j => (listed.setIfInBounds i true).getD j false) = fun j => listed.getD j false || decide (j = i) := funext hset
          refine ih (listed.setIfInBounds i true) G' _ w' (by simp [hsz]) ?_ ?_ ?_ ?_ (by rw [put_df]; exact h3.mono hle) (h4.trans hle) (h5.trans hk)
          · -- one fewer
            have hcount : ∀ (l : List Nat), l.Nodup → i ∈ l → (∀ x ∈ l, x < ops.size) → (l.filter fun j => !(listed.setIfInBounds i true).getD j true).length + 1 = (l.filter fun j => !listed.getD j true).length := by
              have gd : ∀ j, j < ops.size → (listed.setIfInBounds i true).getD j true = (listed.getD j true || decide (j = i)) := by
                intro j hj
                have := hset j
                rw [Array.getD_eq_getD_getElem?, Array.getD_eq_getD_getElem?, Array.getElem?_eq_getElem (by simp; omega), Array.getElem?_eq_getElem (by omega)] at this ⊢
                exact this
              intro l
              induction l with
              | nil => intro _ h; simp at h
              | cons x l ihl =>
                intro hnd hmem hlt
                simp only [List.nodup_cons] at hnd
                have hx := hlt x (by simp)
                by_cases hxi : x = i
                · subst hxi
                  have hsame : (l.filter fun j => !(listed.setIfInBounds x true).getD j true) = l.filter fun j => !listed.getD j true := by
                    apply List.filter_congr
                    intro j hj
                    have hjx : j ≠ x := fun e => hnd.1 (e ▸ hj)
                    rw [gd j (hlt j (by simp [hj]))]; simp [hjx]
                  rw [List.filter_cons, List.filter_cons, hsame, gd x hx]
                  simp [hnl]
                · have hmem' : i ∈ l := by
                    rcases List.mem_cons.1 hmem with e | h
                    · exact absurd e.symm hxi
                    · exact h
                  have := ihl hnd.2 hmem' fun y hy => hlt y (by simp [hy])
                  rw [List.filter_cons, List.filter_cons, gd x hx]
                  simp only [hxi, decide_false, Bool.or_false]
                  split <;> (try simp only [List.length_cons]) <;> omega
            have := hcount (List.range ops.size) List.nodup_range (by simpa using hiN) (by simp)
            omega
          · intro k o' ho' hk' e he
            rw [hset] at hk' ⊢
            simp only [Bool.or_eq_true, decide_eq_true_eq] at hk' ⊢
            rcases hk' with hk' | rfl
            · exact .inl (hcl k o' ho' hk' e he)
            · rw [ho] at ho'; cases ho'; exact .inl (hedge e he)
          · rw [hsetT, tmS_ins aops st v hSi hiN]
            · have := put_sound (s := ⟨tmS aops st v (fun i => listed.getD i false) ops.size, [], 0⟩) (VRels.mono hle _ h1) hcv o.dst
              simp only [dstOf, hao, Option.bind_some, hdst]
              cases hd : o.dst with
              | none => rw [hd] at this; exact this
              | some d => rw [hd] at this; exact this
            · intro j hij hj hlj d hd hdj
              obtain ⟨y, hy, hyd⟩ := dstj j d hj hdj
              simp only [dstOf, hao, Option.bind_some] at hd
              exact (other j y hj hy (.inr ⟨hij, hlj⟩)).2.1 d hd hyd
          · refine hH.sub (fun e he => ?_) fun t ht => ?_
            · have he : e ∈ hS st f (fun j => (listed.setIfInBounds i true).getD j false) e.grp ops.size := he
              rw [hsetT] at he
              by_cases hw : wG (f i) = some e.grp
              · have e1 : hS st f (fun j => listed.getD j false || decide (j = i)) e.grp ops.size = hS st f (fun j => listed.getD j false || decide (j = i)) e.grp (i + 1) := hS_from st f (by omega) fun j h6 h7 h8 h9 => by
                  have hji : j ≠ i := by omega
                  simp only [hji, decide_false, Bool.or_false] at h8
                  obtain ⟨y, hy⟩ := opj j h7
                  exact (other j y h7 hy (.inr ⟨by omega, h8⟩)).2.2.2 _ hw h9
                have e2 : hS st f (fun j => listed.getD j false || decide (j = i)) e.grp i = hS st f (fun j => listed.getD j false) e.grp i := hS_get st f fun j hj hne => by
                  have hji : j ≠ i := by omega
                  simp [hji] at hne
                have e3 : hS st f (fun j => listed.getD j false) e.grp ops.size = hS st f (fun j => listed.getD j false) e.grp i := hS_from st f (by omega) fun j h6 h7 h8 h9 => by
                  have hji : j ≠ i := fun x => by subst x; rw [hSi] at h8; cases h8
                  obtain ⟨y, hy⟩ := opj j h7
                  exact (other j y h7 hy (.inr ⟨by omega, h8⟩)).2.2.2 _ hw h9
                rw [e1] at he
                simp only [hS, decide_true, Bool.or_true, if_true, e2, ← e3] at he
                cases hf : f i with
                | no => rw [hf] at hw; cases hw
                | new x =>
                  rw [hf] at he hw
                  simp only [wG, Option.some.injEq] at hw
                  simp only [actG, hw, if_true, List.mem_singleton] at he
                  exact .inr he
                | set t g κ =>
                  rw [hf] at he hw
                  simp only [wG, Option.some.injEq] at hw
                  simp only [actG, hw, if_true, List.mem_singleton] at he
                  right; rw [he, hw]
                | ext t g x =>
                  rw [hf] at he hw
                  simp only [wG, Option.some.injEq] at hw
                  simp only [actG, hw, if_true, List.mem_append, List.mem_filter, List.mem_singleton] at he
                  rcases he with ⟨he, hid⟩ | he
                  · exact .inl ⟨he, .inr (by simpa using hid)⟩
                  · exact .inr he
              · have e1 : hS st f (fun j => listed.getD j false || decide (j = i)) e.grp ops.size = hS st f (fun j => listed.getD j false) e.grp ops.size := hS_get st f fun j hj hne => by
                  by_cases hji : j = i
                  · subst hji; exact hw
                  · simp [hji] at hne
                rw [e1] at he
                cases hf : f i with
                | no => exact he
                | new x => exact .inl he
                | set t g κ => rw [hf] at hw; exact .inl ⟨he, fun x => hw (by simp [wG, x])⟩
                | ext t g x => rw [hf] at hw; exact .inl ⟨he, .inl fun x => hw (by simp [wG, x])⟩
            · refine ⟨⟨ht.1, fun j hj hlj hcj => ht.2 j hj ?_ hcj⟩, fun hci => ht.2 i hiN ?_ hci⟩
              · show (listed.setIfInBounds i true).getD j false = true
                rw [hset]; simp [hlj]
              · show (listed.setIfInBounds i true).getD i false = true
                rw [hset]; simp
  -- at the start nothing has run
  have hrep : ∀ j d, (Array.replicate ops.size false).getD j d = if j < ops.size then false else d := by
    intro j d
    rw [Array.getD_eq_getD_getElem?, Array.getElem?_replicate]
    split <;> rfl
  have hS0 : (fun j => (Array.replicate ops.size false).getD j false) = fun _ => false := by
    funext j; rw [hrep]; split <;> rfl
  have htm0 : ∀ k, tmS aops st v (fun _ => false) k = (st 0).tm := by
    intro k
    induction k with
    | zero => rfl
    | succ k ih => simp only [tmS, Bool.false_eq_true, if_false, ih]
  have hh0 : ∀ g k, hS st f (fun _ => false) g k = (st 0).hp.filter (·.grp = g) := by
    intro g k
    induction k with
    | zero => rfl
    | succ k ih => simp only [hS, Bool.false_eq_true, if_false, ih]
  refine main ops.size (Array.replicate ops.size false) G a w (by simp) ?_ ?_ ?_ ?_ h.df h.le h.kp
  · have : ((List.range ops.size).filter fun i => !(Array.replicate ops.size false).getD i true) = List.range ops.size := by
      rw [List.filter_eq_self]
      intro i hi
      simp only [List.mem_range] at hi
      rw [hrep, if_pos hi]; rfl
    rw [this, List.length_range]
  · intro k o ho hk
    rw [hrep] at hk
    split at hk <;> cases hk
  · rw [hS0, htm0]; exact h.tm
  · rw [hS0]
    refine h.hp.sub (fun e he => ?_) fun t ht => ht.1
    have he : e ∈ hS st f (fun _ => false) e.grp ops.size := he
    rw [hh0] at he
    exact (List.mem_filter.1 he).1

end
end Eng

namespace Eng
open Go Go.RowKit
set_option linter.unusedSimpArgs false
set_option linter.unusedVariables false

def stAt (cs : Ctx) : List AOper → AState → Nat → AState
  | [], s, _ => s
  | _ :: _, s, 0 => s
  | o :: os, s, k + 1 => match step cs o s with
    | some s' => stAt cs os s' k
    | none => s

theorem stAt_zero (cs : Ctx) (l : List AOper) (s : AState) : stAt cs l s 0 = s := by cases l <;> rfl

theorem stAt_run {cs : Ctx} : ∀ {l : List AOper} {s s' : AState}, run cs l s = some s' → stAt cs l s l.length = s' ∧ ∀ k o, l[k]? = some o → step cs o (stAt cs l s k) = some (stAt cs l s (k + 1))
  | [], s, s', h => by
    simp only [run, Option.some.injEq] at h
    exact ⟨h, fun k o hk => by simp at hk⟩
  | o :: os, s, s', h => by
    simp only [run] at h
    cases hst : step cs o s with
    | none => rw [hst] at h; cases h
    | some s1 =>
      rw [hst] at h
      simp only [obind, Option.bind_some] at h
      obtain ⟨h1, h2⟩ := stAt_run h
      refine ⟨by simp only [List.length_cons, stAt, hst]; exact h1, fun k o' hk => ?_⟩
      cases k with
      | zero =>
        simp only [List.getElem?_cons_zero, Option.some.injEq] at hk
        subst hk
        simp only [stAt, hst, stAt_zero]
      | succ k =>
        simp only [List.getElem?_cons_succ] at hk
        have := h2 k o' hk
        simp only [stAt, hst]
        exact this

theorem runL_run {cs : Ctx} : ∀ {l : List AOper} {s s' : AState} {log log' : List FP}, runL cs l s log = some (s', log') →
    run cs l s = some s' ∧ (∀ k o, l[k]? = some o → log'.getD (log.length + k) ([], none) = fpO o (stAt cs l s k)) ∧ ∀ k, k < log.length → log'.getD k ([], none) = log.getD k ([], none)
  | [], s, s', log, log', h => by
    simp only [runL, Option.some.injEq, Prod.mk.injEq] at h
    obtain ⟨rfl, rfl⟩ := h
    exact ⟨rfl, fun k o hk => by simp at hk, fun _ _ => rfl⟩
  | o :: os, s, s', log, log', h => by
    simp only [runL, Option.bind_eq_some_iff] at h
    obtain ⟨s1, hst, h⟩ := h
    obtain ⟨h1, h2, h3⟩ := runL_run h
    refine ⟨by simp only [run, hst, obind, Option.bind_some]; exact h1, fun k o' hk => ?_, fun k hk => ?_⟩
    · cases k with
      | zero =>
        simp only [List.getElem?_cons_zero, Option.some.injEq] at hk
        subst hk
        have := h3 log.length (by simp)
        simpa [stAt] using this
      | succ k =>
        simp only [List.getElem?_cons_succ] at hk
        have := h2 k o' hk
        simp only [List.length_append, List.length_singleton] at this
        simp only [stAt, hst]
        rw [← this]; congr 1; omega
    · have := h3 k (by simp; omega)
      rw [this, List.getD_eq_getElem?_getD, List.getElem?_append_left hk, ← List.getD_eq_getElem?_getD]

theorem compL_get {P : Program} {all : List Oper} : ∀ {l : List Oper} {r : List AOper}, compL P all l = some r → r.length = l.length ∧ ∀ (k : Nat) o, l[k]? = some o → ∃ ao, r[k]? = some ao ∧ compO P all o = some ao
  | [], r, h => by
    simp only [compL, Option.some.injEq] at h
    subst h
    exact ⟨rfl, fun k o hk => by simp at hk⟩
  | o :: os, r, h => by
    simp only [compL, Option.bind_eq_some_iff, Option.map_eq_some_iff] at h
    obtain ⟨ao, h1, r', h2, rfl⟩ := h
    obtain ⟨h3, h4⟩ := compL_get h2
    refine ⟨by simp [h3], fun k o' hk => ?_⟩
    cases k with
    | zero =>
      simp only [List.getElem?_cons_zero, Option.some.injEq] at hk
      subst hk
      exact ⟨ao, rfl, h1⟩
    | succ k =>
      simp only [List.getElem?_cons_succ] at hk ⊢
      exact h4 k o' hk

theorem compO_dst {P : Program} {all : List Oper} {o : Oper} {ao : AOper} (h : compO P all o = some ao) : ao.dst = o.dst := by
  simp only [compO, Option.bind_eq_some_iff, Option.map_eq_some_iff] at h
  obtain ⟨⟨op, xs⟩, _, ys, _, g, _, rfl⟩ := h
  rfl

/-- how an operation came out -/
def outAt (cs : Ctx) (l : List AOper) (s : AState) (k : Nat) : AV × Eff × Bool :=
  ((l[k]?).bind fun o => outOp cs o (stAt cs l s k)).getD (.any, .no, false)

theorem pairsOf_mem {ms : List Nat} {aops : List AOper} {i j : Nat} {x y : AOper} (hij : i < j) (hx : aops[i]? = some x) (hy : aops[j]? = some y) (hb : (ms.getD j 0).testBit i = false) (hr : relevant x.op y.op = true) : (i, j) ∈ pairsOf ms aops := by
  have hj : j < aops.length := (List.getElem?_eq_some_iff.1 hy).1
  simp only [pairsOf, List.mem_flatMap, List.mem_range, List.mem_filterMap]
  exact ⟨j, hj, i, hij, by simp only [hb, hx, hy, hr, Bool.false_eq_true, if_false, if_true]⟩

section
variable {P : Program} {E : Env} {r : Option Nat} {n : Nat} {Q : Exit → Act → World → Prop} {cs : Ctx} {G : Ghost} {a : Act} {w : World} {s s' : AState}

theorem region_seq (hcs : Good P cs) {id : Nat} {ops : Array Oper} {aops : List AOper} (hc : compL P ops.toList ops.toList = some aops) (hs : run cs aops s = some s') (h : SRel E G s a w)
    (hQ : ∀ (G' : Ghost) (a' : Act) (w' : World), SRel E G' s' a' w' → Q .normal a' w') : (Code.region id ops false).wpIn (FW r) n P Q a w := by
  refine wpIn_region ?_
  have := run_sound (r := r) (n := n) (Q := Q) (k := 0) hcs hc (fun i => by rw [Nat.zero_add, Array.getElem?_toList]) hs h hQ
  rwa [Array.length_toList, ← List.range_eq_range'] at this

theorem region_drawn (hcs : Good P cs) (hm : P.follows .mixedOrders = true) {id : Nat} {ops : Array Oper} {aops : List AOper} {pairs : List (Nat × Nat)} (hc : compL P ops.toList ops.toList = some aops)
    (hok : okD ops.toList (masks ops.toList []) aops = true) (hp : pairsOf (masks ops.toList []) aops = pairs) (hs : runD cs aops pairs s = some s') (h : SRel E G s a w)
    (hQ : ∀ (G' : Ghost) (a' : Act) (w' : World), SRel E G' s' a' w' → Q .normal a' w') : (Code.region id ops true).wpIn (FW r) n P Q a w := by
  refine wpIn_region_any hm ?_
  obtain ⟨hl, hc⟩ := compL_get hc
  have hl : aops.length = ops.size := by rw [hl, Array.length_toList]
  have hrun : run cs aops s = some s' := by
    unfold runD at hs
    split at hs
    · exact hs
    · simp only [Option.bind_eq_some_iff] at hs
      obtain ⟨⟨s1, log⟩, h1, h2⟩ := hs
      split at h2
      · cases h2; exact (runL_run h1).1
      · cases h2
  have hindep : ∀ (i j : Nat) (x y : AOper), i < j → aops[i]? = some x → aops[j]? = some y → (i, j) ∈ pairs → indep (fpO x (stAt cs aops s i)) (fpO y (stAt cs aops s j)) = true := by
    intro i j x y hij hx hy hm
    unfold runD at hs
    split at hs
    · simp at hm
    · simp only [Option.bind_eq_some_iff] at hs
      obtain ⟨⟨s1, log⟩, h1, h2⟩ := hs
      split at h2
      · rename_i hall
        have := List.all_eq_true.1 hall (i, j) hm
        obtain ⟨_, h3, _⟩ := runL_run h1
        have e1 := h3 i x hx
        have e2 := h3 j y hy
        simp only [List.length_nil, Nat.zero_add] at e1 e2
        simpa only [e1, e2] using this
      · cases h2
  obtain ⟨hend, hstep⟩ := stAt_run hrun
  simp only [okD, List.all_eq_true, List.mem_range, Bool.and_eq_true, Array.length_toList] at hok
  have hout : ∀ (k : Nat) (ao : AOper), aops[k]? = some ao → outOp cs ao (stAt cs aops s k) = some ((outAt cs aops s k).1, (outAt cs aops s k).2.1, (outAt cs aops s k).2.2) ∧
      stAt cs aops s (k + 1) = after (stAt cs aops s k) ao.dst (outAt cs aops s k).1 (outAt cs aops s k).2.1 (outAt cs aops s k).2.2 := by
    intro k ao hk
    obtain ⟨v, f, c, h1, h2⟩ := step_out (hstep k ao hk)
    have : outAt cs aops s k = (v, f, c) := by simp [outAt, hk, h1]
    rw [this]
    exact ⟨h1, h2⟩
  refine drawn_sound (E := E) (G := G) hcs (ms := masks ops.toList []) rfl (fun k o hk => ?_) hl (fun j o hj e he => ?_) (stAt cs aops s) (fun k => (outAt cs aops s k).1) (fun k => (outAt cs aops s k).2.1) (fun k => (outAt cs aops s k).2.2) hout (fun i j x y hij hx hy hb => ?_) ?_ (by rw [← hl, hend]; exact hQ)
  · obtain ⟨ao, h1, h2⟩ := hc k o (by rw [Array.getElem?_toList]; exact hk)
    exact ⟨ao, h1, h2, compO_dst h2⟩
  · have hjs : j < ops.size := (Array.getElem?_eq_some_iff.1 hj).1
    have := (hok j hjs).1
    rw [Array.getElem?_toList, hj] at this
    simp only [List.all_eq_true, decide_eq_true_eq] at this
    exact this e he
  · have hj : j < ops.size := by rw [← hl]; exact (List.getElem?_eq_some_iff.1 hy).1
    have := (hok j hj).2 i hij
    rw [hb, hx, hy] at this
    refine ⟨by simpa using this, ?_⟩
    cases hr : relevant x.op y.op with
    | false => exact fp_indep hr
    | true => exact hindep i j x y hij hx hy (hp ▸ pairsOf_mem hij hx hy hb hr)
  · rw [stAt_zero]
    exact ⟨h.tm, h.hp.world (fun _ _ => rfl) (Nat.le_refl _), h.df, h.le, h.kp.trans ⟨rfl, rfl, rfl, Nat.le_refl _⟩⟩

end
end Eng
