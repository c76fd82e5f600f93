import Derived.Test.YtabkbhpeeefmgaaEngS9
import Derived.Test.YtabkbhpeeefmgaaW921
import Derived.Test.YtabkbhpeeefmgaaEngSH
open Go Go.Proofs Eng
set_option maxRecDepth 100000
set_option linter.unusedSimpArgs false
set_option linter.unusedVariables false

namespace Wa
structure ToI where
  prev : L
  pA : AV
  T : List TB
  oA : AV
  H : List HEnt
  N : Nat
structure ToOK (m : Nat) (q : ToI) : Prop where
  uq : UQ q.N q.H
  out : OutOK q.H q.T q.oA
  trk : TrkOK q.H q.T
  nr : NR q.T.length q.prev
  le : q.T.length ≤ m ∧ ∀ x ∈ q.T, x.2.2.length ≤ m
def pvS (l : List Vs) (t : Nat) : Vs := if t = 0 then [] else (l[t - 1]?).getD []
def toV (l : List Vs) (n : Int) : AV := if soE l n = 0 then .tup [.vs ((tkV n l).map eTr), I 0] else .tup [.vs [], I (soE l n)]
def trs (T : List TB) : List Tr := T.map fun x => x.2.2
def S_to (l : List Vs) (n : Int) (t : Nat) (q : ToI) : AState := ⟨[.vs (l.map eVs), I n, .any, .any, .any, .any, .any, q.oA, q.pA, .any, .any, .any, .any, .any, .any, .any, .any, .any, .any, .any, .any, .any, .any, .any, .any, .any, .any, .vs (l.map eVs), I l.length, I t, .any, .any, .any, .any, .any, .any, .any, .any, .any, .any, .any, .any, .any, .any, .any, .any, .any, .any, .any, .any, .any, .any, .any, .any, .any, .any, .any, .any, .any, .any, .any, .any, .any, .any, .any, .any, .any, .any, .any, .any, .any, .any, .any, .any, .any, .any, .any, .any, .any, .any, .any, .any, .any, .any, .any, .any, .any, .any, .any, .any, .any, .any, .any, .any, .any, .any, .any, .any, .any, .any, .any, .any, .any, .any], q.H, q.N⟩
def S_tz (l : List Vs) (tr : List Tr) : AState := ⟨[.any, .any, .any, .any, .any, .any, .any, gA 0 1 (tr.map eTr), .any, .any, .any, .any, .any, .any, .any, .any, .any, .any, .any, .any, .any, .any, .any, .any, .any, .any, .any, .any, I l.length, I l.length, .any, .any, .any, .any, .any, .any, .any, .any, .any, .any, .any, .any, .any, .any, .any, .any, .any, .any, .any, .any, .any, .any, .any, .any, .any, .any, .any, .any, .any, .any, .any, .any, .any, .any, .any, .any, .any, .any, .any, .any, .any, .any, .any, .any, .any, .any, .any, .any, .any, .any, .any, .any, .any, .any, .any, .any, .any, .any, .any, .any, .any, .any, .any, .any, .any, .any, .any, .any, .any, .any, .any, .any, .any, .any], gH 0 35 1 (tr.map eTr), 1⟩
def S_ty (l : List Vs) (n : Int) (a : Nat × ToI) : AState := if a.1 < l.length then S_to l n a.1 a.2 else S_tz l (trs a.2.T)
structure ToJ (l : List Vs) (n : Int) (a : Nat × ToI) : Prop where
  t : a.1 ≤ l.length
  ok : ToOK (3 * a.1) a.2
  f : tkG n a.1 (pvS l a.1) a.2.prev (trs a.2.T) (l.drop a.1) = tkV n l
  p : 0 < a.1 → a.2.prev.length = (pvS l a.1).length ∧ NowOK a.2.H a.2.prev a.2.pA
  z : a.2.T = [] → a.2.oA = .nilslice
theorem liV_in {a b : Vs} {n : Int} (h : olE a b n = 0) : ∀ k ∈ liV a b n, k = -1 ∨ (0 ≤ k ∧ k < (b.length : Int)) := fun k hk => by
  unfold liV at hk
  split at hk
  · simp at hk
  · obtain ⟨c, hc, rfl⟩ := List.mem_map.1 hk
    have hc := List.mem_of_mem_take hc
    have h0 : 0 ≤ c := by
      rename_i hn
      have hin : (chV (lkL a b n)).1.headD [] ∈ (chV (lkL a b n)).1 := by
        have := ch_ne (m := lkL a b n)
        cases hq : (chV (lkL a b n)).1 with
        | nil => exact absurd hq this
        | cons x r => simp
      rw [chV_fil] at hin
      have h1 := perm_mem (N := (lkL a b n).length) (lkL a b n).length [] (by simp) (by simp) _ (List.mem_filter.1 hin).1
      rw [← chV_fil] at h1
      exact (h1.2 c hc).1
    unfold liG
    split
    · exact .inl rfl
    · exact .inr ⟨h0, by omega⟩
theorem liV_len2 {a b : Vs} {n : Int} (h : olE a b n = 0) : (liV a b n).length = a.length := by
  unfold liV
  split
  · rename_i h0; rw [h0]; rfl
  · rename_i h0
    have hb := olE_z h
    have hma := lkL_ok hb (by omega)
    have hin : (chV (lkL a b n)).1.headD [] ∈ (chV (lkL a b n)).1 := by
      have := ch_ne (m := lkL a b n)
      cases hq : (chV (lkL a b n)).1 with
      | nil => exact absurd hq this
      | cons x r => simp
    rw [chV_fil] at hin
    have h1 := perm_mem (N := (lkL a b n).length) (lkL a b n).length [] (by simp) (by simp) _ (List.mem_filter.1 hin).1
    rw [← chV_fil] at h1
    have h2 : (lkL a b n).length = a.length + b.length := by rw [lkL, lkM_len]
    rw [List.length_map, List.length_take, h1.1]
    omega
theorem lkN_len : ∀ (r now prev : L) (i : Nat), (lkN now prev i r).length = now.length
  | [], _, _, _ => rfl
  | k :: r, now, prev, i => by
    rw [lkN, lkN_len r]
    split <;> simp
def S_tl (l : List Vs) (n : Int) (t : Nat) (q : ToI) (s : Vs) (lk : L) (M : Nat) (p : Nat × L × Nat) : AState := ⟨[.vs (l.map eVs), I n, .any, .any, .any, .any, .any, q.oA, q.pA, I t, .vs (s.map eVo), .slice M 1 0 s.length, .any, .any, .any, .any, .any, .any, .any, .any, .any, .any, .any, .any, .any, .any, .any, .vs (l.map eVs), I l.length, I t, .any, .any, .any, .any, .any, .any, .any, .any, .any, .any, .any, .any, .any, .any, .any, .any, .any, .vs (lk.map eI), I lk.length, I p.1, .any, .any, .any, .any, .any, .any, .any, .any, .any, .any, .any, .any, .any, .any, .any, .any, .any, .any, .any, .any, .any, .any, .any, .any, .any, .any, .any, .any, .any, .any, .any, .any, .any, .any, .any, .any, .any, .any, .any, .any, .any, .any, .any, .any, .any, .any, .any, .any, .any, .any, .any, .any, .any, .any], ⟨M, M, .rows 3 1 (p.2.1.map eI)⟩ :: q.H, p.2.2⟩
def S_tm (l : List Vs) (n : Int) (t : Nat) (q : ToI) (s : Vs) (M : Nat) (now : L) (X : Nat) : AState := ⟨[.vs (l.map eVs), I n, .any, .any, .any, .any, .any, q.oA, .any, I t, .vs (s.map eVo), .slice M 1 0 s.length, .any, .any, .any, .any, .any, .any, .any, .any, .any, .any, .any, .any, .any, .any, .any, .vs (l.map eVs), I l.length, I t, .any, .any, .any, .any, .any, .any, .any, .any, .any, .any, .any, .any, .any, .any, .any, .any, .any, .any, .any, .any, .any, .any, .any, .any, .any, .any, .any, .any, .any, .any, .any, .any, .any, .any, .any, .any, .any, .any, .any, .any, .any, .any, .any, .any, .any, .any, .any, .any, .any, .any, .any, .any, .any, .any, .any, .any, .any, .any, .any, .any, .any, .any, .any, .any, .any, .any, .any, .any, .any, .any, .any, .any, .any, .any], ⟨M, M, .rows 3 1 (now.map eI)⟩ :: q.H, X⟩
theorem NR.lk {n : Nat} : ∀ {r now prev : L} {i : Nat}, i + r.length ≤ prev.length → NR n now → NR n prev → NR n (lkN now prev i r)
  | [], _, _, _, _, h, _ => h
  | k :: r, now, prev, i, hl, h, h2 => by
    rw [List.length_cons] at hl
    rw [lkN]
    refine NR.lk (by omega) ?_ h2
    split
    · refine h.set ?_
      have hi : i < prev.length := by omega
      rw [List.getElem?_eq_getElem hi]
      exact h2 _ (List.getElem_mem hi)
    · exact h
theorem now_nr {n : Int} {t m : Nat} {pv s : Vs} {prev : L} (h : NR m prev) (hl : t ≠ 0 → (liV pv s n).length ≤ prev.length) : NR m (tkNow n t pv s prev) := by
  unfold tkNow
  split
  · exact NR.rep _ _
  · rename_i h0
    exact NR.lk (by have := hl h0; omega) (NR.rep _ _) h
theorem now_len (n : Int) (t : Nat) (pv s : Vs) (prev : L) : (tkNow n t pv s prev).length = s.length := by
  unfold tkNow
  split
  · simp
  · rw [lkN_len]; simp
theorem putH_new {H : List HEnt} {e : HEnt} (h : ∀ x ∈ H, x.grp ≠ e.grp) : putH H e = e :: H := by
  unfold putH
  rw [List.filter_eq_self.2 fun x hx => by simp [h x hx]]
theorem to_ti {t : Nat} {q : ToI} (h : ToOK (3 * t) q) {X : Nat} (hX : q.N < X) {s : Vs} {now : L} (hn : NR q.T.length now) (hl : now.length = s.length) :
    TkOK (3 * t + 0) ⟨0, now, q.T, q.oA, .slice q.N 1 0 s.length, ⟨q.N, q.N, .rows 3 1 (now.map eI)⟩ :: q.H, X⟩ := by
  have hp := putH_new (H := q.H) (e := ⟨q.N, q.N, .rows 3 1 (now.map eI)⟩) fun x hx => by have := (h.uq.l x hx).2; simp only; omega
  refine ⟨?_, ?_, ⟨fun x hx => List.mem_cons_of_mem _ (h.trk.1 x hx), h.trk.2⟩, ⟨q.N, q.N, by rw [hl], by simp⟩, hn, h.le⟩
  · have := h.uq.new (M := X) (e := ⟨q.N, q.N, .rows 3 1 (now.map eI)⟩) (Nat.le_refl _) hX hX
    rwa [hp] at this
  · rcases h.out with h1 | ⟨id, g, h1, h2⟩
    · exact .inl h1
    · exact .inr ⟨id, g, h1, List.mem_cons_of_mem _ h2⟩
theorem UQ.getB {N : Nat} {H : List HEnt} (h : UQ N H) {t g : Nat} {k0 K : ABlk} (he : ⟨t, g, k0⟩ ∈ H) : getE (Eng.setB H t g K) t = some ⟨t, g, K⟩ := by
  have hm := mem_setB2 (k := K) he
  refine ge_mem (H := Eng.setB H t g K) (e := ⟨t, g, K⟩) (fun a ha b hb hab => ?_) hm
  have key : ∀ a ∈ Eng.setB H t g K, ∀ b ∈ Eng.setB H t g K, a.id = b.id → (a ∈ H ∧ a.grp ≠ g) → a = b := fun a ha b hb hab hc => by
    rcases mem_setB hb with hd | rfl
    · exact h.u a hc.1 b hd.1 (.inl hab)
    · exact absurd (by have := h.u a hc.1 _ he (.inl hab); rw [this]) hc.2
  rcases mem_setB ha with hc | rfl
  · exact key a ha b hb hab hc
  · rcases mem_setB hb with hd | rfl
    · exact (key b hb _ ha hab.symm hd).symm
    · rfl
theorem UQ.setB {N : Nat} {H : List HEnt} (h : UQ N H) {t g : Nat} {k0 K : ABlk} (he : ⟨t, g, k0⟩ ∈ H) : UQ N (Eng.setB H t g K) := by
  have hl := h.l _ he
  simp only at hl
  refine ⟨fun a ha b hb hab => ?_, fun a ha => ?_⟩
  · rcases mem_setB ha with hc | rfl <;> rcases mem_setB hb with hd | rfl
    · exact h.u a hc.1 b hd.1 hab
    · rcases hab with e | e
      · exact absurd (by have := h.u a hc.1 _ he (.inl e); rw [this]) hc.2
      · exact absurd e hc.2
    · rcases hab with e | e
      · exact absurd (by have := h.u b hd.1 _ he (.inl e.symm); rw [this]) hd.2
      · exact absurd e.symm hd.2
    · rfl
  · rcases mem_setB ha with hc | rfl
    · exact h.l a hc.1
    · exact hl
structure TiJ (t : Nat) (s : Vs) (fin : List Tr × L) (q : TkI) : Prop where
  ok : TkOK (3 * t + q.k) q
  k : q.k ≤ s.length
  n : q.now.length = s.length
  f : (List.range' q.k (s.length - q.k)).foldl (tkS t) (trs q.T, q.now) = fin
  z : q.T = [] → q.oA = .nilslice
theorem wk_ok_of {k : Wk} {hp : List HEnt} (h : WkOk k hp) : k.ok (idg hp) = true := by
  unfold Wk.ok idg
  rw [Bool.and_eq_true, Bool.and_eq_true, Bool.and_eq_true]
  refine ⟨⟨⟨decide_eq_true h.bn, List.all_eq_true.2 fun p hp => ?_⟩, h.nd⟩, List.all_eq_true.2 fun p hp => ?_⟩
  · have := h.rg p.1 p.2 hp
    simp [this]
  · obtain ⟨e, he, rfl⟩ := List.mem_map.1 hp
    simp only
    cases hk : k.isK e.id with
    | false => rfl
    | true =>
      simp only [Bool.not_true, Bool.false_or, Bool.and_eq_true]
      refine ⟨?_, List.all_eq_true.2 fun q hq => ?_⟩
      · by_cases hb : e.id < k.b
        · have := h.gb e he hb
          simp [hb, this]
        · simp [hb]
      · obtain ⟨e', he', rfl⟩ := List.mem_map.1 hq
        simp only [Bool.and_eq_true]
        constructor
        · cases hf : k.isF e'.id with
          | false => rfl
          | true =>
            have := h.fz e he e' he' hk hf
            simp [this]
        · cases hk' : k.isK e'.id with
          | false => rfl
          | true =>
            by_cases hg : e'.grp = e.grp
            · have := h.kp e he e' he' hk hk' hg
              rcases this with h1 | h1
              · simp [h1]
              · simp [h1]
            · simp [hg]
theorem hp_frz {k : Wk} {φ : Nat → Fate} (hb : k.b = 0) : ∀ {H : List HEnt}, (∀ e ∈ H, memN k.frz e.id = true) → k.hp φ H = []
  | [], _ => rfl
  | e :: r, h => by
    rw [Wk.hp, if_neg (by omega), if_pos (h e (by simp))]
    exact hp_frz hb fun x hx => h x (by simp [hx])
theorem tk_frz {m : Nat} {q : ToI} (h : ToOK m q) (hz : q.T = [] → q.oA = .nilslice) (l : List Vs) : Wkn 0 ⟨[.any, .any, .any, .any, .any, .any, .any, q.oA, .any, .any, .any, .any, .any, .any, .any, .any, .any, .any, .any, .any, .any, .any, .any, .any, .any, .any, .any, .any, I l.length, I l.length, .any, .any, .any, .any, .any, .any, .any, .any, .any, .any, .any, .any, .any, .any, .any, .any, .any, .any, .any, .any, .any, .any, .any, .any, .any, .any, .any, .any, .any, .any, .any, .any, .any, .any, .any, .any, .any, .any, .any, .any, .any, .any, .any, .any, .any, .any, .any, .any, .any, .any, .any, .any, .any, .any, .any, .any, .any, .any, .any, .any, .any, .any, .any, .any, .any, .any, .any, .any, .any, .any, .any, .any, .any, .any], q.H, q.N⟩ (S_tz l (trs q.T)) := by
  rcases h.out with ⟨hT, hoA⟩ | ⟨idO, gO, hoA, ho⟩
  · rw [hoA, hT]
    exact Wkn.trans (Wkn.sub (hp2 := []) (by simp)) (Wkn.to ⟨0, [], [], 1, [7, 28, 29]⟩ rfl rfl (by simp [Wk.st, keepT, memN, Wk.fate, Wk.fate0, assoc, getE, Wk.hp, ABlk.sub, sub1, subs, S_tz, gA, gH, trs]))
  · have hTn : q.T ≠ [] := fun e => by rw [hz e] at hoA; cases hoA
    have hsub : ∀ e ∈ (⟨idO, gO, .rows 35 1 (q.T.map eTB)⟩ : HEnt) :: q.T.map bTB, e ∈ q.H := fun e he => by
      rcases List.mem_cons.1 he with rfl | he
      · exact ho
      · obtain ⟨x, hx, rfl⟩ := List.mem_map.1 he
        exact h.trk.1 x hx
    have hnf : memN (q.T.map fun x => x.1) idO = false := Bool.eq_false_iff.2 fun e => by
      obtain ⟨x, hx, hxe⟩ := List.mem_map.1 (memN_iff.1 e)
      have := h.uq.u _ (h.trk.1 x hx) _ ho (.inl hxe)
      simp at this
    have hin : ∀ x ∈ q.T, memN (q.T.map fun x => x.1) x.1 = true := fun x hx => memN_iff.2 (List.mem_map.2 ⟨x, hx, rfl⟩)
    have huq : ∀ e ∈ (⟨idO, gO, .rows 35 1 (q.T.map eTB)⟩ : HEnt) :: q.T.map bTB, ∀ e' ∈ (⟨idO, gO, .rows 35 1 (q.T.map eTB)⟩ : HEnt) :: q.T.map bTB, e.id = e'.id ∨ e.grp = e'.grp → e = e' := fun e he e' he' => h.uq.u e (hsub e he) e' (hsub e' he')
    refine Wkn.trans (Wkn.sub hsub) (Wkn.to ⟨0, [(idO, 0)], q.T.map fun x => x.1, 1, [7, 28, 29]⟩ rfl (wk_ok_of ⟨Nat.zero_le _, fun t u htu => ?_, rfl, fun e _ h0 => absurd h0 (Nat.not_lt_zero _), fun e he e' he' hk hf hg => ?_, fun e he e' he' _ _ hg => .inr (by rw [huq e' he' e he (.inr hg)])⟩) ?_)
    · simp only [List.mem_singleton, Prod.mk.injEq] at htu
      obtain ⟨rfl, rfl⟩ := htu
      exact ⟨Nat.zero_le _, Nat.zero_le _, Nat.zero_lt_one⟩
    · have := huq e' he' e he (.inr hg)
      subst this
      unfold Wk.isF at hf
      unfold Wk.isK at hk
      simp at hf hk
      rw [hf] at hk
      simp at hk
    · have hφ0 : (⟨0, [(idO, 0)], q.T.map fun x => x.1, 1, [7, 28, 29]⟩ : Wk).fate (⟨idO, gO, .rows 35 1 (q.T.map eTB)⟩ :: q.T.map bTB) idO = .as 0 := by
        simp [Wk.fate, hnf, assoc]
      have hφx : ∀ x ∈ q.T, (⟨0, [(idO, 0)], q.T.map fun x => x.1, 1, [7, 28, 29]⟩ : Wk).fate (⟨idO, gO, .rows 35 1 (q.T.map eTB)⟩ :: q.T.map bTB) x.1 = .froz 2 (x.2.2.map eP2) := fun x hx => by
        have hg : getE ((⟨idO, gO, .rows 35 1 (q.T.map eTB)⟩ : HEnt) :: q.T.map bTB) x.1 = some (bTB x) := ge_mem (e := bTB x) (fun a ha b hb hab => huq a ha b hb (.inl hab)) (List.mem_cons_of_mem _ (List.mem_map.2 ⟨x, hx, rfl⟩))
        simp only [Wk.fate, Nat.not_lt_zero, if_false, hin x hx, if_true, hg, bTB, free_P2]
      generalize hφ : (⟨0, [(idO, 0)], q.T.map fun x => x.1, 1, [7, 28, 29]⟩ : Wk).fate (⟨idO, gO, .rows 35 1 (q.T.map eTB)⟩ :: q.T.map bTB) = φ at *
      have hrows : subs φ (q.T.map eTB) = (trs q.T).map eTr := by
        have key : ∀ T : List TB, (∀ x ∈ T, φ x.1 = .froz 2 (x.2.2.map eP2)) → subs φ (T.map eTB) = (trs T).map eTr := fun T => by
          induction T with
          | nil => intro _; rfl
          | cons x T ih =>
            intro hT
            rw [List.map_cons, subs, ih fun y hy => hT y (by simp [hy])]
            have : sub1 φ (eTB x) = eTr x.2.2 := by
              have htk : (x.2.2.map eP2).take x.2.2.length = x.2.2.map eP2 := List.take_of_length_le (by simp)
              simp only [eTB, sub1, hT x (by simp)]
              simp [htk]
            rw [this]; rfl
        exact key q.T hφx
      have hhp : (⟨0, [(idO, 0)], q.T.map fun x => x.1, 1, [7, 28, 29]⟩ : Wk).hp φ (⟨idO, gO, .rows 35 1 (q.T.map eTB)⟩ :: q.T.map bTB) = [⟨0, 0, .rows 35 1 ((trs q.T).map eTr)⟩] := by
        rw [Wk.hp, if_neg (Nat.not_lt_zero _), hnf]
        simp only [Bool.false_eq_true, if_false, assoc, if_true, Nat.not_lt_zero, ABlk.sub, hrows]
        rw [hp_frz rfl fun e he => by
          obtain ⟨x, hx, rfl⟩ := List.mem_map.1 he
          exact hin x hx]
      unfold Wk.st
      simp only
      rw [hφ, hhp, hoA]
      have hg : gA 0 1 ((trs q.T).map eTr) = .slice 0 1 0 q.T.length ∧ gH 0 35 1 ((trs q.T).map eTr) = [⟨0, 0, .rows 35 1 ((trs q.T).map eTr)⟩] := by
        cases hq : q.T with
        | nil => exact absurd hq hTn
        | cons x T => simp [trs, gA, gH]
      unfold S_tz
      rw [hg.1, hg.2]
      simp [keepT, memN, sub1, hφ0]
set_option maxHeartbeats 2000000 in
theorem k_TracksOf (l : List Vs) (n : Int) (hl : l.length ≤ 1099511627776) : FOk P 15 [.vs (l.map eVs), I n] (toV l n) := by
  have y1 := x_eachS l (by simp only [eq_iff_iff, iff_true]; exact hl)
  unfold toV
  by_cases h6 : 6 < (l.length : Int)
  · have h6' := eq_true h6
    have hE : soE l n = 8 := by unfold soE; rw [if_pos h6]
    rw [hE, if_neg (by decide)]
    refine c15.fok (by simp only [subs, sub1, free_Vs]) (Cor.run (addC_good g_first (addC_good g_missErr (addC_good g_eachS (noC_good _)))) (noHx_good _) hm ?_)
    simp +contextual -implicitDefEqProofs (maxSteps := 2000000) only [bg_eq, a15, List.length_map, h6', ruB, rh_no, Int.reduceLT, Int.reduceLE, Int.reduceAdd, Int.reduceSub, Int.reduceMul, Int.reduceNeg, Int.reduceToNat, Int.reduceEq, Int.reduceNe, Int.reduceTDiv, Int.reduceTMod, implies_true, putL, appN, appX, appC, Eng.Fi, reduceCtorEq, exists_eq_left', exists_eq_left, if_true, if_false, List.replicate, Nat.reduceAdd, Nat.reduceSub, Nat.reduceMul, Nat.reduceLeDiff, Nat.reduceLT, Nat.reduceEqDiff]
  · have h6' := eq_false h6
    by_cases h0 : soE l n = 0
    · rw [if_pos h0]
      have h1 := h0
      unfold soE at h1
      rw [if_neg h6] at h1
      obtain ⟨hl6, hsc, hmi⟩ := soE_z h0
      have hg := addH_good hn_rp (noHx_good P)
      refine c15.fok (y := YH P (addH 83 h_rp noHx)) (by simp only [subs, sub1, free_Vs]) ?_ (fun G => YH_add (by decide) (YH_no _ G))
      rw [bg_eq, a15]
      refine Cor.seq (Cor.run (noC_good _) hg hm ?_)
      simp +contextual -implicitDefEqProofs (maxSteps := 2000000) only [eThen_normal, ruH, ruB, Int.reduceLT, Int.reduceLE, Int.reduceAdd, Int.reduceSub, Int.reduceMul, Int.reduceNeg, Int.reduceToNat, Int.reduceEq, Int.reduceNe, Int.reduceTDiv, Int.reduceTMod, implies_true, putL, appN, appX, appC, Eng.Fi, reduceCtorEq, exists_eq_left', exists_eq_left, if_true, if_false, List.replicate, Nat.reduceAdd, Nat.reduceSub, Nat.reduceMul, Nat.reduceLeDiff, Nat.reduceLT, Nat.reduceEqDiff]
      refine Cor.seq (Cor.run (noC_good _) hg hm ?_)
      simp +contextual -implicitDefEqProofs (maxSteps := 2000000) only [h6', List.length_map, eThen_normal, ruH, ruB, Int.reduceLT, Int.reduceLE, Int.reduceAdd, Int.reduceSub, Int.reduceMul, Int.reduceNeg, Int.reduceToNat, Int.reduceEq, Int.reduceNe, Int.reduceTDiv, Int.reduceTMod, implies_true, putL, appN, appX, appC, Eng.Fi, reduceCtorEq, exists_eq_left', exists_eq_left, if_true, if_false, List.replicate, Nat.reduceAdd, Nat.reduceSub, Nat.reduceMul, Nat.reduceLeDiff, Nat.reduceLT, Nat.reduceEqDiff]
      refine Cor.seq (Cor.run (addC_good g_first (addC_good g_missErr (addC_good g_eachS (noC_good _)))) hg hm ?_)
      simp +contextual -implicitDefEqProofs (maxSteps := 2000000) only [y1, x_missErr, x_first, y_first, h1, eThen_normal, not_true_eq_false, ruH, ruB, Int.reduceLT, Int.reduceLE, Int.reduceAdd, Int.reduceSub, Int.reduceMul, Int.reduceNeg, Int.reduceToNat, Int.reduceEq, Int.reduceNe, Int.reduceTDiv, Int.reduceTMod, implies_true, putL, appN, appX, appC, Eng.Fi, reduceCtorEq, exists_eq_left', exists_eq_left, if_true, if_false, List.replicate, Nat.reduceAdd, Nat.reduceSub, Nat.reduceMul, Nat.reduceLeDiff, Nat.reduceLT, Nat.reduceEqDiff]
      refine Cor.seq (Cor.run (noC_good _) hg hm ?_)
      simp +contextual -implicitDefEqProofs (maxSteps := 2000000) only [eThen_normal, ruH, ruB, Int.reduceLT, Int.reduceLE, Int.reduceAdd, Int.reduceSub, Int.reduceMul, Int.reduceNeg, Int.reduceToNat, Int.reduceEq, Int.reduceNe, Int.reduceTDiv, Int.reduceTMod, implies_true, putL, appN, appX, appC, Eng.Fi, reduceCtorEq, exists_eq_left', exists_eq_left, if_true, if_false, List.replicate, Nat.reduceAdd, Nat.reduceSub, Nat.reduceMul, Nat.reduceLeDiff, Nat.reduceLT, Nat.reduceEqDiff]
      refine Cor.seq (Cor.run (noC_good _) hg hm ?_)
      simp +contextual -implicitDefEqProofs (maxSteps := 2000000) only [eThen_normal, ruH, ruB, Int.reduceLT, Int.reduceLE, Int.reduceAdd, Int.reduceSub, Int.reduceMul, Int.reduceNeg, Int.reduceToNat, Int.reduceEq, Int.reduceNe, Int.reduceTDiv, Int.reduceTMod, implies_true, putL, appN, appX, appC, Eng.Fi, reduceCtorEq, exists_eq_left', exists_eq_left, if_true, if_false, List.replicate, Nat.reduceAdd, Nat.reduceSub, Nat.reduceMul, Nat.reduceLeDiff, Nat.reduceLT, Nat.reduceEqDiff]
      refine Cor.seq (Cor.seq (Cor.run (noC_good _) hg hm ?_))
      simp +contextual -implicitDefEqProofs (maxSteps := 2000000) only [List.length_map, eThen_normal, ruH, ruB, Int.reduceLT, Int.reduceLE, Int.reduceAdd, Int.reduceSub, Int.reduceMul, Int.reduceNeg, Int.reduceToNat, Int.reduceEq, Int.reduceNe, Int.reduceTDiv, Int.reduceTMod, implies_true, putL, appN, appX, appC, Eng.Fi, reduceCtorEq, exists_eq_left', exists_eq_left, if_true, if_false, List.replicate, Nat.reduceAdd, Nat.reduceSub, Nat.reduceMul, Nat.reduceLeDiff, Nat.reduceLT, Nat.reduceEqDiff]
      refine Cor.block (Cor.loopC (S_ty l n) (ToJ l n) (fun a => l.length - a.1) (a := (0, ⟨[], .nilslice, [], .nilslice, [], 0⟩)) ?_ ?_ ?_)
      rotate_left 1
      · exact ⟨Nat.zero_le _, ⟨UQ.nil 0, .inl ⟨rfl, rfl⟩, ⟨fun x hx => by simp at hx, by simp⟩, fun x hx => by simp at hx, by simp⟩, rfl, fun h => by simp at h, fun _ => rfl⟩
      · unfold S_ty
        split
        · exact Wkn.to ⟨0, [], [], 0, [0, 1, 7, 8, 27, 28, 29]⟩ rfl rfl (by simp [Wk.st, keepT, memN, Wk.fate, Wk.fate0, assoc, getE, Wk.hp, ABlk.sub, sub1, subs, S_to, free_Vs])
        · rename_i hz
          have hz : l = [] := by
            cases l with
            | nil => rfl
            | cons a r => simp at hz
          subst hz
          exact Wkn.to ⟨0, [], [], 1, [7, 28, 29]⟩ rfl rfl (by simp [Wk.st, keepT, memN, Wk.fate, Wk.fate0, assoc, getE, Wk.hp, ABlk.sub, sub1, subs, S_tz, gA, gH, trs])
      · rintro ⟨t, q⟩ hJ
        obtain ⟨ht, hok, hfn, hpl, hzz⟩ := hJ
        simp only at ht hok hfn hpl hzz
        rcases Nat.lt_or_ge t l.length with hlt | hge
        · have hS : S_ty l n (t, q) = S_to l n t q := if_pos hlt
          rw [hS]
          have e1 : ((t : Int) < (l.length : Int)) = True := eq_true (by omega)
          have e2 : (l.map eVs)[t]? = some (eVs l[t]) := get_e eVs l hlt
          have e3 : IntKind.wrap .i64 ((t : Int) + 1) = ((t + 1 : Nat) : Int) := suc_w (by omega)
          have hs3 := (scE_z (hsc l[t] (by simp))).1
          have hmem : l[t] ∈ l := List.getElem_mem hlt
          have hpv1 : pvS l (t + 1) = l[t] := by
            unfold pvS
            rw [if_neg (by omega), Nat.add_sub_cancel, List.getElem?_eq_getElem hlt]; rfl
          rw [List.drop_eq_getElem_cons hlt, tkG] at hfn
          obtain ⟨s, hs⟩ : ∃ s, l[t] = s := ⟨_, rfl⟩
          rw [hs] at e2 hs3 hmem hfn hpv1
          have yr := fun H nx => y_rp s.length hs3 H nx
          refine Cor.seq (Cor.run (noC_good _) hg hm ?_)
          simp +contextual -implicitDefEqProofs (maxSteps := 2000000) only [S_to, e1, eThen_normal, ruH, ruB, Int.reduceLT, Int.reduceLE, Int.reduceAdd, Int.reduceSub, Int.reduceMul, Int.reduceNeg, Int.reduceToNat, Int.reduceEq, Int.reduceNe, Int.reduceTDiv, Int.reduceTMod, implies_true, putL, appN, appX, appC, Eng.Fi, reduceCtorEq, exists_eq_left', exists_eq_left, if_true, if_false, List.replicate, Nat.reduceAdd, Nat.reduceSub, Nat.reduceMul, Nat.reduceLeDiff, Nat.reduceLT, Nat.reduceEqDiff]
          refine Cor.seq (Cor.run (noC_good _) hg hm ?_)
          simp +contextual -implicitDefEqProofs (maxSteps := 2000000) only [eThen_normal, ruH, ruB, Int.reduceLT, Int.reduceLE, Int.reduceAdd, Int.reduceSub, Int.reduceMul, Int.reduceNeg, Int.reduceToNat, Int.reduceEq, Int.reduceNe, Int.reduceTDiv, Int.reduceTMod, implies_true, putL, appN, appX, appC, Eng.Fi, reduceCtorEq, exists_eq_left', exists_eq_left, if_true, if_false, List.replicate, Nat.reduceAdd, Nat.reduceSub, Nat.reduceMul, Nat.reduceLeDiff, Nat.reduceLT, Nat.reduceEqDiff]
          refine Cor.seq (Cor.block (Cor.seq (Cor.run (noC_good _) hg hm ?_)))
          simp +contextual -implicitDefEqProofs (maxSteps := 2000000) only [e2, eThen_normal, ruH, ruB, Int.reduceLT, Int.reduceLE, Int.reduceAdd, Int.reduceSub, Int.reduceMul, Int.reduceNeg, Int.reduceToNat, Int.reduceEq, Int.reduceNe, Int.reduceTDiv, Int.reduceTMod, implies_true, putL, appN, appX, appC, Eng.Fi, reduceCtorEq, exists_eq_left', exists_eq_left, if_true, if_false, List.replicate, Nat.reduceAdd, Nat.reduceSub, Nat.reduceMul, Nat.reduceLeDiff, Nat.reduceLT, Nat.reduceEqDiff]
          refine Cor.seq (Cor.run (noC_good _) hg hm ?_)
          simp +contextual -implicitDefEqProofs (maxSteps := 2000000) only [yr, rs_nil, rs_t, rs_f, ag_nils, ag_sl, ag_vs, ag_str, ag_ptr, ag_nilp, ag_vp, ag_fun, List.length_map, eThen_normal, ruH, ruB, Int.reduceLT, Int.reduceLE, Int.reduceAdd, Int.reduceSub, Int.reduceMul, Int.reduceNeg, Int.reduceToNat, Int.reduceEq, Int.reduceNe, Int.reduceTDiv, Int.reduceTMod, implies_true, putL, appN, appX, appC, Eng.Fi, reduceCtorEq, exists_eq_left', exists_eq_left, if_true, if_false, List.replicate, Nat.reduceAdd, Nat.reduceSub, Nat.reduceMul, Nat.reduceLeDiff, Nat.reduceLT, Nat.reduceEqDiff]
          refine Cor.seqE (S_tm l n t q s q.N (tkNow n t (pvS l t) s q.prev)) (fun X => q.N < X) ?_ ?_
          · by_cases h0t : t = 0
            · subst h0t
              have hnow : tkNow n 0 (pvS l 0) s q.prev = List.replicate s.length (-1) := if_pos rfl
              rw [hnow]
              refine Cor.run (addC_good g_links (noC_good _)) hg hm ?_
              simp +contextual -implicitDefEqProofs (maxSteps := 2000000) only [Int.natCast_zero, eThen_normal, ruH, ruB, Int.reduceLT, Int.reduceLE, Int.reduceAdd, Int.reduceSub, Int.reduceMul, Int.reduceNeg, Int.reduceToNat, Int.reduceEq, Int.reduceNe, Int.reduceTDiv, Int.reduceTMod, implies_true, putL, appN, appX, appC, Eng.Fi, reduceCtorEq, exists_eq_left', exists_eq_left, if_true, if_false, List.replicate, Nat.reduceAdd, Nat.reduceSub, Nat.reduceMul, Nat.reduceLeDiff, Nat.reduceLT, Nat.reduceEqDiff]
              exact ⟨_, Nat.lt_succ_self _, Wkn.keep [0, 1, 7, 9, 10, 11, 27, 28, 29] rfl⟩
            · have w1 : IntKind.wrap .i64 ((t : Int) - 1) = ((t - 1 : Nat) : Int) := by rw [wrap64 (by omega) (by omega)]; omega
              have hlt1 : t - 1 < l.length := by omega
              have hpv : pvS l t = l[t - 1] := by
                unfold pvS
                rw [if_neg h0t, List.getElem?_eq_getElem hlt1]; rfl
              have e4 : (l.map eVs)[t - 1]? = some (eVs l[t - 1]) := get_e eVs l hlt1
              have hol := soE_pair h0 (List.getElem_mem hlt1) hmem
              obtain ⟨hprev, idP, gP, hpA, hPm⟩ := hpl (by omega)
              have hpv3 : (pvS l t).length ≤ 3 := by rw [hpv]; exact (scE_z (hsc _ (List.getElem_mem hlt1))).1
              have hnow : tkNow n t (pvS l t) s q.prev = lkN (List.replicate s.length (-1)) q.prev 0 (liV (pvS l t) s n) := if_neg h0t
              rw [hnow]
              rw [← hpv] at e4 hol
              generalize pvS l t = pv at *
              have yl := x_links pv s n (by simp only [hol])
              have hin := liV_in hol
              have hll := liV_len2 hol
              generalize liV pv s n = lk at *
              have ht0 : (0 < (t : Int)) = True := eq_true (by omega)
              have hPl := hok.uq.l _ hPm
              simp only at hPl
              have hPe : (q.N = idP) = False := eq_false (by omega)
              have hP1 : getE q.H idP = some ⟨idP, gP, .rows 3 1 (q.prev.map eI)⟩ := hok.uq.ge' hPm
              have hsb : ∀ k, Eng.setB q.H q.N q.N k = q.H := fun k => setB_free fun e he => by have := (hok.uq.l e he).2; omega
              refine Cor.run (addC_good g_links (noC_good _)) hg hm ?_
              simp +contextual -implicitDefEqProofs (maxSteps := 2000000) only [ht0, w1, e4, yl, List.length_map, Int.natCast_zero, ruH, ruB, Int.reduceLT, Int.reduceLE, Int.reduceAdd, Int.reduceSub, Int.reduceMul, Int.reduceNeg, Int.reduceToNat, Int.reduceEq, Int.reduceNe, Int.reduceTDiv, Int.reduceTMod, implies_true, putL, appN, appX, appC, Eng.Fi, reduceCtorEq, exists_eq_left', exists_eq_left, if_true, if_false, List.replicate, Nat.reduceAdd, Nat.reduceSub, Nat.reduceMul, Nat.reduceLeDiff, Nat.reduceLT, Nat.reduceEqDiff]
              refine Cor.lp (addC_good g_links (noC_good _)) hg hm (S_tl l n t q s lk q.N) (fun p => p.1 ≤ lk.length ∧ lkN p.2.1 q.prev p.1 (lk.drop p.1) = lkN (List.replicate s.length (-1)) q.prev 0 lk ∧ p.2.1.length = s.length ∧ q.N < p.2.2) (fun p => lk.length - p.1) (a := (0, List.replicate s.length (-1), q.N + 1)) ⟨Nat.zero_le _, rfl, by simp, by simp⟩ (Wkn.keep [0, 1, 7, 8, 9, 10, 11, 27, 28, 29, 47, 48, 49] rfl) ?_
              rintro f ⟨i, now, X⟩ ⟨hi, hn, hnl, hX⟩ go
              simp only at hi hn hnl hX
              rcases Nat.lt_or_ge i lk.length with hlt2 | hge2
              · have u1 : ((i : Int) < (lk.length : Int)) = True := eq_true (by omega)
                have u2 : (lk.map eI)[i]? = some (eI lk[i]) := get_e eI lk hlt2
                have u3 : IntKind.wrap .i64 ((i : Int) + 1) = ((i + 1 : Nat) : Int) := suc_w (by omega)
                have hk := hin lk[i] (List.getElem_mem hlt2)
                have hip : i < q.prev.length := by omega
                have u4 : (q.prev.map eI)[i]? = some (eI q.prev[i]) := get_e eI q.prev hip
                have hpe : (q.prev[i]?).getD 0 = q.prev[i] := by rw [List.getElem?_eq_getElem hip]; rfl
                rw [List.drop_eq_getElem_cons hlt2, lkN, hpe] at hn
                generalize lk[i] = k at *
                generalize q.prev[i] = x at *
                by_cases hk0 : 0 ≤ k
                · obtain ⟨k', rfl⟩ : ∃ k' : Nat, k = (k' : Int) := ⟨k.toNat, by omega⟩
                  have hk1 : k' < s.length := by omega
                  have hk2 : (k' < s.length) = True := eq_true hk1
                  have hk3 : (0 ≤ (k' : Int)) = True := eq_true (by omega)
                  rw [if_pos hk0, Int.toNat_natCast] at hn
                  have hset : (now.map eI).set k' (eI x) = (now.set k' x).map eI := by rw [List.map_set]
                  have u5 : (now.map eI)[k']? = some (eI now[k']) := get_e eI now (by omega)
                  generalize now[k'] = z at u5
                  have u6 : (i < q.prev.length) = True := eq_true (by omega)
                  simp +contextual -implicitDefEqProofs (maxSteps := 2000000) only [S_tl, hpA, hPe, hP1, u1, u2, u3, u4, u5, u6, hk2, hk3, hsb, hnl, hset, s_mks1, mk_ok, s_cpy1, cp_sl, cpyE_some, cpX_some, putA_set, ap_toSet, h_mks, h_cpy, f_cpy, wA_set, e_slcW, sw_ok, rs_nil, rs_t, rs_f, ag_nils, ag_sl, ag_vs, ag_str, ag_ptr, ag_nilp, ag_vp, ag_fun, List.length_map, ruH, ruB, Int.reduceLT, Int.reduceLE, Int.reduceAdd, Int.reduceSub, Int.reduceMul, Int.reduceNeg, Int.reduceToNat, Int.reduceEq, Int.reduceNe, Int.reduceTDiv, Int.reduceTMod, implies_true, putL, appN, appX, appC, Eng.Fi, reduceCtorEq, exists_eq_left', exists_eq_left, if_true, if_false, List.replicate, Nat.reduceAdd, Nat.reduceSub, Nat.reduceMul, Nat.reduceLeDiff, Nat.reduceLT, Nat.reduceEqDiff]
                  rw [← hpA]
                  exact go _ (i + 1, now.set k' x, X + 1) ⟨hlt2, hn, by simp only [List.length_set]; exact hnl, by simp only; omega⟩ (by simp only; omega) (Wkn.keep [0, 1, 7, 8, 9, 10, 11, 27, 28, 29, 47, 48, 49] rfl)
                · have hk3 := eq_false hk0
                  rw [if_neg hk0] at hn
                  simp +contextual -implicitDefEqProofs (maxSteps := 2000000) only [S_tl, u1, u2, u3, hk3, ruH, ruB, Int.reduceLT, Int.reduceLE, Int.reduceAdd, Int.reduceSub, Int.reduceMul, Int.reduceNeg, Int.reduceToNat, Int.reduceEq, Int.reduceNe, Int.reduceTDiv, Int.reduceTMod, implies_true, putL, appN, appX, appC, Eng.Fi, reduceCtorEq, exists_eq_left', exists_eq_left, if_true, if_false, List.replicate, Nat.reduceAdd, Nat.reduceSub, Nat.reduceMul, Nat.reduceLeDiff, Nat.reduceLT, Nat.reduceEqDiff]
                  exact go _ (i + 1, now, X) ⟨hlt2, hn, hnl, hX⟩ (by simp only; omega) (Wkn.keep [0, 1, 7, 8, 9, 10, 11, 27, 28, 29, 47, 48, 49] rfl)
              · have u1 : ((i : Int) < (lk.length : Int)) = False := eq_false (by omega)
                rw [List.drop_eq_nil_of_le hge2, lkN] at hn
                rw [← hn]
                simp +contextual -implicitDefEqProofs (maxSteps := 2000000) only [S_tl, u1, eThen_normal, ruH, ruB, Int.reduceLT, Int.reduceLE, Int.reduceAdd, Int.reduceSub, Int.reduceMul, Int.reduceNeg, Int.reduceToNat, Int.reduceEq, Int.reduceNe, Int.reduceTDiv, Int.reduceTMod, implies_true, putL, appN, appX, appC, Eng.Fi, reduceCtorEq, exists_eq_left', exists_eq_left, if_true, if_false, List.replicate, Nat.reduceAdd, Nat.reduceSub, Nat.reduceMul, Nat.reduceLeDiff, Nat.reduceLT, Nat.reduceEqDiff]
                exact ⟨X, hX, Wkn.keep [0, 1, 7, 9, 10, 11, 27, 28, 29] rfl⟩
          · intro X hX
            have hscan : tkScan t (trs q.T) (tkNow n t (pvS l t) s q.prev) s.length = (List.range' 0 s.length).foldl (tkS t) (trs q.T, tkNow n t (pvS l t) s q.prev) := by rw [tkScan, List.range_eq_range']
            have hnr := now_nr (n := n) (t := t) (pv := pvS l t) (s := s) hok.nr fun h0t => by
              have hlt1 : t - 1 < l.length := by omega
              have hpv : pvS l t = l[t - 1] := by
                unfold pvS
                rw [if_neg h0t, List.getElem?_eq_getElem hlt1]; rfl
              have hol := soE_pair h0 (List.getElem_mem hlt1) hmem
              rw [← hpv] at hol
              rw [liV_len2 hol, (hpl (by omega)).1]
              exact Nat.le_refl _
            have hnl := now_len n t (pvS l t) s q.prev
            have hT0 := to_ti hok hX hnr hnl
            rw [hscan] at hfn
            generalize tkNow n t (pvS l t) s q.prev = now0 at *
            generalize hfin : (List.range' 0 s.length).foldl (tkS t) (trs q.T, now0) = fin at *
            refine Cor.seq (Cor.seq (Cor.run (noC_good _) hg hm ?_))
            simp +contextual -implicitDefEqProofs (maxSteps := 2000000) only [S_tm, List.length_map, Int.natCast_zero, eThen_normal, ruH, ruB, Int.reduceLT, Int.reduceLE, Int.reduceAdd, Int.reduceSub, Int.reduceMul, Int.reduceNeg, Int.reduceToNat, Int.reduceEq, Int.reduceNe, Int.reduceTDiv, Int.reduceTMod, implies_true, putL, appN, appX, appC, Eng.Fi, reduceCtorEq, exists_eq_left', exists_eq_left, if_true, if_false, List.replicate, Nat.reduceAdd, Nat.reduceSub, Nat.reduceMul, Nat.reduceLeDiff, Nat.reduceLT, Nat.reduceEqDiff]
            refine Cor.block (Cor.loopC (S_ti l n t s) (TiJ t s fin) (fun q => s.length - q.k) (a := ⟨0, now0, q.T, q.oA, .slice q.N 1 0 s.length, ⟨q.N, q.N, .rows 3 1 (now0.map eI)⟩ :: q.H, X⟩) ?_ ⟨hT0, Nat.zero_le _, hnl, hfin, hzz⟩ (Wkn.keep [0, 1, 7, 9, 10, 11, 27, 28, 29, 65, 66] rfl))
            intro r hr
            obtain ⟨rok, rk, rnl, rf, rz⟩ := hr
            rcases Nat.lt_or_ge r.k s.length with hlt2 | hge2
            · have u1 : ((r.k : Int) < (s.length : Int)) = True := eq_true (by omega)
              have u3 : IntKind.wrap .i64 ((r.k : Int) + 1) = ((r.k + 1 : Nat) : Int) := suc_w (by omega)
              have u0 : (r.k < s.length) = True := eq_true hlt2
              have er : s.length - r.k = s.length - (r.k + 1) + 1 := by omega
              rw [er, List.range'_succ, List.foldl_cons] at rf
              obtain ⟨idN, gN, hnA, hnow⟩ := rok.now
              have u2 : (r.now.map eI)[r.k]? = some (eI r.now[r.k]) := get_e eI r.now (by omega)
              have hg1 : getE r.H idN = some ⟨idN, gN, .rows 3 1 (r.now.map eI)⟩ := rok.uq.ge' hnow
              rw [rnl] at hnA
              refine Cor.seq (Cor.run (noC_good _) hg hm ?_)
              simp +contextual -implicitDefEqProofs (maxSteps := 2000000) only [S_ti, u1, eThen_normal, ruH, ruB, Int.reduceLT, Int.reduceLE, Int.reduceAdd, Int.reduceSub, Int.reduceMul, Int.reduceNeg, Int.reduceToNat, Int.reduceEq, Int.reduceNe, Int.reduceTDiv, Int.reduceTMod, implies_true, putL, appN, appX, appC, Eng.Fi, reduceCtorEq, exists_eq_left', exists_eq_left, if_true, if_false, List.replicate, Nat.reduceAdd, Nat.reduceSub, Nat.reduceMul, Nat.reduceLeDiff, Nat.reduceLT, Nat.reduceEqDiff]
              refine Cor.seq (Cor.run (noC_good _) hg hm ?_)
              simp +contextual -implicitDefEqProofs (maxSteps := 2000000) only [eThen_normal, ruH, ruB, Int.reduceLT, Int.reduceLE, Int.reduceAdd, Int.reduceSub, Int.reduceMul, Int.reduceNeg, Int.reduceToNat, Int.reduceEq, Int.reduceNe, Int.reduceTDiv, Int.reduceTMod, implies_true, putL, appN, appX, appC, Eng.Fi, reduceCtorEq, exists_eq_left', exists_eq_left, if_true, if_false, List.replicate, Nat.reduceAdd, Nat.reduceSub, Nat.reduceMul, Nat.reduceLeDiff, Nat.reduceLT, Nat.reduceEqDiff]
              refine Cor.seq (Cor.block (Cor.seq (Cor.run (noC_good _) hg hm ?_)))
              simp +contextual -implicitDefEqProofs (maxSteps := 2000000) only [eThen_normal, ruH, ruB, Int.reduceLT, Int.reduceLE, Int.reduceAdd, Int.reduceSub, Int.reduceMul, Int.reduceNeg, Int.reduceToNat, Int.reduceEq, Int.reduceNe, Int.reduceTDiv, Int.reduceTMod, implies_true, putL, appN, appX, appC, Eng.Fi, reduceCtorEq, exists_eq_left', exists_eq_left, if_true, if_false, List.replicate, Nat.reduceAdd, Nat.reduceSub, Nat.reduceMul, Nat.reduceLeDiff, Nat.reduceLT, Nat.reduceEqDiff]
              rcases rok.nr r.now[r.k] (List.getElem_mem _) with hx | hx
              · rw [hx] at u2
                have hnl0 := rok.uq.l _ hnow
                simp only at hnl0
                have hgB := fun K => rok.uq.getB hnow (K := K)
                have v2 : ((r.now.set r.k (r.T.length : Int)).map eI)[r.k]? = some (eI (r.T.length : Int)) := by
                  rw [List.getElem?_map, List.getElem?_set_self (by omega)]; rfl
                have vset : (r.now.map eI).set r.k (.int .i64 (r.T.length : Int)) = (r.now.set r.k (r.T.length : Int)).map eI := by rw [List.map_set]
                have f1 : (r.N + 1 = idN) = False := eq_false (by omega)
                have f2 : (r.N + 1 + 1 = idN) = False := eq_false (by omega)
                have f3 : (r.N + 1 + 1 = r.N + 1) = False := eq_false (by omega)
                have f4 : (r.N + 1 = r.N + 1 + 1) = False := eq_false (by omega)
                have o1 : (1 ≤ maxLen) = True := mx (by omega)
                have hkn : (r.k < r.now.length) = True := eq_true (by omega)
                have eN2 : r.N + 1 + 1 = r.N + 2 := rfl
                rcases rok.out with ⟨hT, hoA⟩ | ⟨idO, gO, hoA, ho⟩
                · have hTl : r.T.length = 0 := by rw [hT]; rfl
                  obtain ⟨k1, k2, k3⟩ := tk_new rok (t := t) (M := r.N + 2) (idO := r.N + 1) (gO := r.N + 1) (by omega) hx (by rw [hnA, rnl]) hnow (by omega) (by omega) (.inl ⟨hT, rfl⟩)
                  have hst : tkS t (trs r.T, r.now) r.k = (trs (r.T ++ [(r.N + 2, r.N + 2, [((t : Int), (r.k : Int))])]), r.now.set r.k (r.T.length : Int)) := Prod.ext k2.symm k3.symm
                  rw [hst] at rf
                  have vset0 : (r.now.map eI).set r.k (.int .i64 0) = (r.now.set r.k (r.T.length : Int)).map eI := by rw [hTl, List.map_set]; rfl
                  have v20 : ((r.now.set r.k (r.T.length : Int)).map eI)[r.k]? = some (.int .i64 0) := by rw [v2, hTl]; rfl
                  have hgn : memN [gN] (r.N + 1 + 1) = false := Bool.eq_false_iff.2 fun e => by have := List.mem_singleton.1 (memN_iff.1 e); omega
                  have hgn2 : memN [gN] (r.N + 1) = false := Bool.eq_false_iff.2 fun e => by have := List.mem_singleton.1 (memN_iff.1 e); omega
                  have hsb2 : ∀ K k, Eng.setB (Eng.setB r.H idN gN K) (r.N + 1) (r.N + 1) k = Eng.setB r.H idN gN K := fun K k => setB_free fun e he => by
                    rcases mem_setB he with he | rfl
                    · have := (rok.uq.l e he.1).2; omega
                    · simp only; omega
                  refine Cor.seq (Cor.run (noC_good _) hg hm ?_)
                  simp +contextual -implicitDefEqProofs (maxSteps := 2000000) only [hnA, hoA, hg1, u0, u2, hkn, rnl, vset0, o1, s_mks1, mk_ok, s_cpy1, cp_sl, cpyE_some, cpX_some, putA_set, ap_toSet, h_mks, h_cpy, f_cpy, wA_set, e_slcW, sw_ok, rs_nil, rs_t, rs_f, ag_nils, ag_sl, ag_vs, ag_str, ag_ptr, ag_nilp, ag_vp, ag_fun, List.length_map, Int.natCast_zero, eThen_normal, ruH, ruB, Int.reduceLT, Int.reduceLE, Int.reduceAdd, Int.reduceSub, Int.reduceMul, Int.reduceNeg, Int.reduceToNat, Int.reduceEq, Int.reduceNe, Int.reduceTDiv, Int.reduceTMod, implies_true, putL, appN, appX, appC, Eng.Fi, reduceCtorEq, exists_eq_left', exists_eq_left, if_true, if_false, List.replicate, Nat.reduceAdd, Nat.reduceSub, Nat.reduceMul, Nat.reduceLeDiff, Nat.reduceLT, Nat.reduceEqDiff]
                  refine Cor.run (noC_good _) hg hm ?_
                  simp +contextual -implicitDefEqProofs (maxSteps := 2000000) only [hgB, v20, f1, f2, f3, f4, hgn, hgn2, hsb2, u0, o1, rnl, s_mks1, mk_ok, s_cpy1, cp_sl, cpyE_some, cpX_some, putA_set, ap_toSet, h_mks, h_cpy, f_cpy, wA_set, e_slcW, sw_ok, rs_nil, rs_t, rs_f, ag_nils, ag_sl, ag_vs, ag_str, ag_ptr, ag_nilp, ag_vp, ag_fun, List.length_map, List.length_set, Int.natCast_zero, eBlk_normal, eThen_normal, ruH, ruB, Int.reduceLT, Int.reduceLE, Int.reduceAdd, Int.reduceSub, Int.reduceMul, Int.reduceNeg, Int.reduceToNat, Int.reduceEq, Int.reduceNe, Int.reduceTDiv, Int.reduceTMod, implies_true, putL, appN, appX, appC, Eng.Fi, reduceCtorEq, exists_eq_left', exists_eq_left, if_true, if_false, List.replicate, Nat.reduceAdd, Nat.reduceSub, Nat.reduceMul, Nat.reduceLeDiff, Nat.reduceLT, Nat.reduceEqDiff]
                  refine Cor.run (noC_good _) hg hm ?_
                  simp +contextual -implicitDefEqProofs (maxSteps := 2000000) only [u3, eThen_normal, ruH, ruB, Int.reduceLT, Int.reduceLE, Int.reduceAdd, Int.reduceSub, Int.reduceMul, Int.reduceNeg, Int.reduceToNat, Int.reduceEq, Int.reduceNe, Int.reduceTDiv, Int.reduceTMod, implies_true, putL, appN, appX, appC, Eng.Fi, reduceCtorEq, exists_eq_left', exists_eq_left, if_true, if_false, List.replicate, Nat.reduceAdd, Nat.reduceSub, Nat.reduceMul, Nat.reduceLeDiff, Nat.reduceLT, Nat.reduceEqDiff]
                  have hrow : [AV.slice (r.N + 1 + 1) 2 0 1] = (r.T ++ [(r.N + 2, r.N + 2, [((t : Int), (r.k : Int))])]).map eTB := by rw [hT]; rfl
                  have hoA2 : AV.slice (r.N + 1) 1 0 1 = .slice (r.N + 1) 1 0 (r.T.length + 1) := by rw [hTl]
                  have hmb : ∀ e ∈ putH (putH (putH r.H ⟨idN, gN, .rows 3 1 ((r.now.set r.k (r.T.length : Int)).map eI)⟩) (bTB (r.N + 2, r.N + 2, [((t : Int), (r.k : Int))]))) ⟨r.N + 1, r.N + 1, .rows 35 1 ((r.T ++ [(r.N + 2, r.N + 2, [((t : Int), (r.k : Int))])]).map eTB)⟩,
                      e ∈ bTB (r.N + 2, r.N + 2, [((t : Int), (r.k : Int))]) :: ⟨r.N + 1, r.N + 1, .rows 35 1 ((r.T ++ [(r.N + 2, r.N + 2, [((t : Int), (r.k : Int))])]).map eTB)⟩ :: Eng.setB r.H idN gN (.rows 3 1 ((r.now.set r.k (r.T.length : Int)).map eI)) := fun e he => by
                    rcases mem_putH.1 he with rfl | ⟨he, _⟩
                    · simp
                    · rcases mem_putH.1 he with rfl | ⟨he, _⟩
                      · simp
                      · rcases mem_putH.1 he with rfl | ⟨he, hg3⟩
                        · exact List.mem_cons_of_mem _ (List.mem_cons_of_mem _ (mem_setB2 hnow))
                        · exact List.mem_cons_of_mem _ (List.mem_cons_of_mem _ (mem_setB1 he hg3))
                  rw [hrow, hoA2]
                  refine ⟨⟨r.k + 1, r.now.set r.k (r.T.length : Int), r.T ++ [(r.N + 2, r.N + 2, [((t : Int), (r.k : Int))])], .slice (r.N + 1) 1 0 (r.T.length + 1), r.nA, putH (putH (putH r.H ⟨idN, gN, .rows 3 1 ((r.now.set r.k (r.T.length : Int)).map eI)⟩) (bTB (r.N + 2, r.N + 2, [((t : Int), (r.k : Int))]))) ⟨r.N + 1, r.N + 1, .rows 35 1 ((r.T ++ [(r.N + 2, r.N + 2, [((t : Int), (r.k : Int))])]).map eTB)⟩, r.N + 4⟩, ⟨k1, hlt2, by simp only [List.length_set]; exact rnl, rf, fun e => by simp at e⟩, by simp only; omega, Wkn.trans (Wkn.sub hmb) ?_⟩
                  simp only [hnA]
                  exact Wkn.keep [0, 1, 7, 9, 10, 11, 27, 28, 29, 65, 66] rfl
                · have hol := rok.uq.l _ ho
                  simp only at hol
                  have hne : ¬ gN = gO := fun e => by
                    have := rok.uq.u _ hnow _ ho (.inr e)
                    simp at this
                  have hTm : r.T.length ≤ 1000 := by have := rok.le.1; omega
                  obtain ⟨k1, k2, k3⟩ := tk_new rok (t := t) (M := r.N + 2) (idO := r.N + 1) (gO := gO) (by omega) hx (by rw [hnA, rnl]) hnow (by omega) (by omega) (.inr ⟨idO, ho⟩)
                  have hst : tkS t (trs r.T, r.now) r.k = (trs (r.T ++ [(r.N + 2, r.N + 2, [((t : Int), (r.k : Int))])]), r.now.set r.k (r.T.length : Int)) := Prod.ext k2.symm k3.symm
                  rw [hst] at rf
                  have hgn : memN [gN] (r.N + 1 + 1) = false := Bool.eq_false_iff.2 fun e => by have := List.mem_singleton.1 (memN_iff.1 e); omega
                  have huB := fun K => rok.uq.setB hnow (K := K)
                  have hgO2 := fun K => (huB K).ge' (mem_setB1 (t := idN) (k := K) ho (fun e => hne e.symm))
                  have hgn3 := fun K => ((huB K).drop idO gO).ge' (mem_dropG1 (t := idO) (g := gO) (mem_setB2 (k := K) hnow) hne)
                  have hel : (r.T.map eTB ++ [AV.nilslice])[r.T.length]? = some .nilslice := by
                    rw [List.getElem?_append_right (by simp)]; simp
                  have hset2 : (r.T.map eTB ++ [AV.nilslice]).set r.T.length (.slice (r.N + 1 + 1) 2 0 1) = (r.T ++ [(r.N + 2, r.N + 2, [((t : Int), (r.k : Int))])]).map eTB := by
                    rw [List.set_append_right _ _ (by simp)]; simp [eTB]
                  have m1 : (r.T.length + 1 ≤ maxLen) = True := mx (by omega)
                  have m2 : ((r.T.length + 1) * 24 ≤ 140737488355328) = True := by simp only [eq_iff_iff, iff_true]; omega
                  have f5 : (r.N + 1 + 1 = gO) = False := eq_false (by omega)
                  have f6 : (r.T.length < r.T.length + 1) = True := eq_true (Nat.lt_succ_self _)
                  have hg2 : getE r.H idO = some ⟨idO, gO, .rows 35 1 (r.T.map eTB)⟩ := rok.uq.ge' ho
                  refine Cor.seq (Cor.run (noC_good _) hg hm ?_)
                  simp +contextual -implicitDefEqProofs (maxSteps := 2000000) only [hnA, hoA, hg1, hgO2, u0, u2, hkn, rnl, vset, o1, m1, m2, s_mks1, mk_ok, s_cpy1, cp_sl, cpyE_some, cpX_some, putA_set, ap_toSet, h_mks, h_cpy, f_cpy, wA_set, e_slcW, sw_ok, rs_nil, rs_t, rs_f, ag_nils, ag_sl, ag_vs, ag_str, ag_ptr, ag_nilp, ag_vp, ag_fun, List.length_map, eThen_normal, ruH, ruB, Int.reduceLT, Int.reduceLE, Int.reduceAdd, Int.reduceSub, Int.reduceMul, Int.reduceNeg, Int.reduceToNat, Int.reduceEq, Int.reduceNe, Int.reduceTDiv, Int.reduceTMod, implies_true, putL, appN, appX, appC, Eng.Fi, reduceCtorEq, exists_eq_left', exists_eq_left, if_true, if_false, List.replicate, Nat.reduceAdd, Nat.reduceSub, Nat.reduceMul, Nat.reduceLeDiff, Nat.reduceLT, Nat.reduceEqDiff]
                  refine Cor.run (noC_good _) hg hm ?_
                  simp +contextual -implicitDefEqProofs (maxSteps := 2000000) only [hgn3, v2, f1, f2, f3, f4, f5, f6, hgn, hel, hset2, u0, o1, rnl, s_mks1, mk_ok, s_cpy1, cp_sl, cpyE_some, cpX_some, putA_set, ap_toSet, h_mks, h_cpy, f_cpy, wA_set, e_slcW, sw_ok, rs_nil, rs_t, rs_f, ag_nils, ag_sl, ag_vs, ag_str, ag_ptr, ag_nilp, ag_vp, ag_fun, List.length_map, List.length_set, eBlk_normal, eThen_normal, ruH, ruB, Int.reduceLT, Int.reduceLE, Int.reduceAdd, Int.reduceSub, Int.reduceMul, Int.reduceNeg, Int.reduceToNat, Int.reduceEq, Int.reduceNe, Int.reduceTDiv, Int.reduceTMod, implies_true, putL, appN, appX, appC, Eng.Fi, reduceCtorEq, exists_eq_left', exists_eq_left, if_true, if_false, List.replicate, Nat.reduceAdd, Nat.reduceSub, Nat.reduceMul, Nat.reduceLeDiff, Nat.reduceLT, Nat.reduceEqDiff]
                  refine Cor.run (noC_good _) hg hm ?_
                  simp +contextual -implicitDefEqProofs (maxSteps := 2000000) only [u3, eThen_normal, ruH, ruB, Int.reduceLT, Int.reduceLE, Int.reduceAdd, Int.reduceSub, Int.reduceMul, Int.reduceNeg, Int.reduceToNat, Int.reduceEq, Int.reduceNe, Int.reduceTDiv, Int.reduceTMod, implies_true, putL, appN, appX, appC, Eng.Fi, reduceCtorEq, exists_eq_left', exists_eq_left, if_true, if_false, List.replicate, Nat.reduceAdd, Nat.reduceSub, Nat.reduceMul, Nat.reduceLeDiff, Nat.reduceLT, Nat.reduceEqDiff]
                  have hmb : ∀ e ∈ putH (putH (putH r.H ⟨idN, gN, .rows 3 1 ((r.now.set r.k (r.T.length : Int)).map eI)⟩) (bTB (r.N + 2, r.N + 2, [((t : Int), (r.k : Int))]))) ⟨r.N + 1, gO, .rows 35 1 ((r.T ++ [(r.N + 2, r.N + 2, [((t : Int), (r.k : Int))])]).map eTB)⟩,
                      e ∈ bTB (r.N + 2, r.N + 2, [((t : Int), (r.k : Int))]) :: ⟨r.N + 1, gO, .rows 35 1 ((r.T ++ [(r.N + 2, r.N + 2, [((t : Int), (r.k : Int))])]).map eTB)⟩ :: Eng.setB (dropG (Eng.setB r.H idN gN (.rows 3 1 ((r.now.set r.k (r.T.length : Int)).map eI))) idO gO) (r.N + 1) gO (.rows 35 1 ((r.T ++ [(r.N + 2, r.N + 2, [((t : Int), (r.k : Int))])]).map eTB)) := fun e he => by
                    rcases mem_putH.1 he with rfl | ⟨he, hg4⟩
                    · simp
                    · rcases mem_putH.1 he with rfl | ⟨he, _⟩
                      · simp
                      · refine List.mem_cons_of_mem _ (List.mem_cons_of_mem _ (mem_setB1 (mem_dropG1 ?_ hg4) hg4))
                        rcases mem_putH.1 he with rfl | ⟨he, hg3⟩
                        · exact mem_setB2 hnow
                        · exact mem_setB1 he hg3
                  refine ⟨⟨r.k + 1, r.now.set r.k (r.T.length : Int), r.T ++ [(r.N + 2, r.N + 2, [((t : Int), (r.k : Int))])], .slice (r.N + 1) 1 0 (r.T.length + 1), r.nA, putH (putH (putH r.H ⟨idN, gN, .rows 3 1 ((r.now.set r.k (r.T.length : Int)).map eI)⟩) (bTB (r.N + 2, r.N + 2, [((t : Int), (r.k : Int))]))) ⟨r.N + 1, gO, .rows 35 1 ((r.T ++ [(r.N + 2, r.N + 2, [((t : Int), (r.k : Int))])]).map eTB)⟩, r.N + 4⟩, ⟨k1, hlt2, by simp only [List.length_set]; exact rnl, rf, fun e => by simp at e⟩, by simp only; omega, Wkn.trans (Wkn.sub hmb) ?_⟩
                  simp only [hnA]
                  exact Wkn.keep [0, 1, 7, 9, 10, 11, 27, 28, 29, 65, 66] rfl
              · obtain ⟨j, hj⟩ : ∃ j : Nat, r.now[r.k] = (j : Int) := ⟨r.now[r.k].toNat, by omega⟩
                have hjl : j < r.T.length := by omega
                have hjn : ((j : Int) < 0) = False := eq_false (by omega)
                rcases rok.out with ⟨hT, _⟩ | ⟨idO, gO, hoA, ho⟩
                · rw [hT] at hjl; simp at hjl
                · have hg2 : getE r.H idO = some ⟨idO, gO, .rows 35 1 (r.T.map eTB)⟩ := rok.uq.ge' ho
                  obtain ⟨k1, k2, k3⟩ := tk_old rok (t := t) hjl (by omega) hj (Nat.le_refl _) hoA ho
                  have hbm := rok.trk.1 _ (List.getElem_mem hjl)
                  have hg3 := rok.uq.ge hbm
                  have u4 : (r.T.map eTB)[j]? = some (eTB r.T[j]) := get_e eTB r.T hjl
                  have u5 : (j < r.T.length) = True := eq_true hjl
                  have hle := rok.le.2 _ (List.getElem_mem hjl)
                  have hne : gO ≠ r.T[j].2.1 := fun e => by
                    have := rok.uq.u _ ho _ hbm (.inr e)
                    simp at this
                  have hol := rok.uq.l _ ho
                  simp only at hol
                  have hdr : getE (dropG r.H r.T[j].1 r.T[j].2.1) idO = some ⟨idO, gO, .rows 35 1 (r.T.map eTB)⟩ := (rok.uq.drop _ _).ge' (mem_dropG1 ho hne)
                  have hmb : ∀ e ∈ putH (putH r.H (bTB (r.N, r.T[j].2.1, r.T[j].2.2 ++ [((t : Int), (r.k : Int))]))) ⟨idO, gO, .rows 35 1 ((r.T.set j (r.N, r.T[j].2.1, r.T[j].2.2 ++ [((t : Int), (r.k : Int))])).map eTB)⟩,
                      e ∈ bTB (r.N, r.T[j].2.1, r.T[j].2.2 ++ [((t : Int), (r.k : Int))]) :: Eng.setB (dropG r.H r.T[j].1 r.T[j].2.1) idO gO (.rows 35 1 ((r.T.set j (r.N, r.T[j].2.1, r.T[j].2.2 ++ [((t : Int), (r.k : Int))])).map eTB)) := fun e he => by
                    rcases mem_putH.1 he with rfl | ⟨he, hge⟩
                    · exact List.mem_cons_of_mem _ (mem_setB2 (mem_dropG1 ho hne))
                    · rcases mem_putH.1 he with rfl | ⟨he, hge2⟩
                      · simp
                      · exact List.mem_cons_of_mem _ (mem_setB1 (mem_dropG1 he hge2) hge)
                  have hset : (r.T.map eTB).set j (.slice r.N 2 0 (r.T[j].2.2.length + 1)) = (r.T.set j (r.N, r.T[j].2.1, r.T[j].2.2 ++ [((t : Int), (r.k : Int))])).map eTB := by
                    rw [List.map_set]
                    simp [eTB]
                  have happ : r.T[j].2.2.map eP2 ++ [.agg [.int .i64 (t : Int), .int .i64 (r.k : Int)]] = (r.T[j].2.2 ++ [((t : Int), (r.k : Int))]).map eP2 := by simp
                  rw [hj] at u2
                  have hf1 : (r.N = idO) = False := eq_false (by omega)
                  have hf2 : (idO = r.N) = False := eq_false (by omega)
                  have hf3 : (r.T[j].2.1 = gO) = False := eq_false fun e => hne e.symm
                  have hf4 : (gO = r.T[j].2.1) = False := eq_false hne
                  have m1 : (r.T[j].2.2.length + 1 ≤ maxLen) = True := mx (by omega)
                  have m2 : ((r.T[j].2.2.length + 1) * 16 ≤ 140737488355328) = True := by simp only [eq_iff_iff, iff_true]; omega
                  have hgn : memN [gN] r.T[j].2.1 = false := by
                    have hq : ¬ r.T[j].2.1 = gN := fun e => by
                      have := rok.uq.u _ hbm _ hnow (.inr e)
                      simp at this
                    exact Bool.eq_false_iff.2 fun e => hq (List.mem_singleton.1 (memN_iff.1 e))
                  have hst : tkS t (trs r.T, r.now) r.k = (trs (r.T.set j (r.N, r.T[j].2.1, r.T[j].2.2 ++ [((t : Int), (r.k : Int))])), r.now) := Prod.ext k2.symm k3.symm
                  rw [hst] at rf
                  obtain ⟨x, hxx⟩ : ∃ x, r.T[j] = x := ⟨_, rfl⟩
                  rw [hxx] at hg3 u4 hdr hmb hset happ hf3 hf4 m1 m2 k1 hgn rf
                  refine Cor.seq (Cor.run (noC_good _) hg hm ?_)
                  simp +contextual -implicitDefEqProofs (maxSteps := 2000000) only [hnA, hg1, u0, u2, hjn, eThen_normal, ruH, ruB, Int.reduceLT, Int.reduceLE, Int.reduceAdd, Int.reduceSub, Int.reduceMul, Int.reduceNeg, Int.reduceToNat, Int.reduceEq, Int.reduceNe, Int.reduceTDiv, Int.reduceTMod, implies_true, putL, appN, appX, appC, Eng.Fi, reduceCtorEq, exists_eq_left', exists_eq_left, if_true, if_false, List.replicate, Nat.reduceAdd, Nat.reduceSub, Nat.reduceMul, Nat.reduceLeDiff, Nat.reduceLT, Nat.reduceEqDiff]
                  refine Cor.run (noC_good _) hg hm ?_
                  simp +contextual -implicitDefEqProofs (maxSteps := 2000000) only [hoA, hg1, hg2, hg3, hdr, hf1, hf2, hf3, hf4, hgn, m1, m2, u0, u2, u4, u5, hset, happ, s_mks1, mk_ok, s_cpy1, cp_sl, cpyE_some, cpX_some, putA_set, ap_toSet, h_mks, h_cpy, f_cpy, wA_set, e_slcW, sw_ok, rs_nil, rs_t, rs_f, ag_nils, ag_sl, ag_vs, ag_str, ag_ptr, ag_nilp, ag_vp, ag_fun, List.length_map, eBlk_normal, eThen_normal, ruH, ruB, Int.reduceLT, Int.reduceLE, Int.reduceAdd, Int.reduceSub, Int.reduceMul, Int.reduceNeg, Int.reduceToNat, Int.reduceEq, Int.reduceNe, Int.reduceTDiv, Int.reduceTMod, implies_true, putL, appN, appX, appC, Eng.Fi, reduceCtorEq, exists_eq_left', exists_eq_left, if_true, if_false, List.replicate, Nat.reduceAdd, Nat.reduceSub, Nat.reduceMul, Nat.reduceLeDiff, Nat.reduceLT, Nat.reduceEqDiff]
                  refine Cor.run (noC_good _) hg hm ?_
                  simp +contextual -implicitDefEqProofs (maxSteps := 2000000) only [u3, eThen_normal, ruH, ruB, Int.reduceLT, Int.reduceLE, Int.reduceAdd, Int.reduceSub, Int.reduceMul, Int.reduceNeg, Int.reduceToNat, Int.reduceEq, Int.reduceNe, Int.reduceTDiv, Int.reduceTMod, implies_true, putL, appN, appX, appC, Eng.Fi, reduceCtorEq, exists_eq_left', exists_eq_left, if_true, if_false, List.replicate, Nat.reduceAdd, Nat.reduceSub, Nat.reduceMul, Nat.reduceLeDiff, Nat.reduceLT, Nat.reduceEqDiff]
                  refine ⟨⟨r.k + 1, r.now, r.T.set j (r.N, x.2.1, x.2.2 ++ [((t : Int), (r.k : Int))]), r.oA, r.nA, putH (putH r.H (bTB (r.N, x.2.1, x.2.2 ++ [((t : Int), (r.k : Int))]))) ⟨idO, gO, .rows 35 1 ((r.T.set j (r.N, x.2.1, x.2.2 ++ [((t : Int), (r.k : Int))])).map eTB)⟩, r.N + 2⟩, ⟨k1, hlt2, rnl, rf, fun e => by have := congrArg List.length e; simp only [List.length_set, List.length_nil] at this; omega⟩, by simp only; omega, Wkn.trans (Wkn.sub hmb) ?_⟩
                  simp only [hoA, hnA]
                  exact Wkn.keep [0, 1, 7, 9, 10, 11, 27, 28, 29, 65, 66] rfl
            · have u1 : ((r.k : Int) < (s.length : Int)) = False := eq_false (by omega)
              have er : s.length - r.k = 0 := by omega
              rw [er, List.range'_zero, List.foldl_nil] at rf
              subst rf
              have hJ2 : ToOK (3 * (t + 1)) ⟨r.now, r.nA, r.T, r.oA, r.H, r.N⟩ := ⟨rok.uq, rok.out, rok.trk, rok.nr, by have := rok.le.1; simp only; omega, fun x hx => by have := rok.le.2 x hx; omega⟩
              have hJ3 : ToJ l n (t + 1, ⟨r.now, r.nA, r.T, r.oA, r.H, r.N⟩) := ⟨hlt, hJ2, by rw [hpv1]; exact hfn, fun _ => ⟨by rw [hpv1]; exact rnl, rok.now⟩, rz⟩
              refine Cor.seq (Cor.run (noC_good _) hg hm ?_)
              simp +contextual -implicitDefEqProofs (maxSteps := 2000000) only [S_ti, u1, eThen_normal, ruH, ruB, Int.reduceLT, Int.reduceLE, Int.reduceAdd, Int.reduceSub, Int.reduceMul, Int.reduceNeg, Int.reduceToNat, Int.reduceEq, Int.reduceNe, Int.reduceTDiv, Int.reduceTMod, implies_true, putL, appN, appX, appC, Eng.Fi, reduceCtorEq, exists_eq_left', exists_eq_left, if_true, if_false, List.replicate, Nat.reduceAdd, Nat.reduceSub, Nat.reduceMul, Nat.reduceLeDiff, Nat.reduceLT, Nat.reduceEqDiff]
              refine Cor.run (noC_good _) hg hm ?_
              simp +contextual -implicitDefEqProofs (maxSteps := 2000000) only [eThen_exit, eBlk_exit, eThen_normal, ruH, ruB, Int.reduceLT, Int.reduceLE, Int.reduceAdd, Int.reduceSub, Int.reduceMul, Int.reduceNeg, Int.reduceToNat, Int.reduceEq, Int.reduceNe, Int.reduceTDiv, Int.reduceTMod, implies_true, putL, appN, appX, appC, Eng.Fi, reduceCtorEq, exists_eq_left', exists_eq_left, if_true, if_false, List.replicate, Nat.reduceAdd, Nat.reduceSub, Nat.reduceMul, Nat.reduceLeDiff, Nat.reduceLT, Nat.reduceEqDiff]
              refine Cor.run (noC_good _) hg hm ?_
              simp +contextual -implicitDefEqProofs (maxSteps := 2000000) only [eBlk_normal, eThen_normal, ruH, ruB, Int.reduceLT, Int.reduceLE, Int.reduceAdd, Int.reduceSub, Int.reduceMul, Int.reduceNeg, Int.reduceToNat, Int.reduceEq, Int.reduceNe, Int.reduceTDiv, Int.reduceTMod, implies_true, putL, appN, appX, appC, Eng.Fi, reduceCtorEq, exists_eq_left', exists_eq_left, if_true, if_false, List.replicate, Nat.reduceAdd, Nat.reduceSub, Nat.reduceMul, Nat.reduceLeDiff, Nat.reduceLT, Nat.reduceEqDiff]
              refine Cor.run (noC_good _) hg hm ?_
              simp +contextual -implicitDefEqProofs (maxSteps := 2000000) only [e3, eThen_normal, ruH, ruB, Int.reduceLT, Int.reduceLE, Int.reduceAdd, Int.reduceSub, Int.reduceMul, Int.reduceNeg, Int.reduceToNat, Int.reduceEq, Int.reduceNe, Int.reduceTDiv, Int.reduceTMod, implies_true, putL, appN, appX, appC, Eng.Fi, reduceCtorEq, exists_eq_left', exists_eq_left, if_true, if_false, List.replicate, Nat.reduceAdd, Nat.reduceSub, Nat.reduceMul, Nat.reduceLeDiff, Nat.reduceLT, Nat.reduceEqDiff]
              refine ⟨_, hJ3, by simp only; omega, ?_⟩
              unfold S_ty
              split
              · exact Wkn.keep [0, 1, 7, 8, 27, 28, 29] rfl
              · rename_i hn2
                have et : t + 1 = l.length := by simp only at hn2; omega
                rw [et]
                exact Wkn.trans (Wkn.keep [7, 28, 29] rfl) (tk_frz hJ2 rz l)
        · have hS : S_ty l n (t, q) = S_tz l (trs q.T) := if_neg (by simp only; omega)
          rw [hS]
          have et : t = l.length := by omega
          subst et
          rw [List.drop_length, tkG] at hfn
          rw [← hfn]
          have e1 : ((l.length : Int) < (l.length : Int)) = False := eq_false (by omega)
          have hfo := fun φ => free_Tr φ (trs q.T)
          have htk : ((trs q.T).map eTr).take (trs q.T).length = (trs q.T).map eTr := List.take_of_length_le (by simp)
          generalize trs q.T = o at *
          refine Cor.seq (Cor.run (noC_good _) hg hm ?_)
          simp +contextual -implicitDefEqProofs (maxSteps := 2000000) only [S_tz, e1, eThen_normal, ruH, ruB, Int.reduceLT, Int.reduceLE, Int.reduceAdd, Int.reduceSub, Int.reduceMul, Int.reduceNeg, Int.reduceToNat, Int.reduceEq, Int.reduceNe, Int.reduceTDiv, Int.reduceTMod, implies_true, putL, appN, appX, appC, Eng.Fi, reduceCtorEq, exists_eq_left', exists_eq_left, if_true, if_false, List.replicate, Nat.reduceAdd, Nat.reduceSub, Nat.reduceMul, Nat.reduceLeDiff, Nat.reduceLT, Nat.reduceEqDiff]
          refine Cor.run (noC_good _) hg hm ?_
          simp +contextual -implicitDefEqProofs (maxSteps := 2000000) only [eThen_exit, eBlk_exit, eThen_normal, ruH, ruB, Int.reduceLT, Int.reduceLE, Int.reduceAdd, Int.reduceSub, Int.reduceMul, Int.reduceNeg, Int.reduceToNat, Int.reduceEq, Int.reduceNe, Int.reduceTDiv, Int.reduceTMod, implies_true, putL, appN, appX, appC, Eng.Fi, reduceCtorEq, exists_eq_left', exists_eq_left, if_true, if_false, List.replicate, Nat.reduceAdd, Nat.reduceSub, Nat.reduceMul, Nat.reduceLeDiff, Nat.reduceLT, Nat.reduceEqDiff]
          refine Cor.run (noC_good _) hg hm ?_
          cases o with
          | nil =>
            simp only [List.map_cons, List.map_nil, subs, List.cons.injEq, List.length_cons] at hfo htk
            simp +contextual -implicitDefEqProofs (maxSteps := 2000000) only [gA, gH, List.length_map, List.map_cons, List.map_nil, htk, Nat.le_refl, hfo, ruH, ruB, Int.reduceLT, Int.reduceLE, Int.reduceAdd, Int.reduceSub, Int.reduceMul, Int.reduceNeg, Int.reduceToNat, Int.reduceEq, Int.reduceNe, Int.reduceTDiv, Int.reduceTMod, implies_true, putL, appN, appX, appC, Eng.Fi, reduceCtorEq, exists_eq_left', exists_eq_left, if_true, if_false, List.replicate, Nat.reduceAdd, Nat.reduceSub, Nat.reduceMul, Nat.reduceLeDiff, Nat.reduceLT, Nat.reduceEqDiff]
            
          | cons z0 zr =>
            simp only [List.map_cons, List.map_nil, subs, List.cons.injEq, List.length_cons] at hfo htk
            simp +contextual -implicitDefEqProofs (maxSteps := 2000000) only [gA, gH, List.length_map, List.map_cons, List.map_nil, htk, Nat.le_refl, hfo, ruH, ruB, Int.reduceLT, Int.reduceLE, Int.reduceAdd, Int.reduceSub, Int.reduceMul, Int.reduceNeg, Int.reduceToNat, Int.reduceEq, Int.reduceNe, Int.reduceTDiv, Int.reduceTMod, implies_true, putL, appN, appX, appC, Eng.Fi, reduceCtorEq, exists_eq_left', exists_eq_left, if_true, if_false, List.replicate, Nat.reduceAdd, Nat.reduceSub, Nat.reduceMul, Nat.reduceLeDiff, Nat.reduceLT, Nat.reduceEqDiff]
            
    · rw [if_neg h0]
      have h1 := h0
      unfold soE at h1
      rw [if_neg h6] at h1
      have hE : soE l n = firstE [scG l, unl (miR n) 2] := by unfold soE; rw [if_neg h6]
      rw [hE]
      refine c15.fok (by simp only [subs, sub1, free_Vs]) (Cor.run (addC_good g_first (addC_good g_missErr (addC_good g_eachS (noC_good _)))) (noHx_good _) hm ?_)
      simp +contextual -implicitDefEqProofs (maxSteps := 2000000) only [bg_eq, a15, y1, x_missErr, x_first, y_first, h6', h1, List.length_map, not_false_eq_true, ruB, rh_no, Int.reduceLT, Int.reduceLE, Int.reduceAdd, Int.reduceSub, Int.reduceMul, Int.reduceNeg, Int.reduceToNat, Int.reduceEq, Int.reduceNe, Int.reduceTDiv, Int.reduceTMod, implies_true, putL, appN, appX, appC, Eng.Fi, reduceCtorEq, exists_eq_left', exists_eq_left, if_true, if_false, List.replicate, Nat.reduceAdd, Nat.reduceSub, Nat.reduceMul, Nat.reduceLeDiff, Nat.reduceLT, Nat.reduceEqDiff]
def cf_TracksOf : List AV → Option AV
  | [.vs l_v, .int .i64 n] => onL dVs l_v fun l => if l.length ≤ 1099511627776 then some (toV l n) else none
  | _ => none
theorem g_TracksOf : Fn P 15 cf_TracksOf := fun args v hh => by
  unfold cf_TracksOf at hh; split at hh
  · obtain ⟨l, rfl, hh1⟩ := onL_inv dVs_inv hh
    split at hh1
    · rename_i hc; have hk := Option.some.inj hh1; subst hk; exact k_TracksOf _ _ hc
    · cases hh1
  · cases hh
theorem x_TracksOf (l : List Vs) (n : Int) (hc : (l.length ≤ 1099511627776) = True) : cf_TracksOf [.vs (l.map eVs), .int .i64 n] = some (toV l n) := by
  simp only [cf_TracksOf, onL_map dVs_e]
  exact if_pos (by rw [hc]; trivial)
end Wa
