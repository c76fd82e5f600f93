import Derived.Test.YtabkbhpeeefmgaaEngS9
import Derived.Test.YtabkbhpeeefmgaaW919
import Derived.Test.YtabkbhpeeefmgaaW911
open Go Go.Proofs Eng
set_option maxRecDepth 100000
set_option linter.unusedSimpArgs false
set_option linter.unusedVariables false

namespace Wa
end Wa
open Go Go.Proofs Eng
set_option maxRecDepth 100000
set_option linter.unusedSimpArgs false
set_option linter.unusedVariables false
namespace Wa
structure UQ (N : Nat) (H : List HEnt) : Prop where
  u : ∀ e ∈ H, ∀ e' ∈ H, e.id = e'.id ∨ e.grp = e'.grp → e = e'
  l : ∀ e ∈ H, e.id < N ∧ e.grp < N
def putH (H : List HEnt) (e : HEnt) : List HEnt := e :: H.filter fun x => decide (x.grp ≠ e.grp)
theorem mem_putH {H : List HEnt} {e x : HEnt} : x ∈ putH H e ↔ x = e ∨ (x ∈ H ∧ x.grp ≠ e.grp) := by
  simp [putH]
theorem ge_mem : ∀ {H : List HEnt} {e : HEnt}, (∀ e ∈ H, ∀ e' ∈ H, e.id = e'.id → e = e') → e ∈ H → getE H e.id = some e
  | [], e, _, h => by simp at h
  | x :: H, e, hu, h => by
    rw [getE]
    by_cases hx : x.id = e.id
    · rw [if_pos hx, hu x (by simp) e h hx]
    · rw [if_neg hx]
      rcases List.mem_cons.1 h with rfl | h
      · exact absurd rfl hx
      · exact ge_mem (fun a ha b hb => hu a (by simp [ha]) b (by simp [hb])) h
theorem UQ.ge {N : Nat} {H : List HEnt} (h : UQ N H) {e : HEnt} (he : e ∈ H) : getE H e.id = some e := ge_mem (fun a ha b hb hab => h.u a ha b hb (.inl hab)) he
theorem UQ.ge' {N : Nat} {H : List HEnt} (h : UQ N H) {t g : Nat} {k : ABlk} (he : ⟨t, g, k⟩ ∈ H) : getE H t = some ⟨t, g, k⟩ := h.ge he
theorem UQ.mono {N M : Nat} {H : List HEnt} (h : UQ N H) (hm : N ≤ M) : UQ M H := ⟨h.u, fun e he => by have := h.l e he; omega⟩
theorem UQ.nil (N : Nat) : UQ N [] := ⟨by simp, by simp⟩
/-- a block in place of the one in its group -/
theorem UQ.put {N M : Nat} {H : List HEnt} (h : UQ N H) (hm : N ≤ M) {e : HEnt} (hi : e.id < M) (hg : e.grp < M) (hne : ∀ x ∈ H, x.grp ≠ e.grp → x.id ≠ e.id) : UQ M (putH H e) := by
  refine ⟨fun a ha b hb hab => ?_, fun a ha => ?_⟩
  · rw [mem_putH] at ha hb
    rcases ha with rfl | ⟨ha, ha2⟩ <;> rcases hb with rfl | ⟨hb, hb2⟩
    · rfl
    · rcases hab with e1 | e1
      · exact absurd e1.symm (hne b hb hb2)
      · exact absurd e1.symm hb2
    · rcases hab with e1 | e1
      · exact absurd e1 (hne a ha ha2)
      · exact absurd e1 ha2
    · exact h.u a ha b hb hab
  · rw [mem_putH] at ha
    rcases ha with rfl | ⟨ha, _⟩
    · exact ⟨hi, hg⟩
    · have := h.l a ha; omega
/-- a new number in an old group, or in a new one -/
theorem UQ.new {N M : Nat} {H : List HEnt} (h : UQ N H) {e : HEnt} (h1 : N ≤ e.id) (h2 : e.id < M) (hg : e.grp < M) : UQ M (putH H e) :=
  h.put (by omega) h2 hg fun x hx _ e1 => by have := (h.l x hx).1; omega
/-- the block is turned -/
theorem UQ.set {N M : Nat} {H : List HEnt} (h : UQ N H) (hm : N ≤ M) {t g : Nat} {k k' : ABlk} (he : ⟨t, g, k⟩ ∈ H) : UQ M (putH H ⟨t, g, k'⟩) := by
  have hl := h.l _ he
  simp only at hl
  refine h.put hm (by simp only; omega) (by simp only; omega) fun x hx hg e1 => hg ?_
  have := h.u x hx _ he (.inl e1)
  rw [this]
theorem mem_setB1 {t g : Nat} {k : ABlk} : ∀ {H : List HEnt} {x : HEnt}, x ∈ H → x.grp ≠ g → x ∈ Eng.setB H t g k
  | [], x, h, _ => by simp at h
  | y :: H, x, h, hg => by
    rw [Eng.setB]
    rcases List.mem_cons.1 h with rfl | h
    · rw [if_neg hg]; simp
    · have := mem_setB1 (t := t) (k := k) h hg
      split
      · split
        · simp [this]
        · exact this
      · simp [this]
theorem mem_setB2 {t g : Nat} {k k' : ABlk} : ∀ {H : List HEnt}, ⟨t, g, k'⟩ ∈ H → ⟨t, g, k⟩ ∈ Eng.setB H t g k
  | [], h => by simp at h
  | y :: H, h => by
    rw [Eng.setB]
    rcases List.mem_cons.1 h with rfl | h
    · simp
    · have := mem_setB2 (k := k) h
      split
      · split
        · simp
        · exact this
      · simp [this]
theorem mem_dropG1 {t g : Nat} : ∀ {H : List HEnt} {x : HEnt}, x ∈ H → x.grp ≠ g → x ∈ dropG H t g
  | [], x, h, _ => by simp at h
  | y :: H, x, h, hg => by
    rw [dropG]
    rcases List.mem_cons.1 h with rfl | h
    · rw [if_neg hg]; simp
    · have := mem_dropG1 (t := t) h hg
      split
      · split
        · simp [this]
        · exact this
      · simp [this]
theorem mem_dropG0 {t g : Nat} : ∀ {H : List HEnt} {x : HEnt}, x ∈ dropG H t g → x ∈ H
  | [], x, h => by simp [dropG] at h
  | y :: H, x, h => by
    rw [dropG] at h
    split at h
    · split at h
      · rcases List.mem_cons.1 h with rfl | h
        · simp
        · exact List.mem_cons_of_mem _ (mem_dropG0 h)
      · exact List.mem_cons_of_mem _ (mem_dropG0 h)
    · rcases List.mem_cons.1 h with rfl | h
      · simp
      · exact List.mem_cons_of_mem _ (mem_dropG0 h)
theorem UQ.drop {N : Nat} {H : List HEnt} (h : UQ N H) (t g : Nat) : UQ N (dropG H t g) := ⟨fun a ha b hb => h.u a (mem_dropG0 ha) b (mem_dropG0 hb), fun a ha => h.l a (mem_dropG0 ha)⟩
abbrev eP2 (p : Int × Int) : AV := .agg [I p.1, I p.2]
theorem free_P2 (φ : Nat → Fate) (l : List (Int × Int)) : subs φ (l.map eP2) = l.map eP2 := subs_mapE φ _ (fun _ => rfl) l
abbrev Tr := List (Int × Int)
/-- a track: the number of its block, its group, its steps -/
abbrev TB := Nat × Nat × Tr
abbrev eTB (x : TB) : AV := .slice x.1 2 0 x.2.2.length
abbrev bTB (x : TB) : HEnt := ⟨x.1, x.2.1, .rows 36 2 (x.2.2.map eP2)⟩
def tkS (t : Int) (q : List Tr × L) (k : Nat) : List Tr × L :=
  if (q.2[k]?).getD 0 < 0 then (q.1 ++ [[(t, (k : Int))]], q.2.set k (q.1.length : Int))
  else (q.1.set ((q.2[k]?).getD 0).toNat ((q.1[((q.2[k]?).getD 0).toNat]?).getD [] ++ [(t, (k : Int))]), q.2)
def lkN : L → L → Nat → L → L
  | now, _, _, [] => now
  | now, prev, i, k :: r => lkN (if 0 ≤ k then now.set k.toNat ((prev[i]?).getD 0) else now) prev (i + 1) r
def tkNow (miss : Int) (t : Nat) (pv s : List Vo) (prev : L) : L := if t = 0 then List.replicate s.length (-1) else lkN (List.replicate s.length (-1)) prev 0 (liV pv s miss)
def tkScan (t : Nat) (tr : List Tr) (now : L) (n : Nat) : List Tr × L := (List.range n).foldl (tkS t) (tr, now)
def tkG (miss : Int) : Nat → List Vo → L → List Tr → List (List Vo) → List Tr
  | _, _, _, tr, [] => tr
  | t, pv, prev, tr, s :: r => tkG miss (t + 1) s (tkScan t tr (tkNow miss t pv s prev) s.length).2 (tkScan t tr (tkNow miss t pv s prev) s.length).1 r
def tkV (miss : Int) (l : List (List Vo)) : List Tr := tkG miss 0 [] [] [] l
/-- numbers of tracks, or none yet -/
def NR (n : Nat) (now : L) : Prop := ∀ x ∈ now, x = -1 ∨ (0 ≤ x ∧ x < (n : Int))
theorem NR.mono {n m : Nat} {now : L} (h : NR n now) (hm : n ≤ m) : NR m now := fun x hx => by have := h x hx; omega
theorem NR.set {n : Nat} {now : L} (h : NR n now) {k : Nat} {y : Int} (hy : y = -1 ∨ (0 ≤ y ∧ y < (n : Int))) : NR n (now.set k y) := fun x hx => by
  rcases List.mem_or_eq_of_mem_set hx with hx | rfl
  · exact h x hx
  · exact hy
theorem NR.rep (n k : Nat) : NR n (List.replicate k (-1)) := fun x hx => .inl (List.eq_of_mem_replicate hx)
end Wa
open Go Go.Proofs Eng
set_option maxRecDepth 100000
set_option linter.unusedSimpArgs false
set_option linter.unusedVariables false
namespace Wa
def OutOK (H : List HEnt) (T : List TB) (oA : AV) : Prop := (T = [] ∧ oA = .nilslice) ∨ ∃ id g, oA = .slice id 1 0 T.length ∧ (⟨id, g, .rows 35 1 (T.map eTB)⟩ : HEnt) ∈ H
def TrkOK (H : List HEnt) (T : List TB) : Prop := (∀ x ∈ T, bTB x ∈ H) ∧ (T.map fun x => x.2.1).Nodup
structure TkI where
  k : Nat
  now : L
  T : List TB
  oA : AV
  nA : AV
  H : List HEnt
  N : Nat
def NowOK (H : List HEnt) (now : L) (nA : AV) : Prop := ∃ id g, nA = .slice id 1 0 now.length ∧ (⟨id, g, .rows 3 1 (now.map eI)⟩ : HEnt) ∈ H
structure TkOK (m : Nat) (q : TkI) : Prop where
  uq : UQ q.N q.H
  out : OutOK q.H q.T q.oA
  trk : TrkOK q.H q.T
  now : NowOK q.H q.now q.nA
  nr : NR q.T.length q.now
  le : q.T.length ≤ m ∧ ∀ x ∈ q.T, x.2.2.length ≤ m
abbrev eVs (l : List Vo) : AV := .vs (l.map eVo)
theorem free_Vs (φ : Nat → Fate) (l : List (List Vo)) : subs φ (l.map eVs) = l.map eVs := subs_mapE φ _ (fun l => by simp only [sub1, free_Vo]) l
def S_ti (l : List (List Vo)) (n : Int) (t : Nat) (s : List Vo) (q : TkI) : AState := ⟨[.vs (l.map eVs), I n, .any, .any, .any, .any, .any, q.oA, .any, I t, .vs (s.map eVo), q.nA, .any, .any, .any, .any, .any, .any, .any, .any, .any, .any, .any, .any, .any, .any, .any, .vs (l.map eVs), I l.length, I t, .any, .any, .any, .any, .any, .any, .any, .any, .any, .any, .any, .any, .any, .any, .any, .any, .any, .any, .any, .any, .any, .any, .any, .any, .any, .any, .any, .any, .any, .any, .any, .any, .any, .any, .any, I s.length, I q.k, .any, .any, .any, .any, .any, .any, .any, .any, .any, .any, .any, .any, .any, .any, .any, .any, .any, .any, .any, .any, .any, .any, .any, .any, .any, .any, .any, .any, .any, .any, .any, .any, .any, .any, .any, .any, .any], q.H, q.N⟩
/-- one step more of a track that is there -/
theorem tk_old {m : Nat} {q : TkI} (h : TkOK m q) {t : Nat} {j : Nat} (hj : j < q.T.length) (hk : q.k < q.now.length) (hx : q.now[q.k] = (j : Int)) {M : Nat} (hM : q.N ≤ M) {idO gO : Nat} (hoA : q.oA = .slice idO 1 0 q.T.length) (ho : (⟨idO, gO, .rows 35 1 (q.T.map eTB)⟩ : HEnt) ∈ q.H) :
    TkOK (m + 1) ⟨q.k + 1, q.now, q.T.set j (M, q.T[j].2.1, q.T[j].2.2 ++ [((t : Int), (q.k : Int))]), q.oA, q.nA, putH (putH q.H (bTB (M, q.T[j].2.1, q.T[j].2.2 ++ [((t : Int), (q.k : Int))]))) ⟨idO, gO, .rows 35 1 ((q.T.set j (M, q.T[j].2.1, q.T[j].2.2 ++ [((t : Int), (q.k : Int))])).map eTB)⟩, M + 2⟩ ∧
    (q.T.set j (M, q.T[j].2.1, q.T[j].2.2 ++ [((t : Int), (q.k : Int))])).map (fun x => x.2.2) = (tkS t (q.T.map fun x => x.2.2, q.now) q.k).1 ∧ q.now = (tkS t (q.T.map fun x => x.2.2, q.now) q.k).2 := by
  obtain ⟨uq, out, ⟨trk, nod⟩, ⟨idN, gN, hnA, hnow⟩, nr, le1, le2⟩ := h
  have hmj := List.getElem_mem hj
  have hjb := trk _ hmj
  have hgl := (uq.l _ hjb).2
  have hol := uq.l _ ho
  have hnl := uq.l _ hnow
  simp only at hgl hol hnl
  -- groups apart
  have g1 : gO ≠ q.T[j].2.1 := fun e => by
    have := uq.u _ ho _ hjb (.inr e)
    simp at this
  have g2 : gN ≠ q.T[j].2.1 := fun e => by
    have := uq.u _ hnow _ hjb (.inr e)
    simp at this
  have g3 : gN ≠ gO := fun e => by
    have := uq.u _ hnow _ ho (.inr e)
    simp at this
  have g4 : ∀ i, ∀ hi : i < q.T.length, i ≠ j → q.T[i].2.1 ≠ q.T[j].2.1 := fun i hi hij e => by
    have hp := List.pairwise_iff_getElem.1 nod
    rcases Nat.lt_or_gt_of_ne hij with hl | hl
    · have := hp i j (by simpa using hi) (by simpa using hj) hl
      simp only [List.getElem_map] at this
      exact this e
    · have := hp j i (by simpa using hj) (by simpa using hi) hl
      simp only [List.getElem_map] at this
      exact this e.symm
  have g5 : ∀ i, ∀ hi : i < q.T.length, q.T[i].2.1 ≠ gO := fun i hi e => by
    have := uq.u _ (trk _ (List.getElem_mem hi)) _ ho (.inr e)
    simp at this
  generalize hps : q.T[j].2.2 = ps at *
  generalize hgj : q.T[j].2.1 = gj at *
  have u1 : UQ (M + 2) (putH q.H (bTB (M, gj, ps ++ [((t : Int), (q.k : Int))]))) := uq.new (by simp only; omega) (by simp only; omega) (by simp only; omega)
  have ho1 : (⟨idO, gO, .rows 35 1 (q.T.map eTB)⟩ : HEnt) ∈ putH q.H (bTB (M, gj, ps ++ [((t : Int), (q.k : Int))])) := mem_putH.2 (.inr ⟨ho, g1⟩)
  refine ⟨⟨u1.set (Nat.le_refl _) ho1, ?_, ⟨?_, ?_⟩, ?_, ?_, ?_⟩, ?_, ?_⟩
  · exact .inr ⟨idO, gO, by simp only [hoA, List.length_set], mem_putH.2 (.inl rfl)⟩
  · intro x hx
    rcases List.mem_iff_getElem.1 hx with ⟨i, hi, rfl⟩
    rw [List.length_set] at hi
    rw [List.getElem_set]
    split
    · exact mem_putH.2 (.inr ⟨mem_putH.2 (.inl rfl), fun e => g1 e.symm⟩)
    · rename_i hij
      exact mem_putH.2 (.inr ⟨mem_putH.2 (.inr ⟨trk _ (List.getElem_mem hi), g4 i hi (fun e => hij e.symm)⟩), g5 i hi⟩)
  · have : (q.T.set j (M, gj, ps ++ [((t : Int), (q.k : Int))])).map (fun x => x.2.1) = q.T.map fun x => x.2.1 := by
      rw [List.map_set]
      apply List.ext_getElem (by simp)
      intro i h1 h2
      rw [List.getElem_set]
      split
      · rename_i e; subst e; simp [hgj]
      · rfl
    simp only
    rw [this]; exact nod
  · exact ⟨idN, gN, hnA, mem_putH.2 (.inr ⟨mem_putH.2 (.inr ⟨hnow, g2⟩), g3⟩)⟩
  · simp only [List.length_set]; exact nr
  · refine ⟨by simp only [List.length_set]; omega, fun x hx => ?_⟩
    rcases List.mem_or_eq_of_mem_set hx with hx | rfl
    · have := le2 x hx; omega
    · have := le2 _ hmj
      rw [hps] at this
      simp only [List.length_append, List.length_cons, List.length_nil]; omega
  · have hn : ¬ ((q.now[q.k]?).getD 0 < 0) := by
      rw [List.getElem?_eq_getElem hk, Option.getD_some, hx]; omega
    unfold tkS
    rw [if_neg hn]
    simp only
    rw [List.getElem?_eq_getElem hk, Option.getD_some, hx, Int.toNat_natCast, List.map_set, List.getElem?_map, List.getElem?_eq_getElem hj]
    simp [hps]
  · have hn : ¬ ((q.now[q.k]?).getD 0 < 0) := by
      rw [List.getElem?_eq_getElem hk, Option.getD_some, hx]; omega
    unfold tkS
    rw [if_neg hn]
/-- a new track -/
theorem tk_new {m : Nat} {q : TkI} (h : TkOK m q) {t : Nat} (hk : q.k < q.now.length) (hx : q.now[q.k] = -1) {idN gN : Nat} (hnA : q.nA = .slice idN 1 0 q.now.length) (hnow : (⟨idN, gN, .rows 3 1 (q.now.map eI)⟩ : HEnt) ∈ q.H) {M idO gO : Nat} (hM : q.N ≤ M) (hMO : q.N ≤ idO ∧ idO < M)
    (hgO : (q.T = [] ∧ gO = idO) ∨ ∃ i, (⟨i, gO, .rows 35 1 (q.T.map eTB)⟩ : HEnt) ∈ q.H) :
    TkOK (m + 1) ⟨q.k + 1, q.now.set q.k (q.T.length : Int), q.T ++ [(M, M, [((t : Int), (q.k : Int))])], .slice idO 1 0 (q.T.length + 1), q.nA, putH (putH (putH q.H ⟨idN, gN, .rows 3 1 ((q.now.set q.k (q.T.length : Int)).map eI)⟩) (bTB (M, M, [((t : Int), (q.k : Int))]))) ⟨idO, gO, .rows 35 1 ((q.T ++ [(M, M, [((t : Int), (q.k : Int))])]).map eTB)⟩, M + 2⟩ ∧
    (q.T ++ [(M, M, [((t : Int), (q.k : Int))])]).map (fun x => x.2.2) = (tkS t (q.T.map fun x => x.2.2, q.now) q.k).1 ∧ q.now.set q.k (q.T.length : Int) = (tkS t (q.T.map fun x => x.2.2, q.now) q.k).2 := by
  obtain ⟨uq, out, ⟨trk, nod⟩, _, nr, le1, le2⟩ := h
  have hnl := uq.l _ hnow
  simp only at hnl
  have hgO2 : gO ≤ idO ∧ gN ≠ gO ∧ ∀ x ∈ q.T, x.2.1 ≠ gO := by
    rcases hgO with ⟨e1, e2⟩ | ⟨i, hi⟩
    · refine ⟨by omega, by omega, fun x hx => ?_⟩
      rw [e1] at hx; simp at hx
    · have := uq.l _ hi
      simp only at this
      refine ⟨by omega, fun e => ?_, fun x hx e => ?_⟩
      · have := uq.u _ hnow _ hi (.inr e)
        simp at this
      · have := uq.u _ (trk x hx) _ hi (.inr e)
        simp at this
  obtain ⟨b1, b2, b3⟩ := hgO2
  have u0 : UQ (M + 2) (putH q.H ⟨idN, gN, .rows 3 1 ((q.now.set q.k (q.T.length : Int)).map eI)⟩) := uq.set (by omega) hnow
  have u0' : UQ q.N (putH q.H ⟨idN, gN, .rows 3 1 ((q.now.set q.k (q.T.length : Int)).map eI)⟩) := uq.set (Nat.le_refl _) hnow
  have u1 : UQ (M + 2) (putH (putH q.H ⟨idN, gN, .rows 3 1 ((q.now.set q.k (q.T.length : Int)).map eI)⟩) (bTB (M, M, [((t : Int), (q.k : Int))]))) := u0'.new (by simp only; omega) (by simp only; omega) (by simp only; omega)
  refine ⟨⟨?_, ?_, ⟨?_, ?_⟩, ?_, ?_, ?_⟩, ?_, ?_⟩
  · refine u1.put (Nat.le_refl _) (by simp only; omega) (by simp only; omega) fun x hx hg e => ?_
    simp only at hg e
    rw [mem_putH] at hx
    rcases hx with rfl | ⟨hx, _⟩
    · simp only at e; omega
    · have := u0'.l x hx
      omega
  · exact .inr ⟨idO, gO, by simp only [List.length_append, List.length_cons, List.length_nil], mem_putH.2 (.inl rfl)⟩
  · intro x hx
    rcases List.mem_append.1 hx with hx | hx
    · have hl := uq.l _ (trk x hx)
      simp only at hl
      have hne : x.2.1 ≠ gN := fun e => by
        have := uq.u _ (trk x hx) _ hnow (.inr e)
        simp at this
      exact mem_putH.2 (.inr ⟨mem_putH.2 (.inr ⟨mem_putH.2 (.inr ⟨trk x hx, hne⟩), by simp only; omega⟩), b3 x hx⟩)
    · rw [List.mem_singleton.1 hx]
      exact mem_putH.2 (.inr ⟨mem_putH.2 (.inl rfl), by simp only; omega⟩)
  · rw [List.map_append, List.nodup_append]
    refine ⟨nod, by simp, fun a ha b hb => ?_⟩
    obtain ⟨x, hx, rfl⟩ := List.mem_map.1 ha
    have hl := uq.l _ (trk x hx)
    simp only at hl
    simp only [List.map_cons, List.map_nil, List.mem_singleton] at hb
    omega
  · refine ⟨idN, gN, by simp only [hnA, List.length_set], mem_putH.2 (.inr ⟨mem_putH.2 (.inr ⟨mem_putH.2 (.inl rfl), ?_⟩), b2⟩)⟩
    simp only; omega
  · simp only [List.length_append, List.length_cons, List.length_nil]
    exact (nr.mono (Nat.le_succ _)).set (.inr ⟨by omega, by omega⟩)
  · refine ⟨by simp only [List.length_append, List.length_cons, List.length_nil]; omega, fun x hx => ?_⟩
    rcases List.mem_append.1 hx with hx | hx
    · have := le2 x hx; omega
    · rw [List.mem_singleton.1 hx]
      simp only [List.length_cons, List.length_nil]; omega
  · have hn : (q.now[q.k]?).getD 0 < 0 := by
      rw [List.getElem?_eq_getElem hk, Option.getD_some, hx]; decide
    unfold tkS
    rw [if_pos hn, List.map_append]
    rfl
  · have hn : (q.now[q.k]?).getD 0 < 0 := by
      rw [List.getElem?_eq_getElem hk, Option.getD_some, hx]; decide
    unfold tkS
    rw [if_pos hn]
    simp only [List.length_map]
end Wa
