import Derived.Test.YtabkbhpeeefmgabEngS9
import Derived.Test.YtabkbhpeeefmgabW912
open Go Go.Proofs Eng
set_option maxRecDepth 100000
set_option linter.unusedSimpArgs false
set_option linter.unusedVariables false
def a28 : AC := .seq (.ops false [] [⟨some 4, .p (.mov), [.c (.int .i64 0)], none⟩]) (.seq (.ops false [] [⟨some 5, .p (.mov), [.c (.int .i64 0)], none⟩]) (.seq (.seq (.ops false [] [⟨some 6, .p (.mov), [.c (.int .i64 0)], none⟩]) (.block 0 (.loop (.seq (.seq (.ops false [] [⟨some 7, .p (.mov), [.t 6], none⟩, ⟨some 8, .p (.mov), [.t 1], none⟩, ⟨some 9, .p (.lenS), [.t 8], none⟩, ⟨some 10, .p (.binI .lss), [.t 7, .t 9], none⟩]) (.cond (.t 10) (.skip) (.exit 0))) (.seq (.block 1 (.ops true [] [⟨some 13, .p (.mov), [.t 5], none⟩, ⟨some 14, .p (.mov), [.t 0], none⟩, ⟨some 15, .p (.mov), [.t 6], none⟩, ⟨some 16, .p (.iaddrS 1), [.t 14, .t 15], none⟩, ⟨some 17, .load 1 false, [.t 16], none⟩, ⟨some 18, .p (.mov), [.t 1], none⟩, ⟨some 19, .p (.mov), [.t 6], none⟩, ⟨some 20, .p (.iaddrS 1), [.t 18, .t 19], none⟩, ⟨some 21, .load 1 false, [.t 20], none⟩, ⟨some 22, .p (.iaddrS 1), [.t 17, .t 21], none⟩, ⟨some 23, .load 1 false, [.t 22], none⟩, ⟨some 24, .p (.binI .add), [.t 13, .t 23], none⟩, ⟨some 5, .p (.mov), [.t 24], none⟩])) (.ops false [] [⟨some 11, .p (.mov), [.t 6], none⟩, ⟨some 12, .p (.binI .add), [.t 11, .c (.int .i64 1)], none⟩, ⟨some 6, .p (.mov), [.t 12], none⟩])))))) (.seq (.ops false [] [⟨some 25, .p (.mov), [.t 5], none⟩, ⟨some 4, .p (.mov), [.t 25], none⟩]) (.ret))))
theorem c28 : FnC Try.prog 28 26 a28 [.tmp 4] := ⟨Try.call28, _, _, Try.func28, rfl, by kernel_rfl, by kernel_rfl, rfl⟩
def a60 : AC := .seq (.ops false [] [⟨some 4, .p (.mov), [.c (.bool false)], none⟩]) (.seq (.ops false [] [⟨some 5, .p (.mov), [.t 0], none⟩, ⟨some 6, .p (.mov), [.t 1], none⟩, ⟨some 7, .call 90, [.t 5, .t 6], none⟩, ⟨some 8, .p (.binI .geq), [.t 7, .c (.int .i64 0)], none⟩, ⟨some 4, .p (.mov), [.t 8], none⟩]) (.ret))
theorem c60 : FnC Try.prog 60 9 a60 [.tmp 4] := ⟨Try.call60, _, _, Try.func60, rfl, by kernel_rfl, by kernel_rfl, rfl⟩
def a61 : AC := .seq (.ops false [] [⟨some 4, .p (.mov), [.c (.bool false)], none⟩]) (.seq (.ops true [] [⟨some 5, .p (.mov), [.t 0], none⟩, ⟨some 6, .load 1 false, [.t 1], none⟩, ⟨some 7, .p (.iaddrS 1), [.t 5, .t 6], none⟩, ⟨some 8, .load 1 false, [.t 7], none⟩, ⟨some 9, .load 1 false, [.t 2], none⟩, ⟨some 10, .p (.iaddrS 1), [.t 9, .c (.int .i64 0)], none⟩, ⟨some 11, .load 1 false, [.t 10], none⟩, ⟨some 12, .load 1 false, [.t 1], none⟩, ⟨some 13, .p (.iaddrS 1), [.t 11, .t 12], none⟩, ⟨some 14, .load 1 false, [.t 13], none⟩, ⟨some 15, .p (.binI .neq), [.t 8, .t 14], none⟩, ⟨some 4, .p (.mov), [.t 15], none⟩]) (.ret))
theorem c61 : FnC Try.prog 61 16 a61 [.tmp 4] := ⟨Try.call61, _, _, Try.func61, rfl, by kernel_rfl, by kernel_rfl, rfl⟩
def a90 : AC := .seq (.ops false [] [⟨some 4, .p (.mov), [.c (.int .i64 0)], none⟩]) (.seq (.seq (.ops false [] [⟨some 6, .p (.mov), [.t 0], none⟩, ⟨some 7, .p (.lenS), [.t 6], none⟩, ⟨some 8, .p (.mov), [.c (.int .i64 0)], none⟩]) (.block 0 (.loop (.seq (.ops false [] [⟨some 9, .p (.binI .lss), [.t 8, .t 7], none⟩]) (.seq (.cond (.t 9) (.skip) (.exit 0)) (.seq (.block 1 (.seq (.ops false [] [⟨some 10, .p (.mov), [.t 8], none⟩, ⟨some 5, .p (.mov), [.t 10], none⟩]) (.seq (.ops false [] [⟨some 11, .p (.mov), [.t 1], none⟩, ⟨some 12, .p (.mov), [.t 0], none⟩, ⟨some 13, .p (.mov), [.t 5], none⟩, ⟨some 14, .p (.iaddrS 1), [.t 12, .t 13], none⟩, ⟨some 15, .load 1 false, [.t 14], none⟩, ⟨some 16, .callv, [.t 11, .t 15], none⟩]) (.cond (.t 16) (.seq (.ops false [] [⟨some 17, .p (.mov), [.t 5], none⟩, ⟨some 4, .p (.mov), [.t 17], none⟩]) (.ret)) (.skip))))) (.ops false [] [⟨some 18, .p (.binI .add), [.t 8, .c (.int .i64 1)], none⟩, ⟨some 8, .p (.mov), [.t 18], none⟩]))))))) (.seq (.ops false [] [⟨some 4, .p (.mov), [.c (.int .i64 (-1))], none⟩]) (.ret)))
theorem c90 : FnC Try.prog 90 19 a90 [.tmp 4] := ⟨Try.call90, _, _, Try.func90, rfl, by kernel_rfl, by kernel_rfl, rfl⟩
namespace Wa
def S_rk (m : List L) (p : L) (a : Int) (i : Nat) : AState := ⟨[.vs (m.map eL), .vs (p.map eI), .any, .any, .any, I a, I i, .any, .any, .any, .any, .any, .any, .any, .any, .any, .any, .any, .any, .any, .any, .any, .any, .any, .any, .any], [], 0⟩
theorem k_rCost (m : List L) (p : L) (h : (cmV m).2 = 0 ∧ p.length = m.length ∧ ∀ k ∈ p, 0 ≤ k ∧ k < (m.length : Int)) : FOk P 28 [.vs (m.map eL), .vs (p.map eI)] (I (cst m p)) := by
  obtain ⟨h0, hl, hp⟩ := h
  have hma := cmV_z h0
  have hn := hma.n
  refine c28.fok (by simp only [subs, sub1, free_L, free_I]) (Cor.run (noC_good _) (noHx_good _) hm ?_)
  simp +contextual -implicitDefEqProofs (maxSteps := 2000000) only [bg_eq, a28, Int.natCast_zero, ruB, rh_no, Int.reduceLT, Int.reduceLE, Int.reduceAdd, Int.reduceSub, Int.reduceMul, Int.reduceNeg, Int.reduceToNat, Int.reduceEq, Int.reduceNe, Int.reduceTDiv, Int.reduceTMod, implies_true, putL, appN, appX, appC, Eng.Fi, reduceCtorEq, exists_eq_left', exists_eq_left, if_true, if_false, List.replicate, Nat.reduceAdd, Nat.reduceSub, Nat.reduceMul, Nat.reduceLeDiff, Nat.reduceLT, Nat.reduceEqDiff]
  refine Cor.lp (noC_good _) (noHx_good _) hm (fun i : Nat => S_rk m p (cst m (p.take i)) i) (fun i => i ≤ p.length) (fun i => p.length - i) (a := 0) (Nat.zero_le _) (Wkn.keep [0, 1, 5, 6] rfl) ?_
  intro f i hi go
  try simp only at hi go ⊢
  rcases Nat.lt_or_ge i p.length with hlt | hge
  · have e1 : ((i : Int) < (p.length : Int)) = True := eq_true (by omega)
    have e2 : (p.map eI)[i]? = some (eI p[i]) := get_e eI p hlt
    have e3 : IntKind.wrap .i64 ((i : Int) + 1) = ((i + 1 : Nat) : Int) := suc_w (by omega)
    have e4 : (m.map eL)[i]? = some (eL m[i]) := get_e eL m (by omega)
    have hk := hp p[i] (by simp)
    have hr := (hma.r m[i] (by simp)).1
    obtain ⟨k, hke⟩ : ∃ k : Nat, p[i] = (k : Int) := ⟨p[i].toNat, by omega⟩
    have hkr : k < m[i].length := by omega
    have e5 : (m[i].map eI)[k]? = some (eI m[i][k]) := get_e eI m[i] hkr
    have hcell : cell m i (k : Int) = m[i][k] := cell_get (by omega) hkr
    have hsn := cst_snoc m (p.take i) p[i]
    rw [← List.take_succ_eq_append_getElem hlt, show (p.take i).length = i by simp; omega, hke, hcell] at hsn
    have hb1 := cst_bd hma (p.take i)
    have hb2 := cst_bd hma (p.take (i + 1))
    have l1 : (p.take i).length ≤ 6 := by simp; omega
    have l2 : (p.take (i + 1)).length ≤ 6 := by simp; omega
    have w1 : IntKind.wrap .i64 (cst m (p.take i) + m[i][k]) = cst m (p.take (i + 1)) := by rw [← hsn]; exact wrap64 (by omega) (by omega)
    have go' := go
    have q5 : (k < m[i].length) = True := eq_true hkr
    rw [hke] at e2
    have hst : S_rk m p (cst m (p.take (i + 1))) (i + 1) = ⟨[.vs (m.map eL), .vs (p.map eI), .any, .any, .any, I (cst m (p.take (i + 1))), I ((i + 1 : Nat) : Int), .any, .any, .any, .any, .any, .any, .any, .any, .any, .any, .any, .any, .any, .any, .any, .any, .any, .any, .any], [], 0⟩ := rfl
    have hst0 : S_rk m p (cst m (p.take i)) i = ⟨[.vs (m.map eL), .vs (p.map eI), .any, .any, .any, I (cst m (p.take i)), I (i : Int), .any, .any, .any, .any, .any, .any, .any, .any, .any, .any, .any, .any, .any, .any, .any, .any, .any, .any, .any], [], 0⟩ := rfl
    rw [hst0]
    have key := fun s' hw => go s' (i + 1) hlt (by omega) hw
    rw [hst] at key
    generalize cst m (p.take (i + 1)) = c2 at *
    generalize cst m (p.take i) = c1 at *
    obtain ⟨row, hrow⟩ : ∃ row, m[i] = row := ⟨_, rfl⟩
    simp only [hrow] at e4 e5 w1
    generalize row[k]'(by rw [← hrow]; exact hkr) = x at *
    simp +contextual -implicitDefEqProofs (maxSteps := 2000000) only [e1, e2, e3, e4, e5, w1, List.length_map, ruB, rh_no, Int.reduceLT, Int.reduceLE, Int.reduceAdd, Int.reduceSub, Int.reduceMul, Int.reduceNeg, Int.reduceToNat, Int.reduceEq, Int.reduceNe, Int.reduceTDiv, Int.reduceTMod, implies_true, putL, appN, appX, appC, Eng.Fi, reduceCtorEq, exists_eq_left', exists_eq_left, if_true, if_false, List.replicate, Nat.reduceAdd, Nat.reduceSub, Nat.reduceMul, Nat.reduceLeDiff, Nat.reduceLT, Nat.reduceEqDiff]
    exact key _ (Wkn.keep [0, 1, 5, 6] rfl)
  · have e1 : ((i : Int) < (p.length : Int)) = False := eq_false (by omega)
    rw [List.take_of_length_le hge]
    simp +contextual -implicitDefEqProofs (maxSteps := 2000000) only [S_rk, e1, List.length_map, ruB, rh_no, Int.reduceLT, Int.reduceLE, Int.reduceAdd, Int.reduceSub, Int.reduceMul, Int.reduceNeg, Int.reduceToNat, Int.reduceEq, Int.reduceNe, Int.reduceTDiv, Int.reduceTMod, implies_true, putL, appN, appX, appC, Eng.Fi, reduceCtorEq, exists_eq_left', exists_eq_left, if_true, if_false, List.replicate, Nat.reduceAdd, Nat.reduceSub, Nat.reduceMul, Nat.reduceLeDiff, Nat.reduceLT, Nat.reduceEqDiff]
def cf_rCost : List AV → Option AV
  | [.vs m_v, .vs p_v] => onL dL m_v fun m => onL dI p_v fun p => if (cmV m).2 = 0 ∧ p.length = m.length ∧ ∀ k ∈ p, 0 ≤ k ∧ k < (m.length : Int) then some (I (cst m p)) else none
  | _ => none
theorem g_rCost : Fn P 28 cf_rCost := fun args v hh => by
  unfold cf_rCost at hh; split at hh
  · obtain ⟨m, rfl, hh1⟩ := onL_inv dL_inv hh
    obtain ⟨p, rfl, hh2⟩ := onL_inv dI_inv hh1
    split at hh2
    · rename_i hc; have hk := Option.some.inj hh2; subst hk; exact k_rCost _ _ hc
    · cases hh2
  · cases hh
theorem x_rCost (m : List L) (p : List Int) (hc : ((cmV m).2 = 0 ∧ p.length = m.length ∧ ∀ k ∈ p, 0 ≤ k ∧ k < (m.length : Int)) = True) : cf_rCost [.vs (m.map eL), .vs (p.map eI)] = some (I (cst m p)) := by
  simp only [cf_rCost, onL_map dI_e, onL_map dL_e]
  exact if_pos (by rw [hc]; trivial)
def InvC (m : List L) (l0 : List L) : Option (List L × Int) → Prop
  | none => l0 = []
  | some (l', c) => l' = l0.filter (fun p => decide (cst m p = c)) ∧ ∀ p ∈ l0, c ≤ cst m p
theorem cp_inv1 (m : List L) (l0 : List L) (x : Option (List L × Int)) (p : L) (h : InvC m l0 x) : InvC m (l0 ++ [p]) (cpS m x p) := by
  cases x with
  | none =>
    have h : l0 = [] := h
    subst h
    rw [cpS]
    exact ⟨by simp, fun q hq => by rw [List.mem_singleton.1 hq]; exact Int.le_refl _⟩
  | some y =>
    obtain ⟨l', c⟩ := y
    obtain ⟨h1, h2⟩ := h
    rw [cpS]
    split
    · rename_i hlt
      refine ⟨?_, fun q hq => ?_⟩
      · rw [List.filter_append]
        have : l0.filter (fun q => decide (cst m q = cst m p)) = [] := List.filter_eq_nil_iff.2 fun q hq => by
          have := h2 q hq
          simp only [decide_eq_true_eq]
          omega
        rw [this]; simp
      · rcases List.mem_append.1 hq with hq | hq
        · have := h2 q hq; omega
        · rw [List.mem_singleton.1 hq]; exact Int.le_refl _
    · split
      · rename_i heq
        refine ⟨by rw [List.filter_append, ← h1]; simp [heq], fun q hq => ?_⟩
        rcases List.mem_append.1 hq with hq | hq
        · exact h2 q hq
        · rw [List.mem_singleton.1 hq]; omega
      · rename_i h3 h4
        refine ⟨by rw [List.filter_append, ← h1]; simp [h4], fun q hq => ?_⟩
        rcases List.mem_append.1 hq with hq | hq
        · exact h2 q hq
        · rw [List.mem_singleton.1 hq]; omega
theorem cp_inv (m : List L) : ∀ (l l0 : List L) (x : Option (List L × Int)), InvC m l0 x → InvC m (l0 ++ l) (l.foldl (cpS m) x)
  | [], l0, x, h => by rw [List.append_nil]; exact h
  | p :: l, l0, x, h => by
    have := cp_inv m l (l0 ++ [p]) (cpS m x p) (cp_inv1 m l0 x p h)
    rwa [List.append_assoc] at this
theorem chV_fil (m : List L) : (chV m).1 = (permG m.length m.length []).filter (fun p => decide (cst m p = (chV m).2)) := by
  obtain ⟨y, hy⟩ := cp_some m (permG m.length m.length []) none (.inl (perm_ne _))
  have h := cp_inv m (permG m.length m.length []) [] none rfl
  rw [hy] at h
  obtain ⟨l, c⟩ := y
  have hy' : chO m = some (l, c) := hy
  rw [chV, hy']
  exact h.1
end Wa
open Go Go.Proofs Eng
set_option maxRecDepth 100000
set_option linter.unusedSimpArgs false
set_option linter.unusedVariables false
namespace Wa
theorem tk_L0 (l : List L) : (l.map eL).take l.length = l.map eL := by rw [List.take_of_length_le]; simp
end Wa
open Go Go.Proofs Eng
set_option maxRecDepth 100000
set_option linter.unusedSimpArgs false
set_option linter.unusedVariables false
namespace Wa
def gk (k : Nat) (p : L) : Int := (p[k]?).getD 0
theorem gk_get {k : Nat} {p : L} (h : k < p.length) : (p.map eI)[k]? = some (eI (gk k p)) := by
  unfold gk
  rw [List.getElem?_map, List.getElem?_eq_getElem h]; rfl
def ceB (k : Int) (b : List L) : Prop := 0 ≤ k ∧ k ≤ 1000 ∧ 0 < b.length ∧ k.toNat < (b.headD []).length
instance (k : Int) (b : List L) : Decidable (ceB k b) := by unfold ceB; infer_instance
theorem k_CertainIn1 (p : L) (k : Int) (b : List L) (h : ceB k b ∧ k.toNat < p.length) : FOk P 61 [.vs (p.map eI), .vp [I k] 0 0, .vp [.vs (b.map eL)] 0 0] (.bool (decide (¬ gk k.toNat p = gk k.toNat (b.headD [])))) := by
  obtain ⟨⟨h0, hk, hb, hbk⟩, hp⟩ := h
  obtain ⟨n, rfl⟩ : ∃ n : Nat, k = n := ⟨k.toNat, by omega⟩
  rw [Int.toNat_natCast] at *
  have e1 := gk_get hp
  have e2 : (b.map eL)[0]? = some (eL (b.headD [])) := by
    cases b with
    | nil => simp at hb
    | cons q r => rfl
  have e3 := gk_get hbk
  generalize gk n p = x at *
  generalize b.headD [] = q at *
  generalize gk n q = y at *
  refine c61.fok (by simp only [subs, sub1, free_L, free_I]) (Cor.run (noC_good _) (noHx_good _) hm ?_)
  simp +contextual -implicitDefEqProofs (maxSteps := 2000000) only [bg_eq, a61, e1, e2, e3, Int.natCast_zero, ruB, rh_no, Int.reduceLT, Int.reduceLE, Int.reduceAdd, Int.reduceSub, Int.reduceMul, Int.reduceNeg, Int.reduceToNat, Int.reduceEq, Int.reduceNe, Int.reduceTDiv, Int.reduceTMod, implies_true, putL, appN, appX, appC, Eng.Fi, reduceCtorEq, exists_eq_left', exists_eq_left, if_true, if_false, List.replicate, Nat.reduceAdd, Nat.reduceSub, Nat.reduceMul, Nat.reduceLeDiff, Nat.reduceLT, Nat.reduceEqDiff]
def cf_CertainIn1 : List AV → Option AV
  | [.vs p_v, .vp [.int .i64 k] 0 0, .vp [.vs b_v] 0 0] => onL dI p_v fun p => onL dL b_v fun b => if ceB k b ∧ k.toNat < p.length then some (.bool (decide (¬ gk k.toNat p = gk k.toNat (b.headD [])))) else none
  | _ => none
theorem g_CertainIn1 : Fn P 61 cf_CertainIn1 := fun args v hh => by
  unfold cf_CertainIn1 at hh; split at hh
  · obtain ⟨p, rfl, hh1⟩ := onL_inv dI_inv hh
    obtain ⟨b, rfl, hh2⟩ := onL_inv dL_inv hh1
    split at hh2
    · rename_i hc; have hk := Option.some.inj hh2; subst hk; exact k_CertainIn1 _ _ _ hc
    · cases hh2
  · cases hh
theorem x_CertainIn1 (p : List Int) (k : Int) (b : List L) (hc : (ceB k b ∧ k.toNat < p.length) = True) : cf_CertainIn1 [.vs (p.map eI), .vp [.int .i64 k] 0 0, .vp [.vs (b.map eL)] 0 0] = some (.bool (decide (¬ gk k.toNat p = gk k.toNat (b.headD [])))) := by
  simp only [cf_CertainIn1, onL_map dI_e, onL_map dL_e]
  exact if_pos (by rw [hc]; trivial)
def ifL (k : Nat) (q : L) : Nat → List L → Int
  | _, [] => -1
  | n, p :: r => if ¬ gk k p = gk k q then n else ifL k q (n + 1) r
def neP (k : Nat) (q : L) (l : List L) : Prop := ∃ p ∈ l, ¬ gk k p = gk k q
instance (k : Nat) (q : L) (l : List L) : Decidable (neP k q l) := by unfold neP; infer_instance
theorem ifL_ne (k : Nat) (q : L) : ∀ (l : List L) (n : Nat), decide (0 ≤ ifL k q n l) = decide (neP k q l)
  | [], n => by simp [ifL, neP]
  | p :: r, n => by
    rw [ifL]
    split
    · rename_i h
      have : neP k q (p :: r) := ⟨p, by simp, h⟩
      simp [this]
    · rename_i h
      rw [ifL_ne k q r (n + 1)]
      exact decide_eq_decide.2 ⟨fun ⟨x, hx, hb⟩ => ⟨x, by simp [hx], hb⟩, fun ⟨x, hx, hb⟩ => by
        rcases List.mem_cons.1 hx with rfl | hx
        · exact absurd hb h
        · exact ⟨x, hx, hb⟩⟩
abbrev fnC (k : Int) (b : List L) : AV := .fn 61 [] [.vp [I k] 0 0, .vp [.vs (b.map eL)] 0 0]
def S_iL (l : List L) (k : Int) (b : List L) (n : Nat) : AState := ⟨[.vs (l.map eL), fnC k b, .any, .any, .any, .any, .vs (l.map eL), I l.length, I n, .any, .any, .any, .any, .any, .any, .any, .any, .any, .any], [], 0⟩
theorem k_IndexFuncL (l : List L) (k : Int) (b : List L) (h : ceB k b ∧ l.length ≤ 100000 ∧ ∀ p ∈ l, k.toNat < p.length) : FOk P 90 [.vs (l.map eL), .fn 61 [] [.vp [I k] 0 0, .vp [.vs (b.map eL)] 0 0]] (I (ifL k.toNat (b.headD []) 0 l)) := by
  obtain ⟨hc, hl, hp⟩ := h
  refine c90.fok (by simp only [subs, sub1, free_L]) (Cor.run (addC_good g_CertainIn1 (noC_good _)) (noHx_good _) hm ?_)
  simp +contextual -implicitDefEqProofs (maxSteps := 2000000) only [bg_eq, a90, List.length_map, ruB, rh_no, Int.reduceLT, Int.reduceLE, Int.reduceAdd, Int.reduceSub, Int.reduceMul, Int.reduceNeg, Int.reduceToNat, Int.reduceEq, Int.reduceNe, Int.reduceTDiv, Int.reduceTMod, implies_true, putL, appN, appX, appC, Eng.Fi, reduceCtorEq, exists_eq_left', exists_eq_left, if_true, if_false, List.replicate, Nat.reduceAdd, Nat.reduceSub, Nat.reduceMul, Nat.reduceLeDiff, Nat.reduceLT, Nat.reduceEqDiff]
  refine Cor.lp (addC_good g_CertainIn1 (noC_good _)) (noHx_good _) hm (S_iL l k b) (fun n => n ≤ l.length ∧ ifL k.toNat (b.headD []) 0 l = ifL k.toNat (b.headD []) n (l.drop n)) (fun n => l.length - n) (a := 0) ⟨Nat.zero_le _, rfl⟩ (Wkn.keep [0, 1, 6, 7, 8] rfl) ?_
  intro f n ⟨hn, hf⟩ go
  rcases Nat.lt_or_ge n l.length with h | h
  · have e1 : decide ((n : Int) < (l.length : Int)) = true := lt_t h
    have e2 : (l.map eL)[n]? = some (eL l[n]) := get_e eL l h
    have e3 : IntKind.wrap .i64 ((n : Int) + 1) = ((n + 1 : Nat) : Int) := suc_w (by omega)
    have y := x_CertainIn1 l[n] k b (by simp only [eq_iff_iff, iff_true]; exact ⟨hc, hp l[n] (by simp)⟩)
    rw [List.drop_eq_getElem_cons h, ifL] at hf
    by_cases c1 : gk k.toNat l[n] = gk k.toNat (b.headD [])
    · have c1' := eq_true c1
      rw [if_neg (fun q => q c1)] at hf
      simp +contextual -implicitDefEqProofs (maxSteps := 2000000) only [S_iL, e1, e2, e3, y, c1', not_true_eq_false, ruB, rh_no, Int.reduceLT, Int.reduceLE, Int.reduceAdd, Int.reduceSub, Int.reduceMul, Int.reduceNeg, Int.reduceToNat, Int.reduceEq, Int.reduceNe, Int.reduceTDiv, Int.reduceTMod, implies_true, putL, appN, appX, appC, Eng.Fi, reduceCtorEq, exists_eq_left', exists_eq_left, if_true, if_false, List.replicate, Nat.reduceAdd, Nat.reduceSub, Nat.reduceMul, Nat.reduceLeDiff, Nat.reduceLT, Nat.reduceEqDiff]
      exact go _ (n + 1) ⟨h, hf⟩ (by omega) (Wkn.keep [0, 1, 6, 7, 8] rfl)
    · have c1' := eq_false c1
      rw [if_pos c1] at hf
      rw [hf]
      simp +contextual -implicitDefEqProofs (maxSteps := 2000000) only [S_iL, e1, e2, e3, y, c1', not_false_eq_true, ruB, rh_no, Int.reduceLT, Int.reduceLE, Int.reduceAdd, Int.reduceSub, Int.reduceMul, Int.reduceNeg, Int.reduceToNat, Int.reduceEq, Int.reduceNe, Int.reduceTDiv, Int.reduceTMod, implies_true, putL, appN, appX, appC, Eng.Fi, reduceCtorEq, exists_eq_left', exists_eq_left, if_true, if_false, List.replicate, Nat.reduceAdd, Nat.reduceSub, Nat.reduceMul, Nat.reduceLeDiff, Nat.reduceLT, Nat.reduceEqDiff]
  · have e1 : decide ((n : Int) < (l.length : Int)) = false := lt_f h
    rw [List.drop_eq_nil_of_le h, ifL] at hf
    rw [hf]
    simp +contextual -implicitDefEqProofs (maxSteps := 2000000) only [S_iL, e1, ruB, rh_no, Int.reduceLT, Int.reduceLE, Int.reduceAdd, Int.reduceSub, Int.reduceMul, Int.reduceNeg, Int.reduceToNat, Int.reduceEq, Int.reduceNe, Int.reduceTDiv, Int.reduceTMod, implies_true, putL, appN, appX, appC, Eng.Fi, reduceCtorEq, exists_eq_left', exists_eq_left, if_true, if_false, List.replicate, Nat.reduceAdd, Nat.reduceSub, Nat.reduceMul, Nat.reduceLeDiff, Nat.reduceLT, Nat.reduceEqDiff]
def cf_IndexFuncL : List AV → Option AV
  | [.vs l_v, .fn 61 [] [.vp [.int .i64 k] 0 0, .vp [.vs b_v] 0 0]] => onL dL l_v fun l => onL dL b_v fun b => if ceB k b ∧ l.length ≤ 100000 ∧ ∀ p ∈ l, k.toNat < p.length then some (I (ifL k.toNat (b.headD []) 0 l)) else none
  | _ => none
theorem g_IndexFuncL : Fn P 90 cf_IndexFuncL := fun args v hh => by
  unfold cf_IndexFuncL at hh; split at hh
  · obtain ⟨l, rfl, hh1⟩ := onL_inv dL_inv hh
    obtain ⟨b, rfl, hh2⟩ := onL_inv dL_inv hh1
    split at hh2
    · rename_i hc; have hk := Option.some.inj hh2; subst hk; exact k_IndexFuncL _ _ _ hc
    · cases hh2
  · cases hh
theorem x_IndexFuncL (l : List L) (k : Int) (b : List L) (hc : (ceB k b ∧ l.length ≤ 100000 ∧ ∀ p ∈ l, k.toNat < p.length) = True) : cf_IndexFuncL [.vs (l.map eL), .fn 61 [] [.vp [.int .i64 k] 0 0, .vp [.vs (b.map eL)] 0 0]] = some (I (ifL k.toNat (b.headD []) 0 l)) := by
  simp only [cf_IndexFuncL, onL_map dL_e]
  exact if_pos (by rw [hc]; trivial)
theorem k_ContainsFuncL (l : List L) (k : Int) (b : List L) (h : ceB k b ∧ l.length ≤ 100000 ∧ ∀ p ∈ l, k.toNat < p.length) : FOk P 60 [.vs (l.map eL), .fn 61 [] [.vp [I k] 0 0, .vp [.vs (b.map eL)] 0 0]] (.bool (decide (neP k.toNat (b.headD []) l))) := by
  have y := x_IndexFuncL l k b (by simp only [eq_iff_iff, iff_true]; exact h)
  rw [← ifL_ne k.toNat (b.headD []) l 0]
  refine c60.fok (by simp only [subs, sub1, free_L]) (Cor.run (addC_good g_IndexFuncL (noC_good _)) (noHx_good _) hm ?_)
  simp +contextual -implicitDefEqProofs (maxSteps := 2000000) only [bg_eq, a60, y, ruB, rh_no, Int.reduceLT, Int.reduceLE, Int.reduceAdd, Int.reduceSub, Int.reduceMul, Int.reduceNeg, Int.reduceToNat, Int.reduceEq, Int.reduceNe, Int.reduceTDiv, Int.reduceTMod, implies_true, putL, appN, appX, appC, Eng.Fi, reduceCtorEq, exists_eq_left', exists_eq_left, if_true, if_false, List.replicate, Nat.reduceAdd, Nat.reduceSub, Nat.reduceMul, Nat.reduceLeDiff, Nat.reduceLT, Nat.reduceEqDiff]
def cf_ContainsFuncL : List AV → Option AV
  | [.vs l_v, .fn 61 [] [.vp [.int .i64 k] 0 0, .vp [.vs b_v] 0 0]] => onL dL l_v fun l => onL dL b_v fun b => if ceB k b ∧ l.length ≤ 100000 ∧ ∀ p ∈ l, k.toNat < p.length then some (.bool (decide (neP k.toNat (b.headD []) l))) else none
  | _ => none
theorem g_ContainsFuncL : Fn P 60 cf_ContainsFuncL := fun args v hh => by
  unfold cf_ContainsFuncL at hh; split at hh
  · obtain ⟨l, rfl, hh1⟩ := onL_inv dL_inv hh
    obtain ⟨b, rfl, hh2⟩ := onL_inv dL_inv hh1
    split at hh2
    · rename_i hc; have hk := Option.some.inj hh2; subst hk; exact k_ContainsFuncL _ _ _ hc
    · cases hh2
  · cases hh
theorem x_ContainsFuncL (l : List L) (k : Int) (b : List L) (hc : (ceB k b ∧ l.length ≤ 100000 ∧ ∀ p ∈ l, k.toNat < p.length) = True) : cf_ContainsFuncL [.vs (l.map eL), .fn 61 [] [.vp [.int .i64 k] 0 0, .vp [.vs (b.map eL)] 0 0]] = some (.bool (decide (neP k.toNat (b.headD []) l))) := by
  simp only [cf_ContainsFuncL, onL_map dL_e]
  exact if_pos (by rw [hc]; trivial)
end Wa
