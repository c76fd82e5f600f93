import Derived.Test.YtjfhhaaogcgkpaaEngS9
import Derived.Test.YtjfhhaaogcgkpaaC12
open Go Go.Proofs Eng
set_option maxRecDepth 100000
set_option linter.unusedSimpArgs false
set_option linter.unusedVariables false
def a62 : AC := .seq (.ops false [] [⟨some 4, .alloc 112 4 [.agg [.int .i64 0, .int .i64 0, .int .i64 0, .int .i64 0]], [], none⟩, ⟨some 5, .p (.mov), [.c (.int .i64 0)], none⟩]) (.seq (.ops false [] [⟨some 6, .p (.mov), [.t 0], none⟩, ⟨some 7, .p (.mov), [.t 1], none⟩, ⟨some 8, .call 116, [.t 6, .t 7, .c (.fn 121 [] [])], none⟩, ⟨some 9, .p (.ext 0), [.t 8], none⟩, ⟨some 10, .p (.ext 1), [.t 8], none⟩, ⟨none, .store 4 true, [.t 4, .t 9], none⟩, ⟨some 5, .p (.mov), [.t 10], none⟩]) (.ret))
theorem c62 : FnC Try.prog 62 11 a62 [.cell 4 4 true, .tmp 5] := ⟨Try.call62, _, _, Try.func62, rfl, by kernel_rfl, by kernel_rfl, rfl⟩
def a120 : AC := .seq (.ops false [] [⟨some 2, .p (.mov), [.c (.int .i64 0)], none⟩]) (.seq (.seq (.ops false [] [⟨some 5, .p (.mov), [.t 0], none⟩, ⟨some 6, .p (.lenS), [.t 5], none⟩, ⟨some 7, .p (.binI .lss), [.t 6, .c (.int .i64 1)], none⟩]) (.cond (.t 7) (.bad) (.skip))) (.seq (.ops false [] [⟨some 9, .p (.mov), [.t 0], none⟩, ⟨some 10, .p (.iaddrS 1), [.t 9, .c (.int .i64 0)], none⟩, ⟨some 11, .load 1 false, [.t 10], none⟩, ⟨some 3, .p (.mov), [.t 11], none⟩]) (.seq (.seq (.ops false [] [⟨some 4, .p (.mov), [.c (.int .i64 1)], none⟩]) (.block 0 (.loop (.seq (.seq (.ops false [] [⟨some 12, .p (.mov), [.t 4], none⟩, ⟨some 13, .p (.mov), [.t 0], none⟩, ⟨some 14, .p (.lenS), [.t 13], none⟩, ⟨some 15, .p (.binI .lss), [.t 12, .t 14], none⟩]) (.cond (.t 15) (.skip) (.exit 0))) (.seq (.block 1 (.ops false [] [⟨some 18, .p (.mov), [.t 3], none⟩, ⟨some 19, .p (.mov), [.t 0], none⟩, ⟨some 20, .p (.mov), [.t 4], none⟩, ⟨some 21, .p (.iaddrS 1), [.t 19, .t 20], none⟩, ⟨some 22, .load 1 false, [.t 21], none⟩, ⟨some 23, .p (.mm true), [.t 18, .t 22], none⟩, ⟨some 3, .p (.mov), [.t 23], none⟩])) (.ops false [] [⟨some 16, .p (.mov), [.t 4], none⟩, ⟨some 17, .p (.binI .add), [.t 16, .c (.int .i64 1)], none⟩, ⟨some 4, .p (.mov), [.t 17], none⟩])))))) (.seq (.ops false [] [⟨some 24, .p (.mov), [.t 3], none⟩, ⟨some 2, .p (.mov), [.t 24], none⟩]) (.ret)))))
theorem c120 : FnC Try.prog 120 25 a120 [.tmp 2] := ⟨Try.call120, _, _, Try.func120, rfl, by kernel_rfl, by kernel_rfl, rfl⟩
def a121 : AC := .seq (.ops false [] [⟨some 2, .box 117 3 1 true, [.t 0], none⟩, ⟨some 3, .box 117 3 1 true, [.t 1], none⟩, ⟨some 4, .alloc 164 2 [.agg [.int .i64 0, .int .i64 0]], [], none⟩]) (.seq (.ops false [] [⟨some 5, .load 3 true, [.t 3], none⟩, ⟨some 6, .load 3 true, [.t 2], none⟩, ⟨some 7, .call 117, [.t 5, .t 6], none⟩, ⟨none, .store 2 true, [.t 4, .t 7], none⟩]) (.ret))
theorem c121 : FnC Try.prog 121 8 a121 [.cell 4 2 true] := ⟨Try.call121, _, _, Try.func121, rfl, by kernel_rfl, by kernel_rfl, rfl⟩
namespace Sh

/-! the strongest gain -/
def gainG (a b : Gt) : Int × Int := lossG b a
theorem k121 (a b : Gt) (ha : sG a) (hb : sG b) : FOk P 121 [eG a, eG b] (.agg [I (b.lo - a.hi), I (b.hi - a.lo)]) := by
  have s1 : (sG a) = True := by simp [ha]
  have s2 : (sG b) = True := by simp [hb]
  refine c121.fok rfl (Cor.run (addC_good g117 (noC_good _)) (noHx_good _) hm ?_)
  simp +contextual -implicitDefEqProofs (maxSteps := 2000000) only [bg_eq, a121, x117, s1, s2, ruB, rh_no, Int.reduceLT, Int.reduceLE, Int.reduceAdd, Int.reduceSub, Int.reduceMul, Int.reduceNeg, Int.reduceToNat, Int.reduceEq, Int.reduceNe, Int.reduceTDiv, Int.reduceTMod, implies_true, putL, appN, appX, appC, Eng.Fi, reduceCtorEq, exists_eq_left', exists_eq_left, if_true, if_false, List.replicate, Nat.reduceAdd, Nat.reduceSub, Nat.reduceMul, Nat.reduceLeDiff, Nat.reduceLT, Nat.reduceEqDiff]
def c121f : List AV → Option AV
  | [.agg [.int .i64 a1, .int .i64 a2, .int .i64 a3], .agg [.int .i64 b1, .int .i64 b2, .int .i64 b3]] => if sG ⟨a1, a2, a3⟩ ∧ sG ⟨b1, b2, b3⟩ then some (.agg [I (b2 - a3), I (b3 - a2)]) else none
  | _ => none
theorem g121 : Fn P 121 c121f := fun args v h => by
  unfold c121f at h; split at h
  · split at h
    · rename_i hc; cases h; exact k121 ⟨_, _, _⟩ ⟨_, _, _⟩ hc.1 hc.2
    · cases h
  · cases h
theorem x121 (a b : Gt) (ha : (sG a) = True) (hb : (sG b) = True) : c121f [.agg [I a.at', I a.lo, I a.hi], .agg [I b.at', I b.lo, I b.hi]] = some (.agg [I (b.lo - a.hi), I (b.hi - a.lo)]) := by
  simp only [c121f, ha, hb, and_self, if_true]
theorem k116g (l : List Gt) (d : Int) (hl : l.length ≤ 1099511627776) : FOk P 116 [.vs (l.map eG), I d, .fn 121 [] []] (.tup [eC (strL gainG l d).1, I (strL gainG l d).2]) := by
  have h' : (l.length ≤ 1099511627776) = True := by simp [hl]
  refine c116.fok (by simp only [subs, sub1, free_G]) (Cor.run (addC_good g85 (addC_good g121 (addC_good g119 (addC_good g118 (noC_good _))))) (noHx_good _) hm ?_)
  by_cases h0 : lenE l d = 0
  · simp +contextual -implicitDefEqProofs (maxSteps := 2000000) only [bg_eq, a116, x118, x119, h', h0, ruB, rh_no, Int.reduceLT, Int.reduceLE, Int.reduceAdd, Int.reduceSub, Int.reduceMul, Int.reduceNeg, Int.reduceToNat, Int.reduceEq, Int.reduceNe, Int.reduceTDiv, Int.reduceTMod, implies_true, putL, appN, appX, appC, Eng.Fi, reduceCtorEq, exists_eq_left', exists_eq_left, if_true, if_false, List.replicate, Nat.reduceAdd, Nat.reduceSub, Nat.reduceMul, Nat.reduceLeDiff, Nat.reduceLT, Nat.reduceEqDiff]
    have hg := chkP_sG (lenE_zero h0).1
    refine Cor.range (addC_good g85 (addC_good g121 (addC_good g119 (addC_good g118 (noC_good _))))) (noHx_good _) hm (fun _ _ _ _ => rfl) (J116 (.fn 121 [] []) l) (fun _ => 5) (st116 gainG l) (fun _ _ => True) (x0 := ⟨0, 0, 0, 0⟩) rfl (sq129 l d hl hg) rfl rfl trivial (J116_inj _ l) (J116_free _ l) rfl rfl ?_ (fun _ _ _ _ _ _ => trivial) ?_ ?_
    · intro v hv
      obtain ⟨p, _, rfl⟩ := List.mem_map.1 hv
      rfl
    · intro j v c hj _ oR oB f go
      obtain ⟨p, hp, rfl⟩ := List.mem_map.1 (List.mem_of_getElem? hj)
      have hpm := pairsL_mem hp
      have hp1 : p.1 < l.length := by omega
      have hp2 : p.2 < l.length := by omega
      have e1 : (l.map eG)[p.1]? = some (eG l[p.1]) := by simp [hp1]
      have e2 : (l.map eG)[p.2]? = some (eG l[p.2]) := by simp [hp2]
      have s1 : (sG l[p.1]) = True := by simp [hg]
      have s2 : (sG l[p.2]) = True := by simp [hg]
      have e3 : stC gainG l c p = if c.to = 0 ∨ c.lo < (gainG l[p.1] l[p.2]).1 then ⟨p.1, p.2, (gainG l[p.1] l[p.2]).1, (gainG l[p.1] l[p.2]).2⟩ else c := by
        simp [stC, hp1, hp2]
      have i1 : ((p.1 : Int) < 0) = False := by simp only [eq_iff_iff, iff_false]; omega
      simp only [st116, decP_e, e3] at go ⊢
      by_cases hc : c.to = 0
      · rw [if_pos (.inl hc)] at go
        simp +contextual -implicitDefEqProofs (maxSteps := 2000000) only [J116, e1, e2, x121, s1, s2, hc, sp_cons, sp_nil, goB_eq, jk_n, jk_r, jk_e, fi_nx, ruB, rh_no, Int.reduceLT, Int.reduceLE, Int.reduceAdd, Int.reduceSub, Int.reduceMul, Int.reduceNeg, Int.reduceToNat, Int.reduceEq, Int.reduceNe, Int.reduceTDiv, Int.reduceTMod, implies_true, putL, appN, appX, appC, Eng.Fi, reduceCtorEq, exists_eq_left', exists_eq_left, if_true, if_false, List.replicate, Nat.reduceAdd, Nat.reduceSub, Nat.reduceMul, Nat.reduceLeDiff, Nat.reduceLT, Nat.reduceEqDiff]
        exact go _ [.any, .any, .any, .any, .any, .any, .any, .any, .any, .any, .any, .any, .any, .any, .any, .any, .any, .any, .any, .any, .any, .any, .any, .any, .any, .any, .any, .any, .any, .any, .any, .any, .any, .any, .any, .any, .any, .any, .any, .any, .any, .any, .any, .any, .any, .any, .any, .any, .any, .any, .any, .any, .any, .any, .any] (Wkn.to ⟨5, [], [], 5, []⟩ rfl rfl (by simp only [Wk.st, keepT, sub1, subs, Wk.hp, ABlk.sub, free_G, J116]; try rfl))
      · simp +contextual -implicitDefEqProofs (maxSteps := 2000000) only [J116, e1, e2, x121, s1, s2, hc, sp_cons, sp_nil, goB_eq, jk_n, jk_r, jk_e, fi_nx, ruB, rh_no, Int.reduceLT, Int.reduceLE, Int.reduceAdd, Int.reduceSub, Int.reduceMul, Int.reduceNeg, Int.reduceToNat, Int.reduceEq, Int.reduceNe, Int.reduceTDiv, Int.reduceTMod, implies_true, putL, appN, appX, appC, Eng.Fi, reduceCtorEq, exists_eq_left', exists_eq_left, if_true, if_false, List.replicate, Nat.reduceAdd, Nat.reduceSub, Nat.reduceMul, Nat.reduceLeDiff, Nat.reduceLT, Nat.reduceEqDiff]
        refine ⟨fun hc2 => ?_, fun hc2 => ?_⟩
        · rw [if_pos (.inr hc2)] at go
          exact go _ [.any, .any, .any, .any, .any, .any, .any, .any, .any, .any, .any, .any, .any, .any, .any, .any, .any, .any, .any, .any, .any, .any, .any, .any, .any, .any, .any, .any, .any, .any, .any, .any, .any, .any, .any, .any, .any, .any, .any, .any, .any, .any, .any, .any, .any, .any, .any, .any, .any, .any, .any, .any, .any, .any, .any] (Wkn.to ⟨5, [], [], 5, []⟩ rfl rfl (by simp only [Wk.st, keepT, sub1, subs, Wk.hp, ABlk.sub, free_G, J116]; try rfl))
        · rw [if_neg (fun x => x.elim hc hc2)] at go
          exact go _ [.any, .any, .any, .any, .any, .any, .any, .any, .any, .any, .any, .any, .any, .any, .any, .any, .any, .any, .any, .any, .any, .any, .any, .any, .any, .any, .any, .any, .any, .any, .any, .any, .any, .any, .any, .any, .any, .any, .any, .any, .any, .any, .any, .any, .any, .any, .any, .any, .any, .any, .any, .any, .any, .any, .any] (Wkn.to ⟨5, [], [], 5, []⟩ rfl rfl (by simp only [Wk.st, keepT, sub1, subs, Wk.hp, ABlk.sub, free_G, J116]; try rfl))
    · rw [foldS_nx (st := st116 gainG l) (fun _ _ => rfl)]
      have ef : ((pairsL d 0 l).map eP).foldl (fun a v => (st116 gainG l a v).1) ⟨0, 0, 0, 0⟩ = (pairsL d 0 l).foldl (stC gainG l) ⟨0, 0, 0, 0⟩ := by
        rw [List.foldl_map]
        simp only [st116, decP_e]
      have e4 : strL gainG l d = ((pairsL d 0 l).foldl (stC gainG l) ⟨0, 0, 0, 0⟩, unl (0 < ((pairsL d 0 l).foldl (stC gainG l) ⟨0, 0, 0, 0⟩).to) 12) := by
        simp only [strL, h0, if_true]
      rw [ef, e4]
      generalize (pairsL d 0 l).foldl (stC gainG l) ⟨0, 0, 0, 0⟩ = c
      show R P _ noHx 0 .normal _ _ _
      simp +contextual -implicitDefEqProofs (maxSteps := 2000000) only [J116, x85, sp_cons, sp_nil, goB_eq, jk_n, jk_r, jk_e, fi_nx, ruB, rh_no, Int.reduceLT, Int.reduceLE, Int.reduceAdd, Int.reduceSub, Int.reduceMul, Int.reduceNeg, Int.reduceToNat, Int.reduceEq, Int.reduceNe, Int.reduceTDiv, Int.reduceTMod, implies_true, putL, appN, appX, appC, Eng.Fi, reduceCtorEq, exists_eq_left', exists_eq_left, if_true, if_false, List.replicate, Nat.reduceAdd, Nat.reduceSub, Nat.reduceMul, Nat.reduceLeDiff, Nat.reduceLT, Nat.reduceEqDiff]
  · simp +contextual -implicitDefEqProofs (maxSteps := 2000000) only [bg_eq, a116, x118, x119, h', h0, strL, not_false_eq_true, ruB, rh_no, Int.reduceLT, Int.reduceLE, Int.reduceAdd, Int.reduceSub, Int.reduceMul, Int.reduceNeg, Int.reduceToNat, Int.reduceEq, Int.reduceNe, Int.reduceTDiv, Int.reduceTMod, implies_true, putL, appN, appX, appC, Eng.Fi, reduceCtorEq, exists_eq_left', exists_eq_left, if_true, if_false, List.replicate, Nat.reduceAdd, Nat.reduceSub, Nat.reduceMul, Nat.reduceLeDiff, Nat.reduceLT, Nat.reduceEqDiff]
def c116gf : List AV → Option AV
  | [.vs vals, .int .i64 d, .fn 121 [] []] => onL dG vals fun l => if l.length ≤ 1099511627776 then some (.tup [eC (strL gainG l d).1, I (strL gainG l d).2]) else none
  | _ => none
theorem g116g : Fn P 116 c116gf := fun args v h => by
  unfold c116gf at h; split at h
  · obtain ⟨l, rfl, h2⟩ := onL_inv dG_inv h
    split at h2
    · rename_i hc; cases h2; exact k116g l _ hc
    · cases h2
  · cases h
theorem x116g (l : List Gt) (d : Int) (h : (l.length ≤ 1099511627776) = True) : c116gf [.vs (l.map eG), .int .i64 d, .fn 121 [] []] = some (.tup [eC (strL gainG l d).1, I (strL gainG l d).2]) := by
  simp only [c116gf, onL_map dG_e, h, if_true]
theorem k62 (l : List Gt) (d : Int) (hl : l.length ≤ 1099511627776) : FOk P 62 [.vs (l.map eG), I d] (.tup [eC (strL gainG l d).1, I (strL gainG l d).2]) := by
  have h' : (l.length ≤ 1099511627776) = True := by simp [hl]
  refine c62.fok (by simp only [subs, sub1, free_G]) (Cor.run (addC_good g116g (noC_good _)) (noHx_good _) hm ?_)
  simp +contextual -implicitDefEqProofs (maxSteps := 2000000) only [bg_eq, a62, x116g, h', ruB, rh_no, Int.reduceLT, Int.reduceLE, Int.reduceAdd, Int.reduceSub, Int.reduceMul, Int.reduceNeg, Int.reduceToNat, Int.reduceEq, Int.reduceNe, Int.reduceTDiv, Int.reduceTMod, implies_true, putL, appN, appX, appC, Eng.Fi, reduceCtorEq, exists_eq_left', exists_eq_left, if_true, if_false, List.replicate, Nat.reduceAdd, Nat.reduceSub, Nat.reduceMul, Nat.reduceLeDiff, Nat.reduceLT, Nat.reduceEqDiff]
def c62f : List AV → Option AV
  | [.vs vals, .int .i64 d] => onL dG vals fun l => if l.length ≤ 1099511627776 then some (.tup [eC (strL gainG l d).1, I (strL gainG l d).2]) else none
  | _ => none
theorem g62 : Fn P 62 c62f := fun args v h => by
  unfold c62f at h; split at h
  · obtain ⟨l, rfl, h2⟩ := onL_inv dG_inv h
    split at h2
    · rename_i hc; cases h2; exact k62 l _ hc
    · cases h2
  · cases h
theorem x62 (l : List Gt) (d : Int) (h : (l.length ≤ 1099511627776) = True) : c62f [.vs (l.map eG), .int .i64 d] = some (.tup [eC (strL gainG l d).1, I (strL gainG l d).2]) := by
  simp only [c62f, onL_map dG_e, h, if_true]

/-! the greatest number -/
abbrev eI (n : Int) : AV := .int .i64 n
def dI : AV → Option Int
  | .int .i64 n => some n
  | _ => none
theorem dI_e (n : Int) : dI (eI n) = some n := rfl
theorem dI_inv (v : AV) (n : Int) (h : dI v = some n) : v = eI n := by
  unfold dI at h
  split at h
  · cases h; rfl
  · cases h
theorem free_I (φ : Nat → Fate) (l : List Int) : subs φ (l.map eI) = l.map eI := subs_mapE φ _ (fun _ => rfl) l
def maxL : List Int → Int
  | [] => 0
  | a :: r => r.foldl max a
def S120 (l : List Int) (p : Nat × Int) : AState := ⟨[.vs (l.map eI), .any, I 0, I p.2, I p.1, .any, .any, .any, .any, .any, .any, .any, .any, .any, .any, .any, .any, .any, .any, .any, .any, .any, .any, .any, .any], [], 0⟩
theorem k120 (l : List Int) (h : 0 < l.length ∧ l.length ≤ 1000000) : FOk P 120 [.vs (l.map eI)] (I (maxL l)) := by
  obtain ⟨h0, hl⟩ := h
  cases l with
  | nil => simp at h0
  | cons a r =>
    have e0 : (((r.length + 1 : Nat) : Int) < 1) = False := by simp only [eq_iff_iff, iff_false]; omega
    refine c120.fok (by simp only [subs, sub1, free_I]) (Cor.run (noC_good _) (noHx_good _) hm ?_)
    simp +contextual -implicitDefEqProofs (maxSteps := 2000000) only [bg_eq, a120, List.length_map, List.map_cons, e0, ruB, rh_no, Int.reduceLT, Int.reduceLE, Int.reduceAdd, Int.reduceSub, Int.reduceMul, Int.reduceNeg, Int.reduceToNat, Int.reduceEq, Int.reduceNe, Int.reduceTDiv, Int.reduceTMod, implies_true, putL, appN, appX, appC, Eng.Fi, reduceCtorEq, exists_eq_left', exists_eq_left, if_true, if_false, List.replicate, Nat.reduceAdd, Nat.reduceSub, Nat.reduceMul, Nat.reduceLeDiff, Nat.reduceLT, Nat.reduceEqDiff]
    refine Cor.lp (noC_good _) (noHx_good _) hm (S120 (a :: r)) (fun p => 1 ≤ p.1 ∧ p.1 ≤ r.length + 1 ∧ r.foldl max a = (r.drop (p.1 - 1)).foldl max p.2) (fun p => r.length + 1 - p.1) (a := (1, a)) ⟨Nat.le_refl _, by simp, by simp⟩ (Wkn.keep [0, 2, 3, 4] rfl) ?_
    rintro f ⟨n, b⟩ ⟨hn1, hn, hf⟩ go
    simp only at hn1 hn hf
    simp only [List.length_cons] at hl
    rcases Nat.lt_or_ge n (r.length + 1) with h | h
    · have e1 : decide ((n : Int) < ((r.length + 1 : Nat) : Int)) = true := by simp; omega
      obtain ⟨m, rfl⟩ : ∃ m, n = m + 1 := ⟨n - 1, by omega⟩
      have hm2 : m < r.length := by omega
      have e2 : ((a :: r).map eI)[m + 1]? = some (eI r[m]) := by simp [hm2]
      have e3 : IntKind.wrap .i64 (((m + 1 : Nat) : Int) + 1) = ((m + 1 + 1 : Nat) : Int) := by rw [wrap64 (by omega) (by omega)]; rfl
      simp only [Nat.add_sub_cancel] at hf
      rw [List.drop_eq_getElem_cons hm2, List.foldl_cons] at hf
      simp +contextual -implicitDefEqProofs (maxSteps := 2000000) only [S120, e1, e2, e3, List.length_map, ruB, rh_no, Int.reduceLT, Int.reduceLE, Int.reduceAdd, Int.reduceSub, Int.reduceMul, Int.reduceNeg, Int.reduceToNat, Int.reduceEq, Int.reduceNe, Int.reduceTDiv, Int.reduceTMod, implies_true, putL, appN, appX, appC, Eng.Fi, reduceCtorEq, exists_eq_left', exists_eq_left, if_true, if_false, List.replicate, Nat.reduceAdd, Nat.reduceSub, Nat.reduceMul, Nat.reduceLeDiff, Nat.reduceLT, Nat.reduceEqDiff]
      exact go _ (m + 2, max b r[m]) ⟨by simp only; omega, h, by simpa using hf⟩ (by simp only; omega) (Wkn.keep [0, 2, 3, 4] rfl)
    · have e1 : decide ((n : Int) < ((r.length + 1 : Nat) : Int)) = false := by simp; omega
      have hn : n = r.length + 1 := by omega
      subst hn
      simp only [Nat.add_sub_cancel, List.drop_length, List.foldl_nil] at hf
      simp +contextual -implicitDefEqProofs (maxSteps := 2000000) only [S120, e1, List.length_map, maxL, hf, ruB, rh_no, Int.reduceLT, Int.reduceLE, Int.reduceAdd, Int.reduceSub, Int.reduceMul, Int.reduceNeg, Int.reduceToNat, Int.reduceEq, Int.reduceNe, Int.reduceTDiv, Int.reduceTMod, implies_true, putL, appN, appX, appC, Eng.Fi, reduceCtorEq, exists_eq_left', exists_eq_left, if_true, if_false, List.replicate, Nat.reduceAdd, Nat.reduceSub, Nat.reduceMul, Nat.reduceLeDiff, Nat.reduceLT, Nat.reduceEqDiff]
def c120f : List AV → Option AV
  | [.vs vals] => onL dI vals fun l => if 0 < l.length ∧ l.length ≤ 1000000 then some (.int .i64 (maxL l)) else none
  | _ => none
theorem g120 : Fn P 120 c120f := fun args v h => by
  unfold c120f at h; split at h
  · obtain ⟨l, rfl, h2⟩ := onL_inv dI_inv h
    split at h2
    · rename_i hc; cases h2; exact k120 l  hc
    · cases h2
  · cases h
theorem x120 (l : List Int) (h : (0 < l.length ∧ l.length ≤ 1000000) = True) : c120f [.vs (l.map eI)] = some (.int .i64 (maxL l)) := by
  simp only [c120f, onL_map dI_e, h, if_true]
end Sh
