import Derived.Test.YtjfhhaaogcgkpaaEngS9
import Derived.Test.YtjfhhaaogcgkpaaC18
open Go Go.Proofs Eng
set_option maxRecDepth 100000
set_option linter.unusedSimpArgs false
set_option linter.unusedVariables false
def a47 : AC := .seq (.ops false [] [⟨some 3, .box 40 4 1 true, [.t 0], none⟩, ⟨some 4, .box 47 5 1 true, [.t 1], none⟩, ⟨some 5, .box 66 3 1 true, [.t 2], none⟩, ⟨some 6, .alloc 47 5 [.agg [.bool false, .int .i64 0, .int .i64 0, .int .i64 0, .int .i64 0]], [], none⟩, ⟨some 7, .p (.mov), [.c (.int .i64 0)], none⟩]) (.seq (.ops false [] [⟨some 10, .load 4 true, [.t 3], none⟩, ⟨some 11, .load 5 true, [.t 4], none⟩, ⟨some 12, .p (.build [.int .i64 0, .int .i64 0, .int .i64 0, .int .i64 0, .bool false, .int .i64 0, .int .i64 0, .int .i64 0, .int .i64 0] [(0, 4), (4, 5)]), [.t 10, .t 11], none⟩, ⟨some 13, .box 160 9 1 true, [.t 12], none⟩, ⟨some 8, .p (.mov), [.t 13], none⟩]) (.seq (.ops true [] [⟨some 14, .load 4 true, [.t 3], none⟩, ⟨some 15, .call 48, [.t 14], none⟩, ⟨some 16, .load 5 true, [.t 4], none⟩, ⟨some 17, .call 49, [.t 16], none⟩, ⟨some 18, .load 3 true, [.t 5], none⟩, ⟨some 19, .call 89, [.t 18], none⟩, ⟨some 20, .p (.faddr 0), [.t 5], none⟩, ⟨some 21, .load 1 false, [.t 20], none⟩, ⟨some 22, .p (.faddr 3), [.t 4], none⟩, ⟨some 23, .load 1 false, [.t 22], none⟩, ⟨some 24, .p (.binI .gtr), [.t 21, .t 23], none⟩, ⟨some 25, .call 85, [.t 24, .c (.int .i64 9)], none⟩, ⟨some 26, .fbs 1, [.t 15, .t 17, .t 19, .t 25], none⟩, ⟨some 27, .call 84, [.t 26], none⟩, ⟨some 9, .p (.mov), [.t 27], none⟩]) (.seq (.seq (.ops false [] [⟨some 28, .p (.mov), [.t 9], none⟩, ⟨some 29, .p (.binI .eql), [.t 28, .c (.int .i64 0)], none⟩]) (.cond (.t 29) (.ops false [] [⟨some 30, .p (.mov), [.t 8], none⟩, ⟨some 31, .load 3 true, [.t 5], none⟩, ⟨some 32, .call 93, [.t 30, .t 31], none⟩, ⟨some 9, .p (.mov), [.t 32], none⟩]) (.skip))) (.seq (.seq (.ops false [] [⟨some 33, .p (.mov), [.t 9], none⟩, ⟨some 34, .p (.binI .neq), [.t 33, .c (.int .i64 0)], none⟩]) (.cond (.t 34) (.seq (.ops false [] [⟨some 35, .p (.build [.bool false, .int .i64 0, .int .i64 0, .int .i64 0, .int .i64 0] []), [], none⟩, ⟨some 36, .p (.mov), [.t 9], none⟩, ⟨none, .store 5 true, [.t 6, .t 35], none⟩, ⟨some 7, .p (.mov), [.t 36], none⟩]) (.ret)) (.skip))) (.seq (.ops false [] [⟨some 37, .p (.mov), [.t 8], none⟩, ⟨some 38, .p (.nilck), [.t 37], none⟩, ⟨some 39, .p (.faddr 4), [.t 38], none⟩, ⟨some 40, .load 5 true, [.t 39], none⟩, ⟨none, .store 5 true, [.t 6, .t 40], none⟩, ⟨some 7, .p (.mov), [.c (.int .i64 0)], none⟩]) (.ret))))))
theorem c47 : FnC Try.prog 47 41 a47 [.cell 6 5 true, .tmp 7] := ⟨Try.call47, _, _, Try.func47, rfl, by kernel_rfl, by kernel_rfl, rfl⟩
namespace Sh
theorem k47 (r : Rl) (s : St) (e : Gt) : FOk P 47 [eR r, eS s, eG e] (.tup [eS (nextL r s e).1, I (nextL r s e).2]) := by
  by_cases h0 : firstE [rlE r, ssE s, evE e, unl (s.heard < e.at') 9] = 0
  · have hz := firstE_zero h0
    have hs := ssE_zero (hz (ssE s) (by simp))
    have hev := evE_zero (hz (evE e) (by simp))
    have ys : (sm e.at' ∧ sm s.heard ∧ sm s.quiet ∧ sm s.num) = True := by simp only [eq_iff_iff, iff_true]; omega
    have y := y93 r s e ys
    have hv : nextL r s e = if (hearS r s e).2 = 0 then hearS r s e else (zS, (hearS r s e).2) := by simp only [nextL, nexE, h0, if_true]
    rw [hv]
    by_cases h1 : (hearS r s e).2 = 0
    · refine c47.fok rfl (Cor.run (addC_good g84 (addC_good g85 (addC_good g89 (addC_good g49 (addC_good g48 (noC_good _)))))) (addH_good o93.hn (noHx_good _)) hm ?_) (fun G => YH_add (by decide) (YH_no _ _))
      simp +contextual -implicitDefEqProofs only [bg_eq, a47, x48, x49, x89, x85, x84, r84s, Lmax, h0, y, h1, ruH, ruB, Int.reduceLT, Int.reduceLE, Int.reduceAdd, Int.reduceSub, Int.reduceMul, Int.reduceNeg, Int.reduceToNat, Int.reduceEq, Int.reduceNe, Int.reduceTDiv, Int.reduceTMod, implies_true, putL, appN, appX, Eng.Fi, reduceCtorEq, exists_eq_left', exists_eq_left, if_true, if_false, List.replicate, Nat.reduceAdd, Nat.reduceSub, Nat.reduceMul, Nat.reduceLeDiff, Nat.reduceLT, Nat.reduceEqDiff]
    · refine c47.fok rfl (Cor.run (addC_good g84 (addC_good g85 (addC_good g89 (addC_good g49 (addC_good g48 (noC_good _)))))) (addH_good o93.hn (noHx_good _)) hm ?_) (fun G => YH_add (by decide) (YH_no _ _))
      simp +contextual -implicitDefEqProofs only [bg_eq, a47, x48, x49, x89, x85, x84, r84s, Lmax, h0, y, h1, zS, not_false_eq_true, ruH, ruB, Int.reduceLT, Int.reduceLE, Int.reduceAdd, Int.reduceSub, Int.reduceMul, Int.reduceNeg, Int.reduceToNat, Int.reduceEq, Int.reduceNe, Int.reduceTDiv, Int.reduceTMod, implies_true, putL, appN, appX, Eng.Fi, reduceCtorEq, exists_eq_left', exists_eq_left, if_true, if_false, List.replicate, Nat.reduceAdd, Nat.reduceSub, Nat.reduceMul, Nat.reduceLeDiff, Nat.reduceLT, Nat.reduceEqDiff]
  · have hv : nextL r s e = (zS, nexE r s e) := by simp only [nextL, nexE, h0, if_false]
    rw [hv]
    refine c47.fok rfl (Cor.run (addC_good g84 (addC_good g85 (addC_good g89 (addC_good g49 (addC_good g48 (noC_good _)))))) (addH_good o93.hn (noHx_good _)) hm ?_) (fun G => YH_add (by decide) (YH_no _ _))
    simp +contextual -implicitDefEqProofs only [bg_eq, a47, x48, x49, x89, x85, x84, r84s, Lmax, h0, nexE, zS, not_false_eq_true, ruH, ruB, Int.reduceLT, Int.reduceLE, Int.reduceAdd, Int.reduceSub, Int.reduceMul, Int.reduceNeg, Int.reduceToNat, Int.reduceEq, Int.reduceNe, Int.reduceTDiv, Int.reduceTMod, implies_true, putL, appN, appX, Eng.Fi, reduceCtorEq, exists_eq_left', exists_eq_left, if_true, if_false, List.replicate, Nat.reduceAdd, Nat.reduceSub, Nat.reduceMul, Nat.reduceLeDiff, Nat.reduceLT, Nat.reduceEqDiff]
/-- a state on its way to the tick t -/
def Mid (t : Int) (s : St) : Prop := (0 ≤ s.num ∧ s.num ≤ 62500) ∧ (s.up = true → 0 < s.num ∧ 0 ≤ s.since ∧ s.since ≤ t ∧ (s.quiet = -1 ∨ s.since ≤ s.quiet ∧ s.quiet ≤ t)) ∧ (s.up = false → s.since = 0 ∧ s.quiet = -1)
theorem Mid.end {t : Int} {s : St} (h : Mid t s) : Mid t (endS s) := ⟨h.1, fun x => by simp [endS] at x, fun _ => ⟨rfl, rfl⟩⟩
theorem hear_valid {r : Rl} {s : St} {e : Gt} (hs : ssE s = 0) (he : evE e = 0) (hlt : s.heard < e.at') (h0 : (hearS r s e).2 = 0) : ssE (hearS r s e).1 = 0 := by
  obtain ⟨h1, h2, h3, h4, h5⟩ := ssE_zero hs
  have ha := (evE_zero he).1
  have m0 : Mid e.at' s := by
    unfold ssF at h5
    refine ⟨h1, fun hu => ?_, fun hu => ?_⟩
    · rw [if_pos hu] at h5
      refine ⟨by omega, by omega, by omega, ?_⟩
      rcases h5.2.2.2 with h | h
      · exact .inl h
      · exact .inr ⟨h, by omega⟩
    · rw [if_neg (by rw [hu]; simp)] at h5
      exact h5
  have m1 : Mid e.at' (expS r s e.at') := by
    unfold expS
    split
    · exact m0.end
    · exact m0
  have hh : hearS r s e = finS r (midS r (expS r s e.at') e) e := rfl
  rw [hh] at h0 ⊢
  generalize expS r s e.at' = s1 at *
  have m2 : Mid e.at' (midS r s1 e) := by
    unfold midS
    split
    · rename_i hu
      obtain ⟨g1, g2, g3⟩ := m1
      have g2 := g2 hu
      have key : ∀ s3 : St, Mid e.at' s3 → Mid e.at' (if ¬ s3.quiet = -1 ∧ r.hold ≤ e.at' - s3.quiet then endS s3 else s3) := fun s3 h => by
        split
        · exact h.end
        · exact h
      refine key _ ?_
      split
      · exact ⟨g1, fun _ => ⟨g2.1, g2.2.1, g2.2.2.1, .inl rfl⟩, fun x => by simp only at x; rw [hu] at x; cases x⟩
      · split
        · exact ⟨g1, fun _ => ⟨g2.1, g2.2.1, g2.2.2.1, .inr ⟨g2.2.2.1, Int.le_refl _⟩⟩, fun x => by simp only at x; rw [hu] at x; cases x⟩
        · exact ⟨g1, fun _ => g2, g3⟩
    · exact m1
  generalize midS r s1 e = s2 at *
  obtain ⟨g1, g2, g3⟩ := m2
  obtain ⟨u, n, si, hd, q⟩ := s2
  simp only at g1 g2 g3
  unfold finS at h0 ⊢
  simp only at h0 ⊢
  by_cases hc : u = false ∧ r.raise ≤ e.lo
  · rw [if_pos hc] at h0 ⊢
    by_cases hn : n = 62500
    · rw [if_pos hn] at h0; simp at h0
    · rw [if_neg hn]
      have := g3 hc.1
      show ssE ⟨true, n + 1, e.at', e.at', q⟩ = 0
      rw [ssE_t, if_pos (by omega), if_pos (by omega)]
  · rw [if_neg hc]
    cases u with
    | true =>
      have := g2 rfl
      show ssE ⟨true, n, si, e.at', q⟩ = 0
      rw [ssE_t, if_pos (by omega), if_pos (by omega)]
    | false =>
      have := g3 rfl
      show ssE ⟨false, n, si, e.at', q⟩ = 0
      rw [ssE_f, if_pos (by omega), if_pos (by omega)]

def c47f : List AV → Option AV
  | [.agg [.int .i64 ra, .int .i64 rb, .int .i64 rc, .int .i64 rd], .agg [.bool u, .int .i64 a, .int .i64 b, .int .i64 c, .int .i64 d], .agg [.int .i64 x, .int .i64 y, .int .i64 z]] => some (.tup [eS (nextL ⟨ra, rb, rc, rd⟩ ⟨u, a, b, c, d⟩ ⟨x, y, z⟩).1, I (nextL ⟨ra, rb, rc, rd⟩ ⟨u, a, b, c, d⟩ ⟨x, y, z⟩).2])
  | _ => none
theorem g47 : Fn P 47 c47f := fun args v h => by
  unfold c47f at h; split at h
  · cases h; exact k47 ⟨_, _, _, _⟩ ⟨_, _, _, _, _⟩ ⟨_, _, _⟩
  · cases h
theorem x47 (r : Rl) (s : St) (e : Gt) : c47f [.agg [I r.raise, I r.clear, I r.hold, I r.tmo], .agg [B s.up, I s.num, I s.since, I s.heard, I s.quiet], .agg [I e.at', I e.lo, I e.hi]] = some (.tup [eS (nextL r s e).1, I (nextL r s e).2]) := rfl

end Sh
