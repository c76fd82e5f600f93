import Derived.Test.YtjkhnmhbbjgenaaEngS9
import Derived.Test.YtjkhnmhbbjgenaaS29
open Go Go.Proofs Eng
set_option maxRecDepth 100000
set_option linter.unusedSimpArgs false
set_option linter.unusedVariables false
def a20 : AC := .seq (.ops false [] [⟨some 2, .p (.mov), [.c (.int .i64 0)], none⟩, ⟨some 3, .p (.mov), [.c (.int .i64 0)], none⟩]) (.seq (.seq (.ops false [] [⟨some 7, .p (.mov), [.t 0], none⟩, ⟨some 8, .call 81, [.t 7, .c (.int .i64 0)], none⟩, ⟨some 6, .p (.mov), [.t 8], none⟩, ⟨some 9, .p (.ext 0), [.t 6], none⟩, ⟨some 10, .p (.ext 1), [.t 6], none⟩, ⟨some 4, .p (.mov), [.t 9], none⟩, ⟨some 5, .p (.mov), [.t 10], none⟩]) (.seq (.ops false [] [⟨some 11, .p (.mov), [.t 5], none⟩, ⟨some 12, .p (.binI .neq), [.t 11, .c (.int .i64 0)], none⟩]) (.cond (.t 12) (.seq (.ops false [] [⟨some 13, .p (.mov), [.t 4], none⟩, ⟨some 14, .p (.mov), [.t 5], none⟩, ⟨some 2, .p (.mov), [.t 13], none⟩, ⟨some 3, .p (.mov), [.t 14], none⟩]) (.ret)) (.skip)))) (.seq (.seq (.ops false [] [⟨some 15, .p (.mov), [.t 0], none⟩, ⟨some 16, .call 82, [.t 15], none⟩, ⟨some 17, .p (.binI .gtr), [.t 16, .c (.int .i64 60)], none⟩]) (.cond (.t 17) (.seq (.ops false [] [⟨some 2, .p (.mov), [.c (.int .i64 0)], none⟩, ⟨some 3, .p (.mov), [.c (.int .i64 8)], none⟩]) (.ret)) (.skip))) (.seq (.ops false [] [⟨some 2, .p (.mov), [.c (.int .i64 0)], none⟩, ⟨some 3, .p (.mov), [.c (.int .i64 0)], none⟩]) (.ret))))
theorem c20 : FnC Try.prog 20 18 a20 [.tmp 2, .tmp 3] := ⟨Try.call20, _, _, Try.func20, rfl, by kernel_rfl, by kernel_rfl, rfl⟩
def a29 : AC := .seq (.ops false [] [⟨some 2, .p (.mov), [.c (.int .i64 0)], none⟩]) (.seq (.ops false [] [⟨some 6, .p (.mov), [.t 0], none⟩, ⟨some 7, .call 20, [.t 6], none⟩, ⟨some 5, .p (.mov), [.t 7], none⟩, ⟨some 8, .p (.ext 0), [.t 5], none⟩, ⟨some 9, .p (.ext 1), [.t 5], none⟩, ⟨some 3, .p (.mov), [.t 8], none⟩, ⟨some 4, .p (.mov), [.t 9], none⟩]) (.seq (.ops false [] [⟨some 10, .p (.mov), [.t 4], none⟩, ⟨some 2, .p (.mov), [.t 10], none⟩]) (.ret)))
theorem c29 : FnC Try.prog 29 11 a29 [.tmp 2] := ⟨Try.call29, _, _, Try.func29, rfl, by kernel_rfl, by kernel_rfl, rfl⟩
def a82 : AC := .seq (.ops false [] [⟨some 2, .p (.mov), [.c (.int .i64 0)], none⟩]) (.seq (.ops false [] [⟨some 3, .p (.mov), [.c (.int .i64 0)], none⟩]) (.seq (.seq (.ops false [] [⟨some 4, .p (.mov), [.c (.int .i64 0)], none⟩]) (.block 0 (.loop (.seq (.seq (.ops false [] [⟨some 5, .p (.mov), [.t 4], none⟩, ⟨some 6, .p (.mov), [.t 0], none⟩, ⟨some 7, .p (.lenS), [.t 6], none⟩, ⟨some 8, .p (.binI .lss), [.t 5, .t 7], none⟩]) (.cond (.t 8) (.skip) (.exit 0))) (.seq (.block 1 (.seq (.ops false [] [⟨some 11, .p (.mov), [.t 0], none⟩, ⟨some 12, .p (.mov), [.t 4], none⟩, ⟨some 13, .p (.iaddrS 8), [.t 11, .t 12], none⟩, ⟨some 14, .p (.faddr 0), [.t 13], none⟩, ⟨some 15, .load 1 false, [.t 14], none⟩, ⟨some 16, .p (.binI .eql), [.t 15, .c (.int .i64 2)], none⟩]) (.cond (.t 16) (.ops true [] [⟨some 17, .p (.mov), [.t 3], none⟩, ⟨some 18, .p (.mov), [.t 0], none⟩, ⟨some 19, .p (.mov), [.t 4], none⟩, ⟨some 20, .p (.iaddrS 8), [.t 18, .t 19], none⟩, ⟨some 21, .p (.faddr 6), [.t 20], none⟩, ⟨some 22, .load 1 false, [.t 21], none⟩, ⟨some 23, .p (.mov), [.t 0], none⟩, ⟨some 24, .p (.mov), [.t 4], none⟩, ⟨some 25, .p (.iaddrS 8), [.t 23, .t 24], none⟩, ⟨some 26, .p (.faddr 7), [.t 25], none⟩, ⟨some 27, .load 1 false, [.t 26], none⟩, ⟨some 28, .call 82, [.t 27], none⟩, ⟨some 29, .p (.binI .mul), [.t 22, .t 28], none⟩, ⟨some 30, .p (.binI .add), [.t 17, .t 29], none⟩, ⟨some 3, .p (.mov), [.t 30], none⟩]) (.ops false [] [⟨some 31, .p (.mov), [.t 3], none⟩, ⟨some 32, .p (.mov), [.t 0], none⟩, ⟨some 33, .p (.mov), [.t 4], none⟩, ⟨some 34, .p (.mov), [.t 4], none⟩, ⟨some 35, .p (.binI .add), [.t 34, .c (.int .i64 1)], none⟩, ⟨some 36, .p (.slc 8 true true false), [.t 32, .t 33, .t 35], none⟩, ⟨some 37, .call 22, [.t 36], none⟩, ⟨some 38, .p (.lenS), [.t 37], none⟩, ⟨some 39, .p (.binI .add), [.t 31, .t 38], none⟩, ⟨some 3, .p (.mov), [.t 39], none⟩])))) (.ops false [] [⟨some 9, .p (.mov), [.t 4], none⟩, ⟨some 10, .p (.binI .add), [.t 9, .c (.int .i64 1)], none⟩, ⟨some 4, .p (.mov), [.t 10], none⟩])))))) (.seq (.ops false [] [⟨some 40, .p (.mov), [.t 3], none⟩, ⟨some 2, .p (.mov), [.t 40], none⟩]) (.ret))))
theorem c82 : FnC Try.prog 82 41 a82 [.tmp 2] := ⟨Try.call82, _, _, Try.func82, rfl, by kernel_rfl, by kernel_rfl, rfl⟩
namespace Sc
theorem repL_len (l : List St) : ∀ k : Nat, (repL l k).length = k * l.length
  | 0 => by simp [repL]
  | k + 1 => by rw [repL, List.length_append, repL_len l k, Nat.add_mul]; omega
theorem swL_len {az el tk w d : Int} (hd : 1 ≤ d) (hw : w ≤ 359) : ∀ (f : Nat) (o : Int), 0 ≤ o → (swL az el tk w d f o).length ≤ (360 - o).toNat
  | 0, o, _ => by simp [swL]
  | f + 1, o, ho => by
    rw [swL]
    split
    · have := swL_len (az := az) (el := el) (tk := tk) hd hw f (o + d) (by omega)
      rw [List.length_cons]; omega
    · simp
theorem oneS_len {n : Nat} {s : Sp} (h : stE n s = 0) (h2 : ¬ s.k = 2) : (oneS s).length ≤ 360 := by
  unfold oneS
  split
  · simp
  · rename_i h0
    have hk := (stE_frE h).1
    obtain ⟨_, _, h5⟩ := stE_one h h2
    obtain ⟨_, h6, h7⟩ := h5 (by omega)
    have := swL_len (az := s.at'.az) (el := s.at'.el) (tk := s.x4) h6 (upw_bd s.at'.az s.x2).2 361 0 (Int.le_refl _)
    omega
def cB : Nat → Nat
  | 0 => 3600
  | n + 1 => 100 * cB n + 3600
theorem cnt_le : ∀ {n : Nat} {l : Sps}, okP n l → (stopsAll n l).length ≤ cB n := by
  have hsum : ∀ (g : Sp → List St) (B : Nat) (l : Sps), (∀ s ∈ l, (g s).length ≤ B) → (l.flatMap g).length ≤ l.length * B := by
    intro g B l
    induction l with
    | nil => intro _; simp
    | cons s r ih =>
      intro h
      have h1 := h s (by simp)
      have h2 := ih fun s hs => h s (by simp [hs])
      rw [List.flatMap_cons, List.length_append, List.length_cons, Nat.add_mul]; omega
  intro n
  induction n with
  | zero =>
    intro l h
    obtain ⟨h10, hs⟩ := okP_e h
    have := hsum (stopsOf 0) 360 l (fun s hs' => by
      have h2 : ¬ s.k = 2 := fun e => by obtain ⟨_, m, hm, _⟩ := stE_rep (hs s hs') e; omega
      rw [stopsOf]; exact oneS_len (hs s hs') h2)
    rw [stopsAll, cB]; omega
  | succ n ih =>
    intro l h
    obtain ⟨h10, hs⟩ := okP_e h
    have := hsum (stopsOf (n + 1)) (10 * cB n + 360) l (fun s hs' => by
      have hse := hs s hs'
      rw [stopsOf]
      split
      · rename_i h2
        obtain ⟨⟨_, h5⟩, m, hm, h6⟩ := stE_rep hse h2
        obtain rfl : n = m := by omega
        have := ih h6
        rw [repL_len]
        have h7 : s.x5.toNat * (s.body.flatMap (stopsOf n)).length ≤ 10 * cB n := Nat.mul_le_mul (by omega) this
        omega
      · rename_i h2
        have := oneS_len hse h2; omega)
    have h3 : l.length * (10 * cB n + 360) ≤ 10 * (10 * cB n + 360) := Nat.mul_le_mul_right _ h10
    rw [stopsAll, cB]; omega
theorem cB_le : ∀ {n : Nat}, n ≤ 2 → cB n ≤ 100000000 := by decide
noncomputable def cf_rcount (n : Nat) : List AV → Option AV
  | [v] => onSps v fun l => if okP n l then some (I ((stopsAll n l).length : Int)) else none
  | _ => none
theorem x_rcount (n : Nat) (l : Sps) (h1 : okP n l) : cf_rcount n [.vs (eSps l)] = some (I ((stopsAll n l).length : Int)) := by
  simp only [cf_rcount]
  exact (onSps_e l _).trans (if_pos h1)
def S82 (l : Sps) (p : Nat × Nat) : AState := ⟨[.vs (eSps l), .any, .any, I p.2, I p.1, .any, .any, .any, .any, .any, .any, .any, .any, .any, .any, .any, .any, .any, .any, .any, .any, .any, .any, .any, .any, .any, .any, .any, .any, .any, .any, .any, .any, .any, .any, .any, .any, .any, .any, .any, .any], [], 0⟩
theorem okP_one {n : Nat} {s : Sp} (h : stE n s = 0) : okP n [s] := by
  unfold okP stCh
  rw [if_pos (by rfl), stCg, if_pos h]; rfl
theorem k_rcountG (n : Nat) (hn2 : n ≤ 2) (cs : Ctx) (hcs : Good P cs) (cS : ∀ s, stE n s = 0 → ¬ s.k = 2 → cs 22 [.vs [eSp s]] = some (.vs ((stopsOf n s).map eSt)))
    (cR : ∀ m b, n = m + 1 → okP m b → cs 82 [.vs (eSps b)] = some (I ((stopsAll m b).length : Int))) (l : Sps) (hok : okP n l) : FOk P 82 [.vs (eSps l)] (I ((stopsAll n l).length : Int)) := by
  obtain ⟨h10, hs⟩ := okP_e hok
  have hle := cnt_le hok
  have hcb := cB_le hn2
  refine c82.fok (by simp only [subs, sub1, free_Sps]) (Cor.run hcs (noHx_good _) hm ?_)
  simp +contextual -implicitDefEqProofs (maxSteps := 2000000) only [bg_eq, a82, eSps_len, ruB, rh_no, Int.reduceLT, Int.reduceLE, Int.reduceAdd, Int.reduceSub, Int.reduceMul, Int.reduceNeg, Int.reduceToNat, Int.reduceEq, Int.reduceNe, Int.reduceTDiv, Int.reduceTMod, implies_true, putL, appN, appX, appC, Eng.Fi, reduceCtorEq, exists_eq_left', exists_eq_left, if_true, if_false, List.replicate, Nat.reduceAdd, Nat.reduceSub, Nat.reduceMul, Nat.reduceLeDiff, Nat.reduceLT, Nat.reduceEqDiff]
  refine Cor.lp hcs (noHx_good _) hm (S82 l) (fun p => p.1 ≤ l.length ∧ (stopsAll n l).length = p.2 + (stopsAll n (l.drop p.1)).length) (fun p => l.length - p.1) (a := (0, 0)) ⟨Nat.zero_le _, by simp⟩ (Wkn.keep [0, 3, 4] rfl) ?_
  rintro f ⟨i, k⟩ ⟨hi, hf⟩ go
  simp only at hi hf
  rcases Nat.lt_or_ge i l.length with hlt | hlt
  · have e1 : decide ((i : Int) < (l.length : Int)) = true := lt_t hlt
    have e2 := eSps_get l hlt
    have e3 : IntKind.wrap .i64 ((i : Int) + 1) = ((i + 1 : Nat) : Int) := suc_w (by omega)
    have hse := hs l[i] (by simp)
    have hdr := List.drop_eq_getElem_cons hlt
    rw [hdr] at hf
    have hsa : stopsAll n (l[i] :: l.drop (i + 1)) = stopsOf n l[i] ++ stopsAll n (l.drop (i + 1)) := List.flatMap_cons
    rw [hsa, List.length_append] at hf
    clear hsa
    have hsl : ((eSps l).drop i).take (i + 1 - i) = [eSp l[i]] := by
      rw [eSps_map, List.drop_eq_getElem_cons (by simpa using hlt), show i + 1 - i = 1 by omega, List.take_succ_cons, List.take_zero]; simp
    generalize hsx : l[i] = s at *
    by_cases h2 : s.k = 2
    · obtain ⟨⟨v1, v2⟩, m, rfl, hm1⟩ := stE_rep hse h2
      have y := cR m s.body rfl hm1
      have hso : stopsOf (m + 1) s = repL (stopsAll m s.body) s.x5.toNat := by rw [stopsOf, if_pos h2]; rfl
      rw [hso, repL_len] at hf
      obtain ⟨q, ⟨az, el⟩, x2, x3, x4, x5, b⟩ := s
      simp only [Sp.k] at h2
      subst h2
      simp only [Sp.x5, Sp.body] at v1 v2 y hf
      simp only [eSp] at e2
      generalize (stopsAll m b).length = w at *
      have hx : ((x5.toNat : Nat) : Int) = x5 := Int.toNat_of_nonneg (by omega)
      have hmul : x5 * (w : Int) = ((x5.toNat * w : Nat) : Int) := by rw [Int.natCast_mul, hx]
      generalize hq : x5.toNat * w = q at *
      have w1 : IntKind.wrap .i64 (x5 * (w : Int)) = (q : Int) := by rw [hmul]; exact wrap64 (by omega) (by omega)
      have w2 : IntKind.wrap .i64 ((k : Int) + (q : Int)) = ((k + q : Nat) : Int) := by rw [wrap64 (by omega) (by omega)]; omega
      simp +contextual -implicitDefEqProofs (maxSteps := 2000000) only [S82, e1, e2, e3, eSps_len, y, w1, w2, ruB, rh_no, Int.reduceLT, Int.reduceLE, Int.reduceAdd, Int.reduceSub, Int.reduceMul, Int.reduceNeg, Int.reduceToNat, Int.reduceEq, Int.reduceNe, Int.reduceTDiv, Int.reduceTMod, implies_true, putL, appN, appX, appC, Eng.Fi, reduceCtorEq, exists_eq_left', exists_eq_left, if_true, if_false, List.replicate, Nat.reduceAdd, Nat.reduceSub, Nat.reduceMul, Nat.reduceLeDiff, Nat.reduceLT, Nat.reduceEqDiff]
      exact go _ (i + 1, k + q) ⟨hlt, by simp only; omega⟩ (by simp only; omega) (Wkn.keep [0, 3, 4] rfl)
    · have y := cS s hse h2
      obtain ⟨q, ⟨az, el⟩, x2, x3, x4, x5, b⟩ := s
      simp only [Sp.k] at h2
      have h2' : (q = 2) = False := eq_false h2
      generalize stopsOf n (.mk q ⟨az, el⟩ x2 x3 x4 x5 b) = w at *
      have hlw : w.length ≤ 100000000 := by omega
      have w2 : IntKind.wrap .i64 ((k : Int) + (w.length : Int)) = ((k + w.length : Nat) : Int) := by rw [wrap64 (by omega) (by omega)]; omega
      have al : ((eSps l).all fun v => decide (v.cells.length = 8)) = true := by
        rw [eSps_map, List.all_map, List.all_eq_true]
        intro s _
        cases s; simp [eSp, AV.cells]
      have b0 : ((i : Int) ≤ ((i + 1 : Nat) : Int)) = True := by simp only [eq_iff_iff, iff_true]; omega
      have b1 : (i + 1 ≤ l.length) = True := by simp only [eq_iff_iff, iff_true]; omega
      simp only [eSp] at e2 y hsl
      simp +contextual -implicitDefEqProofs (maxSteps := 2000000) only [S82, e1, e2, e3, eSps_len, h2', y, w2, b0, b1, hsl, al, List.length_map, ruB, rh_no, Int.reduceLT, Int.reduceLE, Int.reduceAdd, Int.reduceSub, Int.reduceMul, Int.reduceNeg, Int.reduceToNat, Int.reduceEq, Int.reduceNe, Int.reduceTDiv, Int.reduceTMod, implies_true, putL, appN, appX, appC, Eng.Fi, reduceCtorEq, exists_eq_left', exists_eq_left, if_true, if_false, List.replicate, Nat.reduceAdd, Nat.reduceSub, Nat.reduceMul, Nat.reduceLeDiff, Nat.reduceLT, Nat.reduceEqDiff]
      exact go _ (i + 1, k + w.length) ⟨hlt, by simp only; omega⟩ (by simp only; omega) (Wkn.keep [0, 3, 4] rfl)
  · have e1 : decide ((i : Int) < (l.length : Int)) = false := lt_f hlt
    rw [List.drop_eq_nil_of_le hlt] at hf
    have hf : (stopsAll n l).length = k := by rw [hf]; simp [stopsAll]
    rw [hf]
    simp +contextual -implicitDefEqProofs (maxSteps := 2000000) only [S82, e1, eSps_len, ruB, rh_no, Int.reduceLT, Int.reduceLE, Int.reduceAdd, Int.reduceSub, Int.reduceMul, Int.reduceNeg, Int.reduceToNat, Int.reduceEq, Int.reduceNe, Int.reduceTDiv, Int.reduceTMod, implies_true, putL, appN, appX, appC, Eng.Fi, reduceCtorEq, exists_eq_left', exists_eq_left, if_true, if_false, List.replicate, Nat.reduceAdd, Nat.reduceSub, Nat.reduceMul, Nat.reduceLeDiff, Nat.reduceLT, Nat.reduceEqDiff]
theorem g_rcount : ∀ (n : Nat), n ≤ 2 → Fn P 82 (cf_rcount n)
  | 0, hn => fun args v h => by
    unfold cf_rcount at h; split at h
    · obtain ⟨l, rfl, h2⟩ := onSps_inv h
      split at h2
      · rename_i hc; cases h2
        refine k_rcountG 0 (by decide) _ (addC_good (g_rStops 0) (noC_good _)) (fun s hs h2 => ?_) (fun m b e => by omega) l hc
        have := x_rStops 0 [s] (okP_one hs) (by rw [stopsAll, List.flatMap_cons, List.flatMap_nil, List.append_nil, stopsOf]; exact Nat.le_trans (oneS_len hs h2) (by decide))
        rw [stopsAll, List.flatMap_cons, List.flatMap_nil, List.append_nil] at this
        exact this
      · cases h2
    · cases h
  | n + 1, hn => fun args v h => by
    have g := g_rcount n (by omega)
    unfold cf_rcount at h; split at h
    · obtain ⟨l, rfl, h2⟩ := onSps_inv h
      split at h2
      · rename_i hc; cases h2
        refine k_rcountG (n + 1) hn _ (addC_good g (addC_good (g_rStops (n + 1)) (noC_good _))) (fun s hs h2 => ?_) (fun m b e h1 => ?_) l hc
        · have := x_rStops (n + 1) [s] (okP_one hs) (by rw [stopsAll, List.flatMap_cons, List.flatMap_nil, List.append_nil, stopsOf, if_neg h2]; exact Nat.le_trans (oneS_len hs h2) (by decide))
          rw [stopsAll, List.flatMap_cons, List.flatMap_nil, List.append_nil] at this
          exact this
        · obtain rfl : n = m := by omega
          exact x_rcount n b h1
      · cases h2
    · cases h
theorem k_rCheckSteps (l : Sps) : FOk P 20 [.vs (eSps l)] (.tup [I (ckC l).1, I (ckC l).2]) := by
  have y := x_rListErr 2 l 0 (by simp)
  by_cases h0 : (stCh (stE 2) l).2 = 0
  · have hv : ckC l = (0, unl (((stopsAll 2 l).length : Int) ≤ 60) 8) := if_pos h0
    rw [hv]
    have yc := x_rcount 2 l h0
    by_cases h60 : ((stopsAll 2 l).length : Int) ≤ 60
    · rw [unl_t 8 h60]
      have h60' : (60 < ((stopsAll 2 l).length : Int)) = False := by simp only [eq_iff_iff, iff_false]; omega
      refine c20.fok (by simp only [subs, sub1, free_Sps]) (Cor.run (addC_good (g_rListErr 2 (by decide)) (addC_good (g_rcount 2 (by decide)) (noC_good _))) (noHx_good _) hm ?_)
      simp +contextual -implicitDefEqProofs (maxSteps := 2000000) only [bg_eq, a20, y, yc, h0, h60', not_true_eq_false, ruB, rh_no, Int.reduceLT, Int.reduceLE, Int.reduceAdd, Int.reduceSub, Int.reduceMul, Int.reduceNeg, Int.reduceToNat, Int.reduceEq, Int.reduceNe, Int.reduceTDiv, Int.reduceTMod, implies_true, putL, appN, appX, appC, Eng.Fi, reduceCtorEq, exists_eq_left', exists_eq_left, if_true, if_false, List.replicate, Nat.reduceAdd, Nat.reduceSub, Nat.reduceMul, Nat.reduceLeDiff, Nat.reduceLT, Nat.reduceEqDiff]
    · rw [unl_f 8 h60]
      have h60' : (60 < ((stopsAll 2 l).length : Int)) = True := by simp only [eq_iff_iff, iff_true]; omega
      refine c20.fok (by simp only [subs, sub1, free_Sps]) (Cor.run (addC_good (g_rListErr 2 (by decide)) (addC_good (g_rcount 2 (by decide)) (noC_good _))) (noHx_good _) hm ?_)
      simp +contextual -implicitDefEqProofs (maxSteps := 2000000) only [bg_eq, a20, y, yc, h0, h60', not_true_eq_false, ruB, rh_no, Int.reduceLT, Int.reduceLE, Int.reduceAdd, Int.reduceSub, Int.reduceMul, Int.reduceNeg, Int.reduceToNat, Int.reduceEq, Int.reduceNe, Int.reduceTDiv, Int.reduceTMod, implies_true, putL, appN, appX, appC, Eng.Fi, reduceCtorEq, exists_eq_left', exists_eq_left, if_true, if_false, List.replicate, Nat.reduceAdd, Nat.reduceSub, Nat.reduceMul, Nat.reduceLeDiff, Nat.reduceLT, Nat.reduceEqDiff]
  · have hv : ckC l = stCh (stE 2) l := if_neg h0
    rw [hv]
    refine c20.fok (by simp only [subs, sub1, free_Sps]) (Cor.run (addC_good (g_rListErr 2 (by decide)) (addC_good (g_rcount 2 (by decide)) (noC_good _))) (noHx_good _) hm ?_)
    simp +contextual -implicitDefEqProofs (maxSteps := 2000000) only [bg_eq, a20, y, h0, not_false_eq_true, ruB, rh_no, Int.reduceLT, Int.reduceLE, Int.reduceAdd, Int.reduceSub, Int.reduceMul, Int.reduceNeg, Int.reduceToNat, Int.reduceEq, Int.reduceNe, Int.reduceTDiv, Int.reduceTMod, implies_true, putL, appN, appX, appC, Eng.Fi, reduceCtorEq, exists_eq_left', exists_eq_left, if_true, if_false, List.replicate, Nat.reduceAdd, Nat.reduceSub, Nat.reduceMul, Nat.reduceLeDiff, Nat.reduceLT, Nat.reduceEqDiff]
noncomputable def cf_rCheckSteps : List AV → Option AV
  | [l_v] => onSps l_v fun l => some (.tup [I (ckC l).1, I (ckC l).2])
  | _ => none
theorem g_rCheckSteps : Fn P 20 cf_rCheckSteps := fun args v hh => by
  unfold cf_rCheckSteps at hh; split at hh
  · obtain ⟨l, rfl, hh1⟩ := onSps_inv hh
    have hk := Option.some.inj hh1; subst hk; exact k_rCheckSteps _
  · cases hh
theorem x_rCheckSteps (l : Sps) : cf_rCheckSteps [eVs l] = some (.tup [I (ckC l).1, I (ckC l).2]) := by
  simp only [cf_rCheckSteps, onSps_e]
theorem k_rStepsErr (l : Sps) : FOk P 29 [.vs (eSps l)] (I (ckC l).2) := by
  have y := x_rCheckSteps l
  refine c29.fok (by simp only [subs, sub1, free_Sps]) (Cor.run (addC_good g_rCheckSteps (noC_good _)) (noHx_good _) hm ?_)
  simp +contextual -implicitDefEqProofs (maxSteps := 2000000) only [bg_eq, a29, y, ruB, rh_no, Int.reduceLT, Int.reduceLE, Int.reduceAdd, Int.reduceSub, Int.reduceMul, Int.reduceNeg, Int.reduceToNat, Int.reduceEq, Int.reduceNe, Int.reduceTDiv, Int.reduceTMod, implies_true, putL, appN, appX, appC, Eng.Fi, reduceCtorEq, exists_eq_left', exists_eq_left, if_true, if_false, List.replicate, Nat.reduceAdd, Nat.reduceSub, Nat.reduceMul, Nat.reduceLeDiff, Nat.reduceLT, Nat.reduceEqDiff]
noncomputable def cf_rStepsErr : List AV → Option AV
  | [l_v] => onSps l_v fun l => some (I (ckC l).2)
  | _ => none
theorem g_rStepsErr : Fn P 29 cf_rStepsErr := fun args v hh => by
  unfold cf_rStepsErr at hh; split at hh
  · obtain ⟨l, rfl, hh1⟩ := onSps_inv hh
    have hk := Option.some.inj hh1; subst hk; exact k_rStepsErr _
  · cases hh
theorem x_rStepsErr (l : Sps) : cf_rStepsErr [eVs l] = some (I (ckC l).2) := by
  simp only [cf_rStepsErr, onSps_e]
theorem arSteps {n : Nat} {u : AV} (h : ArG P n 22 u) : ∃ l : Sps, u = .vs (eSps l) := by
  have key : ∀ (n : Nat) (us : List AV), VT P n 73 us → ∃ s : Sp, mkA true us = eSp s := by
    intro n
    induction n using Nat.strongRecOn with
    | ind n ih =>
      intro us hu
      have hs := shT_of (N := n) 3 n 73 [.i, .i, .i, .i, .i, .i, .i, .op true 73] us (Nat.le_refl _) (by kernel_rfl) hu
      simp only [ShV, ShV1] at hs
      obtain ⟨_, _, rfl, ⟨a, rfl, _⟩, _, _, rfl, ⟨b, rfl, _⟩, _, _, rfl, ⟨c, rfl, _⟩, _, _, rfl, ⟨d, rfl, _⟩, _, _, rfl, ⟨e, rfl, _⟩, _, _, rfl, ⟨f, rfl, _⟩, _, _, rfl, ⟨g, rfl, _⟩, _, _, rfl, ⟨m, l, hm, rfl, hl, _⟩, rfl⟩ := hs
      obtain ⟨gs, e1, _⟩ := sl_enc (α := Sp) eSp (ag := true) (fun p hp => ih m hm p hp) hl
      refine ⟨.mk a ⟨b, c⟩ d e f g gs, ?_⟩
      rw [e1, ← eSps_map]; rfl
  have := h.one 1 (k := .op true 73) (by kernel_rfl) (by kernel_rfl)
  simp only [ShV1] at this
  obtain ⟨m, l, _, rfl, hl, _⟩ := this
  obtain ⟨gs, e1, _⟩ := sl_enc (α := Sp) eSp (ag := true) (fun p hp => key m p hp) hl
  rw [e1, ← eSps_map]
  exact ⟨gs, rfl⟩
end Sc
