import Derived.Test.YtjfhhaaogcgkpaaEngS9
import Derived.Test.YtjfhhaaogcgkpaaL12a
import Derived.Test.YtjfhhaaogcgkpaaL12b
import Derived.Test.YtjfhhaaogcgkpaaL12c
import Derived.Test.YtjfhhaaogcgkpaaL12d
open Go Go.Proofs Eng
set_option maxRecDepth 100000
set_option linter.unusedSimpArgs false
set_option linter.unusedVariables false

namespace Sh

theorem x67i (l : List Gt) (i k : Int) (hi : 0 ≤ i ∧ i < l.length) (hk : 0 ≤ k ∧ k < l.length) (h : okS l) : c67f [.vs (l.map eG), .int .i64 i, .int .i64 k] = some (.agg [I ((l[i.toNat]'(by omega)).lo - (l[k.toNat]'(by omega)).hi), I ((l[i.toNat]'(by omega)).hi - (l[k.toNat]'(by omega)).lo)]) := by
  have := x67 l i.toNat k.toNat (by omega) (by omega) h
  rw [Int.toNat_of_nonneg hi.1, Int.toNat_of_nonneg hk.1] at this
  exact this
theorem k12 (l : List Gt) (x0 x1 d lim : Int) : FOk P 12 [.vs (l.map eG), .agg [I x0, I x1], .agg [I d, I lim]] (.bool true) := by
  by_cases h22 : (l.length : Int) ≤ 22
  · have b1 : (l.length ≤ 1000) = True := by simp only [eq_iff_iff, iff_true]; omega
    have b2 : (l.length ≤ 1099511627776) = True := by simp only [eq_iff_iff, iff_true]; omega
    have w0 : IntKind.wrap .i64 ((l.length : Int) - 1) = (l.length : Int) - 1 := wrap64 (by omega) (by omega)
    by_cases hc : (chkP l).2 = 0
    · have hs := chkP_sG hc
      have hok : okS l := ⟨by omega, hs⟩
      have caseA : ∀ (Q : Prop), (((0 ≤ x0 ∧ x0 ≤ (l.length : Int) - 1) = False → True → True → c65f [.vs (l.map eG), .int .i64 x0, .int .i64 x1] = some (.tup [.agg [I 0, I 0], I 6]) → True → Q)) →
          ((0 ≤ x0 ∧ x0 ≤ (l.length : Int) - 1) = True → (0 ≤ x1 ∧ x1 ≤ (l.length : Int) - 1) = False → True → c65f [.vs (l.map eG), .int .i64 x0, .int .i64 x1] = some (.tup [.agg [I 0, I 0], I 6]) → True → Q) →
          ((0 ≤ x0 ∧ x0 ≤ (l.length : Int) - 1) = True → (0 ≤ x1 ∧ x1 ≤ (l.length : Int) - 1) = True → x1 ≤ x0 → c65f [.vs (l.map eG), .int .i64 x0, .int .i64 x1] = some (.tup [.agg [I 0, I 0], I 9]) → (x0 < x1) = False → Q) →
          ((0 ≤ x0 ∧ x0 ≤ (l.length : Int) - 1) = True → (0 ≤ x1 ∧ x1 ≤ (l.length : Int) - 1) = True → x0 < x1 → ∀ p q, c65f [.vs (l.map eG), .int .i64 x0, .int .i64 x1] = some (.tup [.agg [I p, I q], I 0]) → (x1 ≤ x0) = False ∧ c67f [.vs (l.map eG), .int .i64 x0, .int .i64 x1] = some (.agg [I p, I q]) → Q) → Q := by
        intro Q q1 q2 q3 q4
        have y := x65 l x0 x1 b2
        by_cases a1 : 0 ≤ x0 ∧ x0 ≤ (l.length : Int) - 1
        · by_cases a2 : 0 ≤ x1 ∧ x1 ≤ (l.length : Int) - 1
          · by_cases a3 : x0 < x1
            · have he : btE l x0 x1 = 0 := by simp only [btE, firstE, hc, unl, a1, a2, a3, and_self, if_true]
              have i1 : x0.toNat < l.length := by omega
              have i2 : x1.toNat < l.length := by omega
              simp only [btL, he, if_true, List.getElem?_eq_getElem i1, List.getElem?_eq_getElem i2] at y
              exact q4 (by simp only [a1, and_self]) (by simp only [a2, and_self]) a3 _ _ y ⟨by simp only [eq_iff_iff, iff_false]; omega, x67i l x0 x1 ⟨a1.1, by omega⟩ ⟨a2.1, by omega⟩ hok⟩
            · have he : btE l x0 x1 = 9 := by simp [btE, firstE, hc, unl, a1, a2, a3]
              simp only [btL, he] at y
              exact q3 (by simp only [a1, and_self]) (by simp only [a2, and_self]) (by omega) y (by simp only [a3])
          · have he : btE l x0 x1 = 6 := by simp [btE, firstE, hc, unl, a2]
            simp only [btL, he] at y
            exact q2 (by simp only [a1, and_self]) (by simp only [a2]) trivial y trivial
        · have he : btE l x0 x1 = 6 := by simp [btE, firstE, hc, unl, a1]
          simp only [btL, he] at y
          exact q1 (by simp only [a1]) trivial trivial y trivial
      have caseL : ∀ (Q : Prop), ((1 ≤ lim ∧ lim ≤ 20000) → unl (1 ≤ lim ∧ lim ≤ 20000) 2 = 0 → ∀ R : List Rg, c63f [.vs (l.map eG), .int .i64 lim] = some (.tup [.vs (R.map eN), I 0]) → c68f [.vs (l.map eG), .int .i64 lim] = some (.vs (R.map eN)) ∧ c43f [.vs (R.map eN), .vs (R.map eN)] = some (.bool true) → Q) →
          (¬ (1 ≤ lim ∧ lim ≤ 20000) → unl (1 ≤ lim ∧ lim ≤ 20000) 2 = 2 → List Rg → c63f [.vs (l.map eG), .int .i64 lim] = some (.tup [.vs [], I 2]) → True → Q) → Q := by
        intro Q q1 q2
        have y := x63 l lim b2
        by_cases a : 1 ≤ lim ∧ lim ≤ 20000
        · have hu := unl_t (2 : Int) a
          have he : rmE l lim = 0 := by simp only [rmE, firstE, hc, hu, if_true]
          simp only [rmL, he, if_true] at y
          have hlen : (rampO lim l).l.length ≤ l.length := by
            have h20 := (chkP_zero hc).1
            cases l with
            | nil => simp [rampO, OuN.l]
            | cons g r =>
              have := rampR_len (d := lim) r 1 g none
              simp only [rampO, OuN.l, List.length_nil, List.length_cons] at *
              omega
          have hb : ((rampO lim l).l.length ≤ 1099511627776) = True := by simp only [eq_iff_iff, iff_true]; omega
          have y43 := x43 (rampO lim l).l (rampO lim l).l hb hb
          rw [decide_eq_true rfl] at y43
          exact q1 a hu _ y ⟨x68 l lim (by simp only [hok]), y43⟩
        · have hu := unl_f (2 : Int) a
          have he : rmE l lim = 2 := by simp [rmE, firstE, hc, hu]
          simp only [rmL, he] at y
          exact q2 a hu [] y trivial
      have caseD : ∀ (Q : Prop), (atE d = 2 → c60f [.vs (l.map eG), .int .i64 d] = some (.tup [.agg [I 0, I 0, I 0, I 0], I 2]) → c62f [.vs (l.map eG), .int .i64 d] = some (.tup [.agg [I 0, I 0, I 0, I 0], I 2]) → c61f [.vs (l.map eG), .int .i64 d] = some (.tup [I 0, I 2]) → True → True → True → Q) →
          (atE d = 0 → c60f [.vs (l.map eG), .int .i64 d] = some (.tup [.agg [I 0, I 0, I 0, I 0], I 12]) → c62f [.vs (l.map eG), .int .i64 d] = some (.tup [.agg [I 0, I 0, I 0, I 0], I 12]) → c61f [.vs (l.map eG), .int .i64 d] = some (.tup [I 0, I 12]) → (∃ c, c69f [.vs (l.map eG), .int .i64 d, .bool false] = some (.tup [eC c, .bool false])) → (∃ c p, c69f [.vs (l.map eG), .int .i64 d, .bool true] = some (.tup [eC c, .bool p])) → (∃ n p, c70f [.vs (l.map eG), .int .i64 d] = some (.tup [I n, .bool p])) → Q) →
          (∀ c c' n, atE d = 0 → c60f [.vs (l.map eG), .int .i64 d] = some (.tup [eC c, I 0]) → c62f [.vs (l.map eG), .int .i64 d] = some (.tup [eC c', I 0]) → c61f [.vs (l.map eG), .int .i64 d] = some (.tup [I n, I 0]) → c69f [.vs (l.map eG), .int .i64 d, .bool false] = some (.tup [eC c, .bool true]) → c69f [.vs (l.map eG), .int .i64 d, .bool true] = some (.tup [eC c', .bool true]) → (∃ p, c70f [.vs (l.map eG), .int .i64 d] = some (.tup [I n, .bool p])) → Q) → Q := by
        intro Q q1 q2 q3
        have y1 := x60 l d b2
        have y2 := x62 l d b2
        have y3 := x61 l d b2
        have z1 := x69 l d false hok
        have z2 := x69 l d true hok
        have z3 := x70 l d (by simp only [hok])
        by_cases hd : atE d = 0
        · have hd0 := hd
          rw [atE_z] at hd0
          have h0 : lenE l d = 0 := by simp only [lenE, firstE, hc, if_true, unl, hd0, and_self]
          rcases prof_ok h0 with ⟨h1, h2, h3, h4⟩ | ⟨h1, h2, h3, h4, h5⟩
          · rw [h1] at y1; rw [h2] at y2; rw [h3] at y3
            rw [show B (decide (¬ (refS false l d).to = 0)) = .bool false by simp [h4]] at z1
            exact q2 hd y1 y2 y3 ⟨_, z1⟩ ⟨_, _, z2⟩ ⟨_, _, z3⟩
          · rw [h1] at y1; rw [h2] at y2; rw [h3] at y3
            rw [show B (decide (¬ (refS false l d).to = 0)) = .bool true by simp [h4]] at z1
            rw [show B (decide (¬ (refS true l d).to = 0)) = .bool true by simp [h5]] at z2
            exact q3 _ _ _ hd y1 y2 y3 z1 z2 ⟨_, z3⟩
        · have hd2 : atE d = 2 := by
            rw [atE_z] at hd
            exact unl_f _ hd
          have h0 : lenE l d = 2 := by
            rw [atE_z] at hd
            simp [lenE, firstE, hc, unl, hd]
          simp only [strL, possL, h0] at y1 y2 y3
          exact q1 hd2 y1 y2 y3 trivial trivial trivial
      have y66 := x66 l b1
      have y64 := x64 l b2
      have hcc : chkP l = ((chkP l).1, 0) := Prod.ext rfl hc
      generalize (chkP l).1 = ci at *
      rw [hcc] at y64 y66
      apply caseA
      · intro a1 _ _ y65 _
        apply caseL
        · rintro l1 l2 R y63 ⟨y68, y43⟩
          apply caseD
          · intro d1 y60 y62 y61 _ _ _
            exact k12_000 l x0 x1 d lim ci h22 b1 b2 w0 y66 y64 a1 y65 l2 R y63 y68 y43 d1 y60 y62 y61
          · rintro d1 y60 y62 y61 ⟨c, z1⟩ ⟨c', p', z2⟩ ⟨n', p'', z3⟩
            exact k12_001 l x0 x1 d lim ci h22 b1 b2 w0 y66 y64 a1 y65 l2 R y63 y68 y43 d1 y60 y62 y61 c z1 c' p' z2 n' p'' z3
          · rintro c c' n d1 y60 y62 y61 z1 z2 ⟨p', z3⟩
            exact k12_002 l x0 x1 d lim ci h22 b1 b2 w0 y66 y64 a1 y65 l2 R y63 y68 y43 c c' n d1 y60 y62 y61 z1 z2 p' z3
        · intro l1 l2 R y63 _
          apply caseD
          · intro d1 y60 y62 y61 _ _ _
            exact k12_010 l x0 x1 d lim ci h22 b1 b2 w0 y66 y64 a1 y65 l2 y63 d1 y60 y62 y61
          · rintro d1 y60 y62 y61 ⟨c, z1⟩ ⟨c', p', z2⟩ ⟨n', p'', z3⟩
            exact k12_011 l x0 x1 d lim ci h22 b1 b2 w0 y66 y64 a1 y65 l2 y63 d1 y60 y62 y61 c z1 c' p' z2 n' p'' z3
          · rintro c c' n d1 y60 y62 y61 z1 z2 ⟨p', z3⟩
            exact k12_012 l x0 x1 d lim ci h22 b1 b2 w0 y66 y64 a1 y65 l2 y63 c c' n d1 y60 y62 y61 z1 z2 p' z3
      · intro a1 a2 _ y65 _
        apply caseL
        · rintro l1 l2 R y63 ⟨y68, y43⟩
          apply caseD
          · intro d1 y60 y62 y61 _ _ _
            exact k12_100 l x0 x1 d lim ci h22 b1 b2 w0 y66 y64 a1 a2 y65 l2 R y63 y68 y43 d1 y60 y62 y61
          · rintro d1 y60 y62 y61 ⟨c, z1⟩ ⟨c', p', z2⟩ ⟨n', p'', z3⟩
            exact k12_101 l x0 x1 d lim ci h22 b1 b2 w0 y66 y64 a1 a2 y65 l2 R y63 y68 y43 d1 y60 y62 y61 c z1 c' p' z2 n' p'' z3
          · rintro c c' n d1 y60 y62 y61 z1 z2 ⟨p', z3⟩
            exact k12_102 l x0 x1 d lim ci h22 b1 b2 w0 y66 y64 a1 a2 y65 l2 R y63 y68 y43 c c' n d1 y60 y62 y61 z1 z2 p' z3
        · intro l1 l2 R y63 _
          apply caseD
          · intro d1 y60 y62 y61 _ _ _
            exact k12_110 l x0 x1 d lim ci h22 b1 b2 w0 y66 y64 a1 a2 y65 l2 y63 d1 y60 y62 y61
          · rintro d1 y60 y62 y61 ⟨c, z1⟩ ⟨c', p', z2⟩ ⟨n', p'', z3⟩
            exact k12_111 l x0 x1 d lim ci h22 b1 b2 w0 y66 y64 a1 a2 y65 l2 y63 d1 y60 y62 y61 c z1 c' p' z2 n' p'' z3
          · rintro c c' n d1 y60 y62 y61 z1 z2 ⟨p', z3⟩
            exact k12_112 l x0 x1 d lim ci h22 b1 b2 w0 y66 y64 a1 a2 y65 l2 y63 c c' n d1 y60 y62 y61 z1 z2 p' z3
      · intro a1 a2 a3 y65 a4
        apply caseL
        · rintro l1 l2 R y63 ⟨y68, y43⟩
          apply caseD
          · intro d1 y60 y62 y61 _ _ _
            exact k12_200 l x0 x1 d lim ci h22 b1 b2 w0 y66 y64 a1 a2 a3 y65 a4 l2 R y63 y68 y43 d1 y60 y62 y61
          · rintro d1 y60 y62 y61 ⟨c, z1⟩ ⟨c', p', z2⟩ ⟨n', p'', z3⟩
            exact k12_201 l x0 x1 d lim ci h22 b1 b2 w0 y66 y64 a1 a2 a3 y65 a4 l2 R y63 y68 y43 d1 y60 y62 y61 c z1 c' p' z2 n' p'' z3
          · rintro c c' n d1 y60 y62 y61 z1 z2 ⟨p', z3⟩
            exact k12_202 l x0 x1 d lim ci h22 b1 b2 w0 y66 y64 a1 a2 a3 y65 a4 l2 R y63 y68 y43 c c' n d1 y60 y62 y61 z1 z2 p' z3
        · intro l1 l2 R y63 _
          apply caseD
          · intro d1 y60 y62 y61 _ _ _
            exact k12_210 l x0 x1 d lim ci h22 b1 b2 w0 y66 y64 a1 a2 a3 y65 a4 l2 y63 d1 y60 y62 y61
          · rintro d1 y60 y62 y61 ⟨c, z1⟩ ⟨c', p', z2⟩ ⟨n', p'', z3⟩
            exact k12_211 l x0 x1 d lim ci h22 b1 b2 w0 y66 y64 a1 a2 a3 y65 a4 l2 y63 d1 y60 y62 y61 c z1 c' p' z2 n' p'' z3
          · rintro c c' n d1 y60 y62 y61 z1 z2 ⟨p', z3⟩
            exact k12_212 l x0 x1 d lim ci h22 b1 b2 w0 y66 y64 a1 a2 a3 y65 a4 l2 y63 c c' n d1 y60 y62 y61 z1 z2 p' z3
      · rintro a1 a2 a3 p q y65 ⟨a4, y67⟩
        apply caseL
        · rintro l1 l2 R y63 ⟨y68, y43⟩
          apply caseD
          · intro d1 y60 y62 y61 _ _ _
            exact k12_300 l x0 x1 d lim ci h22 b1 b2 w0 y66 y64 a1 a2 a3 p q y65 a4 y67 l2 R y63 y68 y43 d1 y60 y62 y61
          · rintro d1 y60 y62 y61 ⟨c, z1⟩ ⟨c', p', z2⟩ ⟨n', p'', z3⟩
            exact k12_301 l x0 x1 d lim ci h22 b1 b2 w0 y66 y64 a1 a2 a3 p q y65 a4 y67 l2 R y63 y68 y43 d1 y60 y62 y61 c z1 c' p' z2 n' p'' z3
          · rintro c c' n d1 y60 y62 y61 z1 z2 ⟨p', z3⟩
            exact k12_302 l x0 x1 d lim ci h22 b1 b2 w0 y66 y64 a1 a2 a3 p q y65 a4 y67 l2 R y63 y68 y43 c c' n d1 y60 y62 y61 z1 z2 p' z3
        · intro l1 l2 R y63 _
          apply caseD
          · intro d1 y60 y62 y61 _ _ _
            exact k12_310 l x0 x1 d lim ci h22 b1 b2 w0 y66 y64 a1 a2 a3 p q y65 a4 y67 l2 y63 d1 y60 y62 y61
          · rintro d1 y60 y62 y61 ⟨c, z1⟩ ⟨c', p', z2⟩ ⟨n', p'', z3⟩
            exact k12_311 l x0 x1 d lim ci h22 b1 b2 w0 y66 y64 a1 a2 a3 p q y65 a4 y67 l2 y63 d1 y60 y62 y61 c z1 c' p' z2 n' p'' z3
          · rintro c c' n d1 y60 y62 y61 z1 z2 ⟨p', z3⟩
            exact k12_312 l x0 x1 d lim ci h22 b1 b2 w0 y66 y64 a1 a2 a3 p q y65 a4 y67 l2 y63 c c' n d1 y60 y62 y61 z1 z2 p' z3
    · have y66 := x66 l b1
      have y64 := x64 l b2
      have y60 : c60f [.vs (l.map eG), .int .i64 d] = some (.tup [.agg [I 0, I 0, I 0, I 0], I (chkP l).2]) := by
        rw [x60 l d b2]; simp [strL, lenE, firstE, hc]
      have y62 : c62f [.vs (l.map eG), .int .i64 d] = some (.tup [.agg [I 0, I 0, I 0, I 0], I (chkP l).2]) := by
        rw [x62 l d b2]; simp [strL, lenE, firstE, hc]
      have y61 : c61f [.vs (l.map eG), .int .i64 d] = some (.tup [I 0, I (chkP l).2]) := by
        rw [x61 l d b2]; simp [possL, lenE, firstE, hc]
      have y63 : c63f [.vs (l.map eG), .int .i64 lim] = some (.tup [.vs [], I (chkP l).2]) := by
        rw [x63 l lim b2]; simp [rmL, rmE, firstE, hc]
      have y65 : c65f [.vs (l.map eG), .int .i64 x0, .int .i64 x1] = some (.tup [.agg [I 0, I 0], I (chkP l).2]) := by
        rw [x65 l x0 x1 b2]; simp [btL, btE, firstE, hc]
      generalize (chkP l).2 = ce at *
      generalize (chkP l).1 = ci at *
      refine c12.fok (by simp only [subs, sub1, free_G]) (Cor.run (addC_good g70 (addC_good g69 (addC_good g68 (addC_good g67 (addC_good g66 (addC_good g65 (addC_good g64 (addC_good g63 (addC_good g62 (addC_good g61 (addC_good g60 (addC_good g59 (addC_good g43 (addC_good g42 (addC_good g37 (addC_good g34 (addC_good g33 (addC_good g14 (noC_good _))))))))))))))))))) (noHx_good _) hm ?_)
      simp +contextual -implicitDefEqProofs (maxSteps := 2000000) only [bg_eq, a12, x14, x34, x37, y60, y61, y62, y63, y64, y65, y66, hc, h22, b1, b2, eq_self, z00, List.length_map, not_true_eq_false, not_false_eq_true, ruB, rh_no, Int.reduceLT, Int.reduceLE, Int.reduceAdd, Int.reduceSub, Int.reduceMul, Int.reduceNeg, Int.reduceToNat, Int.reduceEq, Int.reduceNe, Int.reduceTDiv, Int.reduceTMod, implies_true, putL, appN, appX, appC, Eng.Fi, reduceCtorEq, exists_eq_left', exists_eq_left, if_true, if_false, List.replicate, Nat.reduceAdd, Nat.reduceSub, Nat.reduceMul, Nat.reduceLeDiff, Nat.reduceLT, Nat.reduceEqDiff]
  · refine c12.fok (by simp only [subs, sub1, free_G]) (Cor.run (addC_good g70 (addC_good g69 (addC_good g68 (addC_good g67 (addC_good g66 (addC_good g65 (addC_good g64 (addC_good g63 (addC_good g62 (addC_good g61 (addC_good g60 (addC_good g59 (addC_good g43 (addC_good g42 (addC_good g37 (addC_good g34 (addC_good g33 (addC_good g14 (noC_good _))))))))))))))))))) (noHx_good _) hm ?_)
    simp +contextual -implicitDefEqProofs (maxSteps := 2000000) only [bg_eq, a12, x14, x34, h22, List.length_map, not_true_eq_false, not_false_eq_true, ruB, rh_no, Int.reduceLT, Int.reduceLE, Int.reduceAdd, Int.reduceSub, Int.reduceMul, Int.reduceNeg, Int.reduceToNat, Int.reduceEq, Int.reduceNe, Int.reduceTDiv, Int.reduceTMod, implies_true, putL, appN, appX, appC, Eng.Fi, reduceCtorEq, exists_eq_left', exists_eq_left, if_true, if_false, List.replicate, Nat.reduceAdd, Nat.reduceSub, Nat.reduceMul, Nat.reduceLeDiff, Nat.reduceLT, Nat.reduceEqDiff]
theorem slG : ∀ {l : List (List AV)}, (∀ us ∈ l, Typ [.i, .i, .i] us) → ∃ gs : List Gt, l.map (mkA true) = gs.map eG ∧ gs.length = l.length
  | [], _ => ⟨[], rfl, rfl⟩
  | us :: l, h => by
    obtain ⟨gs, e, e2⟩ := slG (l := l) fun us hus => h us (by simp [hus])
    obtain ⟨_, _, rfl, ⟨a, rfl, _⟩, _, _, rfl, ⟨b, rfl, _⟩, _, _, rfl, ⟨c, rfl, _⟩, rfl⟩ := h us (by simp)
    exact ⟨⟨a, b, c⟩ :: gs, by simp [e, mkA], by simp [e2]⟩
theorem law12 (u0 u1 u2 : AV) (a0 : ArV (.sl true [.i, .i, .i]) u0) (a1 : ArV (.agg [.i, .i]) u1) (a2 : ArV (.agg [.i, .i]) u2) : FOk P 12 [u0, u1, u2] (.bool true) := by
  obtain ⟨l, rfl, hl, _⟩ := a0
  obtain ⟨us, rfl, h⟩ := a1
  obtain ⟨vs, rfl, h'⟩ := a2
  obtain ⟨_, _, rfl, ⟨a, rfl, _⟩, _, _, rfl, ⟨b, rfl, _⟩, rfl⟩ := h
  obtain ⟨_, _, rfl, ⟨c, rfl, _⟩, _, _, rfl, ⟨d, rfl, _⟩, rfl⟩ := h'
  obtain ⟨gs, e, _⟩ := slG hl
  rw [e]
  exact k12 gs a b c d
end Sh
