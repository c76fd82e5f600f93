import Derived.Test.YtabkbhpeeefmgabEngS9
import Derived.Test.YtabkbhpeeefmgabW915
open Go Go.Proofs Eng
set_option maxRecDepth 100000
set_option linter.unusedSimpArgs false
set_option linter.unusedVariables false
def a8 : AC := .seq (.ops false [] [⟨some 3, .box 25 3 1 true, [.t 1], none⟩, ⟨some 4, .p (.mov), [.c (.int .i64 0)], none⟩, ⟨some 5, .p (.mov), [.c (.int .i64 0)], none⟩]) (.seq (.ops false [] [⟨some 19, .p (.mov), [.t 0], none⟩, ⟨some 20, .call 42, [.t 19], none⟩, ⟨some 18, .p (.mov), [.t 20], none⟩, ⟨some 21, .p (.ext 0), [.t 18], none⟩, ⟨some 22, .p (.ext 1), [.t 18], none⟩, ⟨some 6, .p (.mov), [.t 21], none⟩, ⟨some 7, .p (.mov), [.t 22], none⟩]) (.seq (.ops false [] [⟨some 23, .p (.mov), [.t 0], none⟩, ⟨some 24, .p (.lenS), [.t 23], none⟩, ⟨some 8, .p (.mov), [.t 24], none⟩]) (.seq (.seq (.ops false [] [⟨some 25, .p (.mov), [.t 7], none⟩, ⟨some 26, .p (.faddr 0), [.t 3], none⟩, ⟨some 27, .load 1 false, [.t 26], none⟩, ⟨some 28, .p (.lenS), [.t 27], none⟩, ⟨some 29, .p (.mov), [.t 8], none⟩, ⟨some 30, .p (.binI .eql), [.t 28, .t 29], none⟩, ⟨some 31, .p (.mov), [.t 30], none⟩, ⟨some 32, .p (.faddr 1), [.t 3], some (31, true)⟩, ⟨some 33, .load 1 false, [.t 32], some (31, true)⟩, ⟨some 34, .p (.lenS), [.t 33], some (31, true)⟩, ⟨some 35, .p (.mov), [.t 8], some (31, true)⟩, ⟨some 36, .p (.binI .eql), [.t 34, .t 35], some (31, true)⟩, ⟨some 37, .p (.pick), [.t 31, .t 36, .c (.bool false)], none⟩, ⟨some 38, .p (.mov), [.t 37], none⟩, ⟨some 39, .p (.faddr 2), [.t 3], some (38, true)⟩, ⟨some 40, .load 1 false, [.t 39], some (38, true)⟩, ⟨some 41, .p (.lenS), [.t 40], some (38, true)⟩, ⟨some 42, .p (.mov), [.t 8], some (38, true)⟩, ⟨some 43, .p (.binI .eql), [.t 41, .t 42], some (38, true)⟩, ⟨some 44, .p (.pick), [.t 38, .t 43, .c (.bool false)], none⟩, ⟨some 45, .call 44, [.t 44, .c (.int .i64 10)], none⟩, ⟨some 46, .fbs 1, [.t 25, .t 45], none⟩, ⟨some 47, .call 43, [.t 46], none⟩, ⟨some 7, .p (.mov), [.t 47], none⟩]) (.seq (.ops false [] [⟨some 48, .p (.mov), [.t 7], none⟩, ⟨some 49, .p (.binI .neq), [.t 48, .c (.int .i64 0)], none⟩]) (.cond (.t 49) (.seq (.ops false [] [⟨some 50, .p (.mov), [.t 7], none⟩, ⟨some 4, .p (.mov), [.c (.int .i64 0)], none⟩, ⟨some 5, .p (.mov), [.t 50], none⟩]) (.ret)) (.skip)))) (.seq (.seq (.ops false [] [⟨some 51, .p (.faddr 0), [.t 3], none⟩, ⟨some 52, .load 1 false, [.t 51], none⟩, ⟨some 53, .p (.lenS), [.t 52], none⟩, ⟨some 54, .p (.mov), [.c (.int .i64 0)], none⟩]) (.block 0 (.loop (.seq (.ops false [] [⟨some 55, .p (.binI .lss), [.t 54, .t 53], none⟩]) (.seq (.cond (.t 55) (.skip) (.exit 0)) (.seq (.block 1 (.seq (.ops false [] [⟨some 56, .p (.mov), [.t 54], none⟩, ⟨some 57, .p (.iaddrS 1), [.t 52, .t 54], none⟩, ⟨some 58, .load 1 false, [.t 57], none⟩, ⟨some 9, .p (.mov), [.t 56], none⟩, ⟨some 10, .p (.mov), [.t 58], none⟩]) (.seq (.ops true [] [⟨some 59, .p (.mov), [.t 10], none⟩, ⟨some 60, .p (.mov), [.t 8], none⟩, ⟨some 61, .p (.binI .sub), [.t 60, .c (.int .i64 1)], none⟩, ⟨some 62, .call 45, [.t 59, .c (.int .i64 0), .t 61], none⟩, ⟨some 63, .call 44, [.t 62, .c (.int .i64 6)], none⟩, ⟨some 64, .p (.faddr 0), [.t 3], none⟩, ⟨some 65, .load 1 false, [.t 64], none⟩, ⟨some 66, .p (.mov), [.t 9], none⟩, ⟨some 67, .p (.slc 1 false true false), [.t 65, .t 66], none⟩, ⟨some 68, .p (.mov), [.t 10], none⟩, ⟨some 69, .call 46, [.t 67, .t 68], none⟩, ⟨some 70, .p (.notB), [.t 69], none⟩, ⟨some 71, .call 44, [.t 70, .c (.int .i64 21)], none⟩, ⟨some 72, .fbs 1, [.t 63, .t 71], none⟩, ⟨some 73, .call 43, [.t 72], none⟩, ⟨some 11, .p (.mov), [.t 73], none⟩]) (.seq (.ops false [] [⟨some 74, .p (.mov), [.t 11], none⟩, ⟨some 75, .p (.binI .neq), [.t 74, .c (.int .i64 0)], none⟩]) (.cond (.t 75) (.seq (.ops false [] [⟨some 76, .p (.mov), [.t 9], none⟩, ⟨some 77, .p (.mov), [.t 11], none⟩, ⟨some 4, .p (.mov), [.t 76], none⟩, ⟨some 5, .p (.mov), [.t 77], none⟩]) (.ret)) (.skip)))))) (.ops false [] [⟨some 78, .p (.binI .add), [.t 54, .c (.int .i64 1)], none⟩, ⟨some 54, .p (.mov), [.t 78], none⟩]))))))) (.seq (.seq (.ops false [] [⟨some 79, .p (.mov), [.t 6], none⟩, ⟨some 80, .p (.lenS), [.t 79], none⟩, ⟨some 81, .p (.mov), [.c (.int .i64 0)], none⟩]) (.block 2 (.loop (.seq (.ops false [] [⟨some 82, .p (.binI .lss), [.t 81, .t 80], none⟩]) (.seq (.cond (.t 82) (.skip) (.exit 2)) (.seq (.block 3 (.seq (.ops false [] [⟨some 83, .p (.mov), [.t 81], none⟩, ⟨some 12, .p (.mov), [.t 83], none⟩]) (.seq (.ops false [] [⟨some 84, .p (.faddr 1), [.t 3], none⟩, ⟨some 85, .load 1 false, [.t 84], none⟩, ⟨some 86, .p (.mov), [.t 12], none⟩, ⟨some 87, .p (.iaddrS 1), [.t 85, .t 86], none⟩, ⟨some 88, .load 1 false, [.t 87], none⟩, ⟨some 89, .call 47, [.t 88, .c (.int .i64 60000000)], none⟩, ⟨some 90, .p (.notB), [.t 89], none⟩, ⟨some 91, .p (.mov), [.t 90], none⟩, ⟨some 92, .p (.faddr 2), [.t 3], some (91, false)⟩, ⟨some 93, .load 1 false, [.t 92], some (91, false)⟩, ⟨some 94, .p (.mov), [.t 12], some (91, false)⟩, ⟨some 95, .p (.iaddrS 1), [.t 93, .t 94], some (91, false)⟩, ⟨some 96, .load 1 false, [.t 95], some (91, false)⟩, ⟨some 97, .call 47, [.t 96, .c (.int .i64 60000000)], some (91, false)⟩, ⟨some 98, .p (.notB), [.t 97], some (91, false)⟩, ⟨some 99, .p (.pick), [.t 91, .c (.bool true), .t 98], none⟩]) (.cond (.t 99) (.seq (.ops false [] [⟨some 100, .p (.mov), [.t 12], none⟩, ⟨some 4, .p (.mov), [.t 100], none⟩, ⟨some 5, .p (.mov), [.c (.int .i64 2)], none⟩]) (.ret)) (.skip))))) (.ops false [] [⟨some 101, .p (.binI .add), [.t 81, .c (.int .i64 1)], none⟩, ⟨some 81, .p (.mov), [.t 101], none⟩]))))))) (.seq (.ops false [] [⟨some 13, .p (.mov), [.c (.int .i64 0)], none⟩]) (.seq (.seq (.ops false [] [⟨some 102, .p (.mov), [.t 6], none⟩, ⟨some 103, .p (.lenS), [.t 102], none⟩, ⟨some 104, .p (.mov), [.c (.int .i64 0)], none⟩]) (.block 4 (.loop (.seq (.ops false [] [⟨some 105, .p (.binI .lss), [.t 104, .t 103], none⟩]) (.seq (.cond (.t 105) (.skip) (.exit 4)) (.seq (.block 5 (.seq (.ops false [] [⟨some 106, .p (.mov), [.t 104], none⟩, ⟨some 107, .p (.iaddrS 1), [.t 102, .t 104], none⟩, ⟨some 108, .load 1 false, [.t 107], none⟩, ⟨some 14, .p (.mov), [.t 106], none⟩, ⟨some 15, .p (.mov), [.t 108], none⟩]) (.seq (.seq (.ops false [] [⟨some 109, .p (.mov), [.t 15], none⟩, ⟨some 110, .p (.lenS), [.t 109], none⟩, ⟨some 111, .p (.mov), [.c (.int .i64 0)], none⟩]) (.block 6 (.loop (.seq (.ops false [] [⟨some 112, .p (.binI .lss), [.t 111, .t 110], none⟩]) (.seq (.cond (.t 112) (.skip) (.exit 6)) (.seq (.block 7 (.seq (.ops false [] [⟨some 113, .p (.mov), [.t 111], none⟩, ⟨some 114, .p (.iaddrS 1), [.t 109, .t 111], none⟩, ⟨some 115, .load 1 false, [.t 114], none⟩, ⟨some 16, .p (.mov), [.t 113], none⟩, ⟨some 17, .p (.mov), [.t 115], none⟩]) (.seq (.ops true [] [⟨some 116, .p (.mov), [.t 17], none⟩, ⟨some 117, .p (.faddr 1), [.t 3], none⟩, ⟨some 118, .load 1 false, [.t 117], none⟩, ⟨some 119, .p (.mov), [.t 14], none⟩, ⟨some 120, .p (.iaddrS 1), [.t 118, .t 119], none⟩, ⟨some 121, .load 1 false, [.t 120], none⟩, ⟨some 122, .p (.faddr 2), [.t 3], none⟩, ⟨some 123, .load 1 false, [.t 122], none⟩, ⟨some 124, .p (.mov), [.t 16], none⟩, ⟨some 125, .p (.iaddrS 1), [.t 123, .t 124], none⟩, ⟨some 126, .load 1 false, [.t 125], none⟩, ⟨some 127, .p (.binI .add), [.t 121, .t 126], none⟩, ⟨some 128, .p (.binI .lss), [.t 116, .t 127], none⟩]) (.cond (.t 128) (.seq (.ops false [] [⟨some 129, .p (.mov), [.t 14], none⟩, ⟨some 4, .p (.mov), [.t 129], none⟩, ⟨some 5, .p (.mov), [.c (.int .i64 17)], none⟩]) (.ret)) (.skip))))) (.ops false [] [⟨some 130, .p (.binI .add), [.t 111, .c (.int .i64 1)], none⟩, ⟨some 111, .p (.mov), [.t 130], none⟩]))))))) (.ops true [] [⟨some 131, .p (.mov), [.t 13], none⟩, ⟨some 132, .p (.mov), [.t 15], none⟩, ⟨some 133, .p (.faddr 0), [.t 3], none⟩, ⟨some 134, .load 1 false, [.t 133], none⟩, ⟨some 135, .p (.mov), [.t 14], none⟩, ⟨some 136, .p (.iaddrS 1), [.t 134, .t 135], none⟩, ⟨some 137, .load 1 false, [.t 136], none⟩, ⟨some 138, .p (.iaddrS 1), [.t 132, .t 137], none⟩, ⟨some 139, .load 1 false, [.t 138], none⟩, ⟨some 140, .p (.faddr 1), [.t 3], none⟩, ⟨some 141, .load 1 false, [.t 140], none⟩, ⟨some 142, .p (.mov), [.t 14], none⟩, ⟨some 143, .p (.iaddrS 1), [.t 141, .t 142], none⟩, ⟨some 144, .load 1 false, [.t 143], none⟩, ⟨some 145, .p (.binI .sub), [.t 139, .t 144], none⟩, ⟨some 146, .p (.faddr 2), [.t 3], none⟩, ⟨some 147, .load 1 false, [.t 146], none⟩, ⟨some 148, .p (.mov), [.t 14], none⟩, ⟨some 149, .p (.iaddrS 1), [.t 147, .t 148], none⟩, ⟨some 150, .load 1 false, [.t 149], none⟩, ⟨some 151, .p (.binI .sub), [.t 145, .t 150], none⟩, ⟨some 152, .p (.binI .add), [.t 131, .t 151], none⟩, ⟨some 13, .p (.mov), [.t 152], none⟩])))) (.ops false [] [⟨some 153, .p (.binI .add), [.t 104, .c (.int .i64 1)], none⟩, ⟨some 104, .p (.mov), [.t 153], none⟩]))))))) (.seq (.ops false [] [⟨some 154, .p (.mov), [.t 13], none⟩, ⟨some 155, .p (.binI .eql), [.t 154, .c (.int .i64 0)], none⟩, ⟨some 156, .call 44, [.t 155, .c (.int .i64 13)], none⟩, ⟨some 4, .p (.mov), [.c (.int .i64 0)], none⟩, ⟨some 5, .p (.mov), [.t 156], none⟩]) (.ret)))))))))
theorem c8 : FnC Try.prog 8 157 a8 [.tmp 4, .tmp 5] := ⟨Try.call8, _, _, Try.func8, rfl, by kernel_rfl, by kernel_rfl, rfl⟩
def a10 : AC := .seq (.ops false [] [⟨some 1, .box 25 3 1 true, [.t 0], none⟩, ⟨some 2, .alloc 25 3 [.agg [.nilslice, .nilslice, .nilslice]], [], none⟩]) (.seq (.ops true [] [⟨some 3, .p (.faddr 0), [.t 1], none⟩, ⟨some 4, .load 1 false, [.t 3], none⟩, ⟨some 5, .call 48, [.t 4], none⟩, ⟨some 6, .p (.faddr 1), [.t 1], none⟩, ⟨some 7, .load 1 false, [.t 6], none⟩, ⟨some 8, .call 48, [.t 7], none⟩, ⟨some 9, .p (.faddr 2), [.t 1], none⟩, ⟨some 10, .load 1 false, [.t 9], none⟩, ⟨some 11, .call 48, [.t 10], none⟩, ⟨some 12, .p (.build [.nilslice, .nilslice, .nilslice] [(0, 1), (1, 1), (2, 1)]), [.t 5, .t 8, .t 11], none⟩, ⟨none, .store 3 true, [.t 2, .t 12], none⟩]) (.ret))
theorem c10 : FnC Try.prog 10 13 a10 [.cell 2 3 true] := ⟨Try.call10, _, _, Try.func10, rfl, by kernel_rfl, by kernel_rfl, rfl⟩
namespace Wa
structure Wp where
  a : L
  r : L
  c : L
abbrev eWp (p : Wp) : AV := .agg [.vs (p.a.map eI), .vs (p.r.map eI), .vs (p.c.map eI)]
def onWp (v : AV) (g : Wp → Option AV) : Option AV := match v with
  | .agg [.vs us, .vs vs, .vs ws] => onL decI us fun l => onL decI vs fun m => onL decI ws fun n => g ⟨l, m, n⟩
  | _ => none
theorem onWp_e (x : Wp) (g : Wp → Option AV) : onWp (eWp x) g = g x := by simp only [onWp, onL_map (enc := eI) decI_I]
theorem onWp_inv {v : AV} {g : Wp → Option AV} {u : AV} (h : onWp v g = some u) : ∃ x, v = eWp x ∧ g x = some u := by
  unfold onWp at h
  split at h
  · obtain ⟨l, rfl, h2⟩ := onL_inv (enc := eI) (fun v x => decI_inv) h
    obtain ⟨m, rfl, h3⟩ := onL_inv (enc := eI) (fun v x => decI_inv) h2
    obtain ⟨n, rfl, h4⟩ := onL_inv (enc := eI) (fun v x => decI_inv) h3
    exact ⟨_, rfl, h4⟩
  · cases h
def aqE (n : Nat) (a : L) (i : Nat) : Int := firstE [unl (0 ≤ gk i a ∧ gk i a ≤ (n : Int) - 1) 6, unl (¬ gk i a ∈ a.take i) 21]
def aqG (n : Nat) (a : L) : Nat → Nat → Int × Int
  | 0, _ => (0, 0)
  | k + 1, i => if aqE n a i = 0 then aqG n a k (i + 1) else (i, aqE n a i)
def szR (p : Wp) (i : Nat) : Prop := (-60000000 ≤ gk i p.r ∧ gk i p.r ≤ 60000000) ∧ (-60000000 ≤ gk i p.c ∧ gk i p.c ≤ 60000000)
instance (p : Wp) (i : Nat) : Decidable (szR p i) := by unfold szR; infer_instance
def szG (p : Wp) : Nat → Nat → Int × Int
  | 0, _ => (0, 0)
  | k + 1, i => if szR p i then szG p k (i + 1) else (i, 2)
def pfB (m : List L) (p : Wp) (i j : Nat) : Prop := cell m i j < gk i p.r + gk j p.c
instance (m : List L) (p : Wp) (i j : Nat) : Decidable (pfB m p i j) := by unfold pfB; infer_instance
def pfG (m : List L) (p : Wp) (i : Nat) : Nat → Nat → Int
  | 0, _ => 0
  | k + 1, j => if pfB m p i j then 17 else pfG m p i k (j + 1)
def coG (m : List L) (p : Wp) : Nat → Nat → Int → Int × Int
  | 0, _, s => (0, unl (s = 0) 13)
  | k + 1, i, s => if pfG m p i m.length 0 = 0 then coG m p k (i + 1) (s + (cell m i (gk i p.a) - gk i p.r - gk i p.c)) else (i, pfG m p i m.length 0)
def caR (m : List L) (p : Wp) : Int × Int :=
  if (aqG m.length p.a m.length 0).2 = 0 then (if (szG p m.length 0).2 = 0 then coG m p m.length 0 0 else szG p m.length 0) else aqG m.length p.a m.length 0
def shE (m : List L) (p : Wp) : Int := unl (((p.a.length : Int) = (m.length : Int) ∧ (p.r.length : Int) = (m.length : Int)) ∧ (p.c.length : Int) = (m.length : Int)) 10
def caV (m : List L) (p : Wp) : Int × Int := if firstE [(cmV m).2, shE m p] = 0 then caR m p else (0, firstE [(cmV m).2, shE m p])
theorem aqG_z {n : Nat} {a : L} : ∀ {k i : Nat}, (aqG n a k i).2 = 0 → ∀ j, i ≤ j → j < i + k → aqE n a j = 0
  | 0, i, _, j, h1, h2 => by omega
  | k + 1, i, h, j, h1, h2 => by
    rw [aqG] at h
    split at h
    · rename_i h0
      by_cases e : j = i
      · rw [e]; exact h0
      · exact aqG_z h j (by omega) (by omega)
    · rename_i h0; exact absurd h h0
theorem aqE_z {n : Nat} {a : L} {i : Nat} (h : aqE n a i = 0) : 0 ≤ gk i a ∧ gk i a < (n : Int) := by
  have := unl_zero (firstE_zero h (unl (0 ≤ gk i a ∧ gk i a ≤ (n : Int) - 1) 6) (by simp)) (by decide)
  omega
theorem szG_z {p : Wp} : ∀ {k i : Nat}, (szG p k i).2 = 0 → ∀ j, i ≤ j → j < i + k → szR p j
  | 0, i, _, j, h1, h2 => by omega
  | k + 1, i, h, j, h1, h2 => by
    rw [szG] at h
    split at h
    · rename_i h0
      by_cases e : j = i
      · rw [e]; exact h0
      · exact szG_z h j (by omega) (by omega)
    · simp at h
theorem k_CopyProof (p : Wp) (h : p.a.length ≤ 1000 ∧ p.r.length ≤ 1000 ∧ p.c.length ≤ 1000) : FOk P 10 [eWp p] (eWp p) := by
  have y1 := x_CopyInts p.a (by simp only [eq_iff_iff, iff_true]; exact h.1)
  have y2 := x_CopyInts p.r (by simp only [eq_iff_iff, iff_true]; exact h.2.1)
  have y3 := x_CopyInts p.c (by simp only [eq_iff_iff, iff_true]; exact h.2.2)
  refine c10.fok (by simp only [subs, sub1, free_I]) (Cor.run (addC_good g_CopyInts (noC_good _)) (noHx_good _) hm ?_)
  simp +contextual -implicitDefEqProofs (maxSteps := 2000000) only [bg_eq, a10, y1, y2, y3, rs_nil, rs_t, rs_f, ag_nils, ag_sl, ag_vs, ag_str, ag_ptr, ag_nilp, ag_vp, ag_fun, free_I, ruB, rh_no, Int.reduceLT, Int.reduceLE, Int.reduceAdd, Int.reduceSub, Int.reduceMul, Int.reduceNeg, Int.reduceToNat, Int.reduceEq, Int.reduceNe, Int.reduceTDiv, Int.reduceTMod, implies_true, putL, appN, appX, appC, Eng.Fi, reduceCtorEq, exists_eq_left', exists_eq_left, if_true, if_false, List.replicate, Nat.reduceAdd, Nat.reduceSub, Nat.reduceMul, Nat.reduceLeDiff, Nat.reduceLT, Nat.reduceEqDiff]
noncomputable def cf_CopyProof : List AV → Option AV
  | [p_v] => onWp p_v fun p => if p.a.length ≤ 1000 ∧ p.r.length ≤ 1000 ∧ p.c.length ≤ 1000 then some (eWp p) else none
  | _ => none
theorem g_CopyProof : Fn P 10 cf_CopyProof := fun args v hh => by
  unfold cf_CopyProof at hh; split at hh
  · obtain ⟨p, rfl, hh1⟩ := onWp_inv hh
    split at hh1
    · rename_i hc; have hk := Option.some.inj hh1; subst hk; exact k_CopyProof _ hc
    · cases hh1
  · cases hh
theorem x_CopyProof (p : Wp) (hc : (p.a.length ≤ 1000 ∧ p.r.length ≤ 1000 ∧ p.c.length ≤ 1000) = True) : cf_CopyProof [eWp p] = some (eWp p) := by
  simp only [cf_CopyProof, onWp_e]
  exact if_pos (by rw [hc]; trivial)
def S_ka0 (m : List L) (p : Wp) : AState := ⟨[.vs (m.map eL), .any, .any, .vp [eWp p] 0 0, I 0, I 0, .any, .any, .any, .any, .any, .any, .any, .any, .any, .any, .any, .any, .any, .any, .any, .any, .any, .any, .any, .any, .any, .any, .any, .any, .any, .any, .any, .any, .any, .any, .any, .any, .any, .any, .any, .any, .any, .any, .any, .any, .any, .any, .any, .any, .any, .any, .any, .any, .any, .any, .any, .any, .any, .any, .any, .any, .any, .any, .any, .any, .any, .any, .any, .any, .any, .any, .any, .any, .any, .any, .any, .any, .any, .any, .any, .any, .any, .any, .any, .any, .any, .any, .any, .any, .any, .any, .any, .any, .any, .any, .any, .any, .any, .any, .any, .any, .any, .any, .any, .any, .any, .any, .any, .any, .any, .any, .any, .any, .any, .any, .any, .any, .any, .any, .any, .any, .any, .any, .any, .any, .any, .any, .any, .any, .any, .any, .any, .any, .any, .any, .any, .any, .any, .any, .any, .any, .any, .any, .any, .any, .any, .any, .any, .any, .any, .any, .any, .any, .any, .any, .any], [], 0⟩
def S_ka1 (m : List L) (p : Wp) (i : Nat) : AState := ⟨[.vs (m.map eL), .any, .any, .vp [eWp p] 0 0, .any, .any, .vs (m.map eL), .any, I m.length, .any, .any, .any, .any, .any, .any, .any, .any, .any, .any, .any, .any, .any, .any, .any, .any, .any, .any, .any, .any, .any, .any, .any, .any, .any, .any, .any, .any, .any, .any, .any, .any, .any, .any, .any, .any, .any, .any, .any, .any, .any, .any, .any, .vs (p.a.map eI), I m.length, I i, .any, .any, .any, .any, .any, .any, .any, .any, .any, .any, .any, .any, .any, .any, .any, .any, .any, .any, .any, .any, .any, .any, .any, .any, .any, .any, .any, .any, .any, .any, .any, .any, .any, .any, .any, .any, .any, .any, .any, .any, .any, .any, .any, .any, .any, .any, .any, .any, .any, .any, .any, .any, .any, .any, .any, .any, .any, .any, .any, .any, .any, .any, .any, .any, .any, .any, .any, .any, .any, .any, .any, .any, .any, .any, .any, .any, .any, .any, .any, .any, .any, .any, .any, .any, .any, .any, .any, .any, .any, .any, .any, .any, .any, .any, .any, .any, .any, .any, .any, .any, .any, .any], [], 0⟩
def S_ka2 (m : List L) (p : Wp) (i : Nat) : AState := ⟨[.vs (m.map eL), .any, .any, .vp [eWp p] 0 0, .any, .any, .vs (m.map eL), .any, .any, .any, .any, .any, .any, .any, .any, .any, .any, .any, .any, .any, .any, .any, .any, .any, .any, .any, .any, .any, .any, .any, .any, .any, .any, .any, .any, .any, .any, .any, .any, .any, .any, .any, .any, .any, .any, .any, .any, .any, .any, .any, .any, .any, .any, .any, .any, .any, .any, .any, .any, .any, .any, .any, .any, .any, .any, .any, .any, .any, .any, .any, .any, .any, .any, .any, .any, .any, .any, .any, .any, .any, I m.length, I i, .any, .any, .any, .any, .any, .any, .any, .any, .any, .any, .any, .any, .any, .any, .any, .any, .any, .any, .any, .any, .any, .any, .any, .any, .any, .any, .any, .any, .any, .any, .any, .any, .any, .any, .any, .any, .any, .any, .any, .any, .any, .any, .any, .any, .any, .any, .any, .any, .any, .any, .any, .any, .any, .any, .any, .any, .any, .any, .any, .any, .any, .any, .any, .any, .any, .any, .any, .any, .any, .any, .any, .any, .any, .any, .any], [], 0⟩
def S_ka3 (m : List L) (p : Wp) (q : Nat × Int) : AState := ⟨[.vs (m.map eL), .any, .any, .vp [eWp p] 0 0, .any, .any, .any, .any, .any, .any, .any, .any, .any, I q.2, .any, .any, .any, .any, .any, .any, .any, .any, .any, .any, .any, .any, .any, .any, .any, .any, .any, .any, .any, .any, .any, .any, .any, .any, .any, .any, .any, .any, .any, .any, .any, .any, .any, .any, .any, .any, .any, .any, .any, .any, .any, .any, .any, .any, .any, .any, .any, .any, .any, .any, .any, .any, .any, .any, .any, .any, .any, .any, .any, .any, .any, .any, .any, .any, .any, .any, .any, .any, .any, .any, .any, .any, .any, .any, .any, .any, .any, .any, .any, .any, .any, .any, .any, .any, .any, .any, .any, .any, .vs (m.map eL), I m.length, I q.1, .any, .any, .any, .any, .any, .any, .any, .any, .any, .any, .any, .any, .any, .any, .any, .any, .any, .any, .any, .any, .any, .any, .any, .any, .any, .any, .any, .any, .any, .any, .any, .any, .any, .any, .any, .any, .any, .any, .any, .any, .any, .any, .any, .any, .any, .any, .any, .any, .any, .any, .any, .any], [], 0⟩
def S_ka4 (m : List L) (p : Wp) (i : Nat) (s : Int) (row : L) (j : Nat) : AState := ⟨[.vs (m.map eL), .any, .any, .vp [eWp p] 0 0, .any, .any, .any, .any, .any, .any, .any, .any, .any, I s, I i, .vs (row.map eI), .any, .any, .any, .any, .any, .any, .any, .any, .any, .any, .any, .any, .any, .any, .any, .any, .any, .any, .any, .any, .any, .any, .any, .any, .any, .any, .any, .any, .any, .any, .any, .any, .any, .any, .any, .any, .any, .any, .any, .any, .any, .any, .any, .any, .any, .any, .any, .any, .any, .any, .any, .any, .any, .any, .any, .any, .any, .any, .any, .any, .any, .any, .any, .any, .any, .any, .any, .any, .any, .any, .any, .any, .any, .any, .any, .any, .any, .any, .any, .any, .any, .any, .any, .any, .any, .any, .vs (m.map eL), I m.length, I i, .any, .any, .any, .any, .vs (row.map eI), I m.length, I j, .any, .any, .any, .any, .any, .any, .any, .any, .any, .any, .any, .any, .any, .any, .any, .any, .any, .any, .any, .any, .any, .any, .any, .any, .any, .any, .any, .any, .any, .any, .any, .any, .any, .any, .any, .any, .any, .any, .any, .any, .any, .any, .any, .any, .any], [], 0⟩
set_option maxHeartbeats 8000000 in
theorem k_CheckAssignment (m : List L) (p : Wp) (h : m.length ≤ 1099511627776 ∧ ∀ r ∈ m, r.length ≤ 1099511627776) : FOk P 8 [.vs (m.map eL), eWp p] (.tup [I (caV m p).1, I (caV m p).2]) := by
  have y1 := x_open m (by simp only [eq_iff_iff, iff_true]; exact h)
  refine c8.fok (y := YH P noHx) (by simp only [subs, sub1, free_I, free_L]) ?_
  rw [bg_eq]
  refine Cor.seq (Cor.run (noC_good _) (noHx_good _) hm ?_)
  simp +contextual -implicitDefEqProofs (maxSteps := 2000000) only [eThen_normal, ruB, rh_no, Int.reduceLT, Int.reduceLE, Int.reduceAdd, Int.reduceSub, Int.reduceMul, Int.reduceNeg, Int.reduceToNat, Int.reduceEq, Int.reduceNe, Int.reduceTDiv, Int.reduceTMod, implies_true, putL, appN, appX, appC, Eng.Fi, reduceCtorEq, exists_eq_left', exists_eq_left, if_true, if_false, List.replicate, Nat.reduceAdd, Nat.reduceSub, Nat.reduceMul, Nat.reduceLeDiff, Nat.reduceLT, Nat.reduceEqDiff]
  refine Cor.wk (s2 := S_ka0 m p) (Wkn.to ⟨0, [], [0], 0, [0, 3, 4, 5]⟩ rfl rfl (by simp [Wk.st, keepT, memN, Wk.fate, Wk.fate0, assoc, getE, Wk.hp, ABlk.sub, sub1, subs, S_ka0, free_I, free_L])) ?_
  by_cases h0 : firstE [(cmV m).2, shE m p] = 0
  · rw [caV, if_pos h0]
    have hz := firstE_zero h0
    have hcm := hz (cmV m).2 (by simp)
    have hma := cmV_z hcm
    have hn := hma.n
    have hsh := unl_zero (hz (shE m p) (by simp)) (by decide)
    obtain ⟨⟨ha, hr⟩, hc⟩ := hsh
    have h0' := h0
    rw [hcm] at h0' y1
    unfold shE at h0'
    refine Cor.run (addC_good g_sized (addC_good g_ContainsI (addC_good g_within (addC_good g_first (addC_good g_unless (addC_good g_open (noC_good _))))))) (noHx_good _) hm ?_
    simp +contextual -implicitDefEqProofs (maxSteps := 2000000) only [S_ka0, y1, x_unless, x_first, y_first, h0', List.length_map, not_true_eq_false, Int.natCast_zero, ruB, rh_no, Int.reduceLT, Int.reduceLE, Int.reduceAdd, Int.reduceSub, Int.reduceMul, Int.reduceNeg, Int.reduceToNat, Int.reduceEq, Int.reduceNe, Int.reduceTDiv, Int.reduceTMod, implies_true, putL, appN, appX, appC, Eng.Fi, reduceCtorEq, exists_eq_left', exists_eq_left, if_true, if_false, List.replicate, Nat.reduceAdd, Nat.reduceSub, Nat.reduceMul, Nat.reduceLeDiff, Nat.reduceLT, Nat.reduceEqDiff]
    have hml : m.length ≤ 6 := hn.2
    have hal : p.a.length = m.length := by omega
    have hrl : p.r.length = m.length := by omega
    have hcl : p.c.length = m.length := by omega
    refine Cor.lp (addC_good g_sized (addC_good g_ContainsI (addC_good g_within (addC_good g_first (addC_good g_unless (addC_good g_open (noC_good _))))))) (noHx_good _) hm (S_ka1 m p) (fun i => i ≤ m.length ∧ aqG m.length p.a m.length 0 = aqG m.length p.a (m.length - i) i) (fun i => m.length - i) (a := 0) ⟨Nat.zero_le _, rfl⟩ (Wkn.keep [0, 3, 6, 8, 52, 53, 54] (by rw [hal]; rfl)) ?_
    rintro f i ⟨hi, hf⟩ go
    rcases Nat.lt_or_ge i m.length with hlt | hge
    · have e1 : ((i : Int) < (m.length : Int)) = True := eq_true (by omega)
      have e2 : (p.a.map eI)[i]? = some (eI (gk i p.a)) := gk_get (by omega)
      have e3 : IntKind.wrap .i64 ((i : Int) + 1) = ((i + 1 : Nat) : Int) := suc_w (by omega)
      have e4 : IntKind.wrap .i64 ((m.length : Int) - 1) = (m.length : Int) - 1 := wrap64 (by omega) (by omega)
      have yc := x_ContainsI (p.a.take i) (gk i p.a) (by simp only [eq_iff_iff, iff_true, List.length_take]; omega)
      rw [List.map_take] at yc
      have e5 : m.length - i = m.length - (i + 1) + 1 := by omega
      rw [e5, aqG] at hf
      have hin : (i ≤ p.a.length) = True := eq_true (by omega)
      by_cases c1 : aqE m.length p.a i = 0
      · rw [if_pos c1] at hf
        unfold aqE at c1
        simp +contextual -implicitDefEqProofs (maxSteps := 2000000) only [S_ka1, e1, e2, e3, e4, yc, hin, x_within, x_unless, x_first, y_first, c1, List.length_map, not_true_eq_false, ruB, rh_no, Int.reduceLT, Int.reduceLE, Int.reduceAdd, Int.reduceSub, Int.reduceMul, Int.reduceNeg, Int.reduceToNat, Int.reduceEq, Int.reduceNe, Int.reduceTDiv, Int.reduceTMod, implies_true, putL, appN, appX, appC, Eng.Fi, reduceCtorEq, exists_eq_left', exists_eq_left, if_true, if_false, List.replicate, Nat.reduceAdd, Nat.reduceSub, Nat.reduceMul, Nat.reduceLeDiff, Nat.reduceLT, Nat.reduceEqDiff]
        exact go _ (i + 1) ⟨hlt, hf⟩ (by omega) (Wkn.keep [0, 3, 6, 8, 52, 53, 54] rfl)
      · rw [if_neg c1] at hf
        have hcaR : caR m p = ((i : Int), aqE m.length p.a i) := by
          unfold caR
          rw [hf, if_neg c1]
        rw [hcaR]
        unfold aqE at c1 ⊢
        simp +contextual -implicitDefEqProofs (maxSteps := 2000000) only [S_ka1, e1, e2, e3, e4, yc, hin, x_within, x_unless, x_first, y_first, c1, List.length_map, not_false_eq_true, ruB, rh_no, Int.reduceLT, Int.reduceLE, Int.reduceAdd, Int.reduceSub, Int.reduceMul, Int.reduceNeg, Int.reduceToNat, Int.reduceEq, Int.reduceNe, Int.reduceTDiv, Int.reduceTMod, implies_true, putL, appN, appX, appC, Eng.Fi, reduceCtorEq, exists_eq_left', exists_eq_left, if_true, if_false, List.replicate, Nat.reduceAdd, Nat.reduceSub, Nat.reduceMul, Nat.reduceLeDiff, Nat.reduceLT, Nat.reduceEqDiff]
    · have e1 : ((i : Int) < (m.length : Int)) = False := eq_false (by omega)
      have ei : i = m.length := by omega
      subst ei
      rw [Nat.sub_self, aqG] at hf
      have hq : (aqG m.length p.a m.length 0).2 = 0 := by rw [hf]
      have haq := aqG_z hq
      have har : ∀ j, j < m.length → 0 ≤ gk j p.a ∧ gk j p.a < (m.length : Int) := fun j hj => aqE_z (haq j (Nat.zero_le _) (by omega))
      rw [caR, if_pos hq]
      clear hf hq haq go
      simp +contextual -implicitDefEqProofs (maxSteps := 2000000) only [S_ka1, e1, List.length_map, ruB, rh_no, Int.reduceLT, Int.reduceLE, Int.reduceAdd, Int.reduceSub, Int.reduceMul, Int.reduceNeg, Int.reduceToNat, Int.reduceEq, Int.reduceNe, Int.reduceTDiv, Int.reduceTMod, implies_true, putL, appN, appX, appC, Eng.Fi, reduceCtorEq, exists_eq_left', exists_eq_left, if_true, if_false, List.replicate, Nat.reduceAdd, Nat.reduceSub, Nat.reduceMul, Nat.reduceLeDiff, Nat.reduceLT, Nat.reduceEqDiff]
      refine Cor.lp (addC_good g_sized (addC_good g_ContainsI (addC_good g_within (addC_good g_first (addC_good g_unless (addC_good g_open (noC_good _))))))) (noHx_good _) hm (S_ka2 m p) (fun i => i ≤ m.length ∧ szG p m.length 0 = szG p (m.length - i) i) (fun i => m.length - i) (a := 0) ⟨Nat.zero_le _, rfl⟩ (Wkn.keep [0, 3, 6, 80, 81] rfl) ?_
      rintro f i ⟨hi, hf⟩ go
      rcases Nat.lt_or_ge i m.length with hlt | hge
      · have e1 : ((i : Int) < (m.length : Int)) = True := eq_true (by omega)
        have e2 : (p.r.map eI)[i]? = some (eI (gk i p.r)) := gk_get (by omega)
        have e4 : (p.c.map eI)[i]? = some (eI (gk i p.c)) := gk_get (by omega)
        have e3 : IntKind.wrap .i64 ((i : Int) + 1) = ((i + 1 : Nat) : Int) := suc_w (by omega)
        have e5 : m.length - i = m.length - (i + 1) + 1 := by omega
        rw [e5, szG] at hf
        have y2 := x_sized' (gk i p.r) 60000000 (by simp) (-60000000) rfl
        have y3 := x_sized' (gk i p.c) 60000000 (by simp) (-60000000) rfl
        by_cases c1 : -60000000 ≤ gk i p.r ∧ gk i p.r ≤ 60000000
        · have c1' := eq_true c1
          by_cases c2 : -60000000 ≤ gk i p.c ∧ gk i p.c ≤ 60000000
          · have c2' := eq_true c2
            rw [if_pos ⟨c1, c2⟩] at hf
            simp +contextual -implicitDefEqProofs (maxSteps := 2000000) only [S_ka2, e1, e2, e3, e4, y2, y3, c1', c2', List.length_map, not_true_eq_false, ruB, rh_no, Int.reduceLT, Int.reduceLE, Int.reduceAdd, Int.reduceSub, Int.reduceMul, Int.reduceNeg, Int.reduceToNat, Int.reduceEq, Int.reduceNe, Int.reduceTDiv, Int.reduceTMod, implies_true, putL, appN, appX, appC, Eng.Fi, reduceCtorEq, exists_eq_left', exists_eq_left, if_true, if_false, List.replicate, Nat.reduceAdd, Nat.reduceSub, Nat.reduceMul, Nat.reduceLeDiff, Nat.reduceLT, Nat.reduceEqDiff]
            exact go _ (i + 1) ⟨hlt, hf⟩ (by omega) (Wkn.keep [0, 3, 6, 80, 81] rfl)
          · have c2' := eq_false c2
            rw [if_neg (fun q => c2 q.2)] at hf
            rw [hf, if_neg (by simp)]
            simp +contextual -implicitDefEqProofs (maxSteps := 2000000) only [S_ka2, e1, e2, e3, e4, y2, y3, c1', c2', List.length_map, not_true_eq_false, not_false_eq_true, ruB, rh_no, Int.reduceLT, Int.reduceLE, Int.reduceAdd, Int.reduceSub, Int.reduceMul, Int.reduceNeg, Int.reduceToNat, Int.reduceEq, Int.reduceNe, Int.reduceTDiv, Int.reduceTMod, implies_true, putL, appN, appX, appC, Eng.Fi, reduceCtorEq, exists_eq_left', exists_eq_left, if_true, if_false, List.replicate, Nat.reduceAdd, Nat.reduceSub, Nat.reduceMul, Nat.reduceLeDiff, Nat.reduceLT, Nat.reduceEqDiff]
        · have c1' := eq_false c1
          rw [if_neg (fun q => c1 q.1)] at hf
          rw [hf, if_neg (by simp)]
          simp +contextual -implicitDefEqProofs (maxSteps := 2000000) only [S_ka2, e1, e2, e3, e4, y2, y3, c1', List.length_map, not_true_eq_false, not_false_eq_true, ruB, rh_no, Int.reduceLT, Int.reduceLE, Int.reduceAdd, Int.reduceSub, Int.reduceMul, Int.reduceNeg, Int.reduceToNat, Int.reduceEq, Int.reduceNe, Int.reduceTDiv, Int.reduceTMod, implies_true, putL, appN, appX, appC, Eng.Fi, reduceCtorEq, exists_eq_left', exists_eq_left, if_true, if_false, List.replicate, Nat.reduceAdd, Nat.reduceSub, Nat.reduceMul, Nat.reduceLeDiff, Nat.reduceLT, Nat.reduceEqDiff]
      · have e1 : ((i : Int) < (m.length : Int)) = False := eq_false (by omega)
        have ei : i = m.length := by omega
        subst ei
        rw [Nat.sub_self, szG] at hf
        have hq : (szG p m.length 0).2 = 0 := by rw [hf]
        have hsz := szG_z hq
        rw [if_pos hq]
        clear hf hq go
        simp +contextual -implicitDefEqProofs (maxSteps := 2000000) only [S_ka2, e1, List.length_map, ruB, rh_no, Int.reduceLT, Int.reduceLE, Int.reduceAdd, Int.reduceSub, Int.reduceMul, Int.reduceNeg, Int.reduceToNat, Int.reduceEq, Int.reduceNe, Int.reduceTDiv, Int.reduceTMod, implies_true, putL, appN, appX, appC, Eng.Fi, reduceCtorEq, exists_eq_left', exists_eq_left, if_true, if_false, List.replicate, Nat.reduceAdd, Nat.reduceSub, Nat.reduceMul, Nat.reduceLeDiff, Nat.reduceLT, Nat.reduceEqDiff]
        refine Cor.lp (addC_good g_sized (addC_good g_ContainsI (addC_good g_within (addC_good g_first (addC_good g_unless (addC_good g_open (noC_good _))))))) (noHx_good _) hm (S_ka3 m p) (fun q => q.1 ≤ m.length ∧ coG m p m.length 0 0 = coG m p (m.length - q.1) q.1 q.2 ∧ (-200000000 * (q.1 : Int) ≤ q.2 ∧ q.2 ≤ 200000000 * (q.1 : Int))) (fun q => m.length - q.1) (a := (0, 0)) ⟨Nat.zero_le _, rfl, by simp⟩ (Wkn.keep [0, 3, 13, 102, 103, 104] rfl) ?_
        rintro f ⟨i, s⟩ ⟨hi, hf, hs⟩ go
        simp only at hi hf hs
        rcases Nat.lt_or_ge i m.length with hlt | hge
        · have e1 : ((i : Int) < (m.length : Int)) = True := eq_true (by omega)
          have e3 : IntKind.wrap .i64 ((i : Int) + 1) = ((i + 1 : Nat) : Int) := suc_w (by omega)
          have e2 : (m.map eL)[i]? = some (eL m[i]) := get_e eL m hlt
          have e5 : m.length - i = m.length - (i + 1) + 1 := by omega
          rw [e5, coG] at hf
          have hri := (hma.r m[i] (by simp)).1
          have hcell : ∀ j : Nat, j < m.length → (m[i].map eI)[j]? = some (eI (cell m i (j : Int))) := fun j hj => by
            have hjr : j < m[i].length := by omega
            rw [cell_get hlt hjr]; exact get_e eI _ hjr
          obtain ⟨row, hrow⟩ : ∃ row, m[i] = row := ⟨_, rfl⟩
          rw [hrow] at e2 hri hcell
          have hsi := hsz i (Nat.zero_le _) (by omega)
          have hai := har i hlt
          have g1 : (p.r.map eI)[i]? = some (eI (gk i p.r)) := gk_get (by omega)
          have g2 : (p.c.map eI)[i]? = some (eI (gk i p.c)) := gk_get (by omega)
          have g3 : (p.a.map eI)[i]? = some (eI (gk i p.a)) := gk_get (by omega)
          have hci := cell_bd hma i (gk i p.a)
          simp +contextual -implicitDefEqProofs (maxSteps := 2000000) only [S_ka3, e1, e2, List.length_map, hri, ruB, rh_no, Int.reduceLT, Int.reduceLE, Int.reduceAdd, Int.reduceSub, Int.reduceMul, Int.reduceNeg, Int.reduceToNat, Int.reduceEq, Int.reduceNe, Int.reduceTDiv, Int.reduceTMod, implies_true, putL, appN, appX, appC, Eng.Fi, reduceCtorEq, exists_eq_left', exists_eq_left, if_true, if_false, List.replicate, Nat.reduceAdd, Nat.reduceSub, Nat.reduceMul, Nat.reduceLeDiff, Nat.reduceLT, Nat.reduceEqDiff]
          refine Cor.lp (addC_good g_sized (addC_good g_ContainsI (addC_good g_within (addC_good g_first (addC_good g_unless (addC_good g_open (noC_good _))))))) (noHx_good _) hm (S_ka4 m p i s row) (fun j => j ≤ m.length ∧ pfG m p i m.length 0 = pfG m p i (m.length - j) j) (fun j => m.length - j) (a := 0) ⟨Nat.zero_le _, rfl⟩ (Wkn.keep [0, 3, 13, 14, 15, 102, 103, 104, 109, 110, 111] rfl) ?_
          rintro f2 j ⟨hj, hf2⟩ go2
          rcases Nat.lt_or_ge j m.length with hlt2 | hge2
          · have u1 : ((j : Int) < (m.length : Int)) = True := eq_true (by omega)
            have u2 := hcell j hlt2
            have u3 : IntKind.wrap .i64 ((j : Int) + 1) = ((j + 1 : Nat) : Int) := suc_w (by omega)
            have u4 : (p.c.map eI)[j]? = some (eI (gk j p.c)) := gk_get (by omega)
            have hsj := hsz j (Nat.zero_le _) (by omega)
            have u5 : IntKind.wrap .i64 (gk i p.r + gk j p.c) = gk i p.r + gk j p.c := by unfold szR at hsi hsj; exact wrap64 (by omega) (by omega)
            have u6 : m.length - j = m.length - (j + 1) + 1 := by omega
            rw [u6, pfG] at hf2
            by_cases c1 : pfB m p i j
            · rw [if_pos c1] at hf2
              have c1' : (cell m i (j : Int) < gk i p.r + gk j p.c) = True := eq_true c1
              rw [hf2, if_neg (by simp)] at hf
              rw [hf]
              simp +contextual -implicitDefEqProofs (maxSteps := 2000000) only [S_ka4, u1, u2, u3, u4, u5, g1, c1', List.length_map, ruB, rh_no, Int.reduceLT, Int.reduceLE, Int.reduceAdd, Int.reduceSub, Int.reduceMul, Int.reduceNeg, Int.reduceToNat, Int.reduceEq, Int.reduceNe, Int.reduceTDiv, Int.reduceTMod, implies_true, putL, appN, appX, appC, Eng.Fi, reduceCtorEq, exists_eq_left', exists_eq_left, if_true, if_false, List.replicate, Nat.reduceAdd, Nat.reduceSub, Nat.reduceMul, Nat.reduceLeDiff, Nat.reduceLT, Nat.reduceEqDiff]
            · rw [if_neg c1] at hf2
              have c1' : (cell m i (j : Int) < gk i p.r + gk j p.c) = False := eq_false c1
              simp +contextual -implicitDefEqProofs (maxSteps := 2000000) only [S_ka4, u1, u2, u3, u4, u5, g1, c1', List.length_map, ruB, rh_no, Int.reduceLT, Int.reduceLE, Int.reduceAdd, Int.reduceSub, Int.reduceMul, Int.reduceNeg, Int.reduceToNat, Int.reduceEq, Int.reduceNe, Int.reduceTDiv, Int.reduceTMod, implies_true, putL, appN, appX, appC, Eng.Fi, reduceCtorEq, exists_eq_left', exists_eq_left, if_true, if_false, List.replicate, Nat.reduceAdd, Nat.reduceSub, Nat.reduceMul, Nat.reduceLeDiff, Nat.reduceLT, Nat.reduceEqDiff]
              exact go2 _ (j + 1) ⟨hlt2, hf2⟩ (by omega) (Wkn.keep [0, 3, 13, 14, 15, 102, 103, 104, 109, 110, 111] rfl)
          · have u1 : ((j : Int) < (m.length : Int)) = False := eq_false (by omega)
            have ej : j = m.length := by omega
            rw [ej, Nat.sub_self, pfG] at hf2
            rw [hf2, if_pos rfl] at hf
            obtain ⟨a, ha⟩ : ∃ a : Nat, gk i p.a = (a : Int) := ⟨(gk i p.a).toNat, by omega⟩
            have u2 := hcell a (by omega)
            rw [ha] at g3 hf hci
            unfold szR at hsi
            have u4 : IntKind.wrap .i64 (cell m i (a : Int) - gk i p.r) = cell m i (a : Int) - gk i p.r := wrap64 (by omega) (by omega)
            have u5 : IntKind.wrap .i64 (cell m i (a : Int) - gk i p.r - gk i p.c) = cell m i (a : Int) - gk i p.r - gk i p.c := wrap64 (by omega) (by omega)
            have u6 : IntKind.wrap .i64 (s + (cell m i (a : Int) - gk i p.r - gk i p.c)) = s + (cell m i (a : Int) - gk i p.r - gk i p.c) := wrap64 (by omega) (by omega)
            simp +contextual -implicitDefEqProofs (maxSteps := 2000000) only [S_ka4, u1, u2, u4, u5, u6, g1, g2, g3, e3, List.length_map, ruB, rh_no, Int.reduceLT, Int.reduceLE, Int.reduceAdd, Int.reduceSub, Int.reduceMul, Int.reduceNeg, Int.reduceToNat, Int.reduceEq, Int.reduceNe, Int.reduceTDiv, Int.reduceTMod, implies_true, putL, appN, appX, appC, Eng.Fi, reduceCtorEq, exists_eq_left', exists_eq_left, if_true, if_false, List.replicate, Nat.reduceAdd, Nat.reduceSub, Nat.reduceMul, Nat.reduceLeDiff, Nat.reduceLT, Nat.reduceEqDiff]
            exact go _ (i + 1, s + (cell m i (a : Int) - gk i p.r - gk i p.c)) ⟨hlt, hf, by simp only; omega⟩ (by simp only; omega) (Wkn.keep [0, 3, 13, 102, 103, 104] rfl)
        · have e1 : ((i : Int) < (m.length : Int)) = False := eq_false (by omega)
          have ei : i = m.length := by omega
          rw [ei, Nat.sub_self, coG] at hf
          rw [hf]
          simp +contextual -implicitDefEqProofs (maxSteps := 2000000) only [S_ka3, e1, x_unless, ruB, rh_no, Int.reduceLT, Int.reduceLE, Int.reduceAdd, Int.reduceSub, Int.reduceMul, Int.reduceNeg, Int.reduceToNat, Int.reduceEq, Int.reduceNe, Int.reduceTDiv, Int.reduceTMod, implies_true, putL, appN, appX, appC, Eng.Fi, reduceCtorEq, exists_eq_left', exists_eq_left, if_true, if_false, List.replicate, Nat.reduceAdd, Nat.reduceSub, Nat.reduceMul, Nat.reduceLeDiff, Nat.reduceLT, Nat.reduceEqDiff]
  · rw [caV, if_neg h0]
    unfold shE at h0 ⊢
    refine Cor.run (addC_good g_sized (addC_good g_ContainsI (addC_good g_within (addC_good g_first (addC_good g_unless (addC_good g_open (noC_good _))))))) (noHx_good _) hm ?_
    simp +contextual -implicitDefEqProofs (maxSteps := 2000000) only [S_ka0, y1, x_unless, x_first, y_first, h0, List.length_map, not_false_eq_true, ruB, rh_no, Int.reduceLT, Int.reduceLE, Int.reduceAdd, Int.reduceSub, Int.reduceMul, Int.reduceNeg, Int.reduceToNat, Int.reduceEq, Int.reduceNe, Int.reduceTDiv, Int.reduceTMod, implies_true, putL, appN, appX, appC, Eng.Fi, reduceCtorEq, exists_eq_left', exists_eq_left, if_true, if_false, List.replicate, Nat.reduceAdd, Nat.reduceSub, Nat.reduceMul, Nat.reduceLeDiff, Nat.reduceLT, Nat.reduceEqDiff]
noncomputable def cf_CheckAssignment : List AV → Option AV
  | [.vs m_v, p_v] => onL dL m_v fun m => onWp p_v fun p => if m.length ≤ 1099511627776 ∧ ∀ r ∈ m, r.length ≤ 1099511627776 then some (.tup [I (caV m p).1, I (caV m p).2]) else none
  | _ => none
theorem g_CheckAssignment : Fn P 8 cf_CheckAssignment := fun args v hh => by
  unfold cf_CheckAssignment at hh; split at hh
  · obtain ⟨m, rfl, hh1⟩ := onL_inv dL_inv hh
    obtain ⟨p, rfl, hh2⟩ := onWp_inv hh1
    split at hh2
    · rename_i hc; have hk := Option.some.inj hh2; subst hk; exact k_CheckAssignment _ _ hc
    · cases hh2
  · cases hh
theorem x_CheckAssignment (m : List L) (p : Wp) (hc : (m.length ≤ 1099511627776 ∧ ∀ r ∈ m, r.length ≤ 1099511627776) = True) : cf_CheckAssignment [.vs (m.map eL), eWp p] = some (.tup [I (caV m p).1, I (caV m p).2]) := by
  simp only [cf_CheckAssignment, onL_map dL_e, onWp_e]
  exact if_pos (by rw [hc]; trivial)
end Wa
