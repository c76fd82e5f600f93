import Derived.Test.YtjkhnmhbbjgenaaEngS9
import Derived.Test.YtjkhnmhbbjgenaaS8
open Go Go.Proofs Eng
set_option maxRecDepth 100000
set_option linter.unusedSimpArgs false
set_option linter.unusedVariables false
def a26 : AC := .seq (.ops false [] [⟨some 2, .box 42 7 1 true, [.t 0], none⟩, ⟨some 4, .p (.mov), [.c (.int .i64 0)], none⟩, ⟨some 5, .p (.mov), [.c (.int .i64 0)], none⟩]) (.seq (.ops false [] [⟨some 9, .load 7 true, [.t 2], none⟩, ⟨some 10, .p (.mov), [.t 1], none⟩, ⟨some 11, .call 83, [.t 9, .t 10], none⟩, ⟨some 8, .p (.mov), [.t 11], none⟩, ⟨some 12, .p (.ext 0), [.t 8], none⟩, ⟨some 13, .p (.ext 1), [.t 8], none⟩, ⟨some 6, .p (.mov), [.t 12], none⟩, ⟨some 7, .p (.mov), [.t 13], none⟩]) (.seq (.seq (.ops false [] [⟨some 14, .p (.mov), [.t 7], none⟩, ⟨some 15, .p (.binI .neq), [.t 14, .c (.int .i64 0)], none⟩]) (.cond (.t 15) (.seq (.ops false [] [⟨some 16, .p (.mov), [.t 7], none⟩, ⟨some 4, .p (.mov), [.c (.int .i64 0)], none⟩, ⟨some 5, .p (.mov), [.t 16], none⟩]) (.ret)) (.skip))) (.seq (.ops false [] [⟨some 17, .p (.mov), [.t 6], none⟩, ⟨some 18, .p (.mov), [.t 6], none⟩, ⟨some 19, .p (.lenS), [.t 18], none⟩, ⟨some 20, .p (.binI .sub), [.t 19, .c (.int .i64 1)], none⟩, ⟨some 21, .p (.iaddrS 4), [.t 17, .t 20], none⟩, ⟨some 22, .p (.faddr 2), [.t 21], none⟩, ⟨some 23, .p (.faddr 1), [.t 22], none⟩, ⟨some 24, .load 1 false, [.t 23], none⟩, ⟨some 4, .p (.mov), [.t 24], none⟩, ⟨some 5, .p (.mov), [.c (.int .i64 0)], none⟩]) (.ret))))
theorem c26 : FnC Try.prog 26 25 a26 [.tmp 4, .tmp 5] := ⟨Try.call26, _, _, Try.func26, rfl, by kernel_rfl, by kernel_rfl, rfl⟩
def a27 : AC := .seq (.ops false [] [⟨some 2, .box 42 7 1 true, [.t 0], none⟩, ⟨some 4, .p (.mov), [.c (.int .i64 0)], none⟩, ⟨some 5, .alloc 37 2 [.agg [.int .i64 0, .int .i64 0]], [], none⟩, ⟨some 6, .p (.mov), [.c (.int .i64 0)], none⟩]) (.seq (.ops false [] [⟨some 15, .load 7 true, [.t 2], none⟩, ⟨some 16, .p (.mov), [.t 1], none⟩, ⟨some 17, .call 83, [.t 15, .t 16], none⟩, ⟨some 14, .p (.mov), [.t 17], none⟩, ⟨some 18, .p (.ext 0), [.t 14], none⟩, ⟨some 19, .p (.ext 1), [.t 14], none⟩, ⟨some 7, .p (.mov), [.t 18], none⟩, ⟨some 8, .p (.mov), [.t 19], none⟩]) (.seq (.seq (.ops false [] [⟨some 20, .p (.mov), [.t 8], none⟩, ⟨some 21, .p (.binI .neq), [.t 20, .c (.int .i64 0)], none⟩]) (.cond (.t 21) (.seq (.ops false [] [⟨some 22, .p (.build [.int .i64 0, .int .i64 0] []), [], none⟩, ⟨some 23, .p (.mov), [.t 8], none⟩, ⟨some 4, .p (.mov), [.c (.int .i64 0)], none⟩, ⟨none, .store 2 true, [.t 5, .t 22], none⟩, ⟨some 6, .p (.mov), [.t 23], none⟩]) (.ret)) (.skip))) (.seq (.ops false [] [⟨some 24, .p (.faddr 0), [.t 2], none⟩, ⟨some 25, .load 2 true, [.t 24], none⟩, ⟨some 9, .alloc 37 2 [.agg [.int .i64 0, .int .i64 0]], [], none⟩, ⟨none, .store 2 true, [.t 9, .t 25], none⟩]) (.seq (.seq (.ops false [] [⟨some 26, .p (.mov), [.t 7], none⟩, ⟨some 27, .p (.lenS), [.t 26], none⟩, ⟨some 28, .p (.mov), [.c (.int .i64 0)], none⟩]) (.block 0 (.loop (.seq (.ops false [] [⟨some 29, .p (.binI .lss), [.t 28, .t 27], none⟩]) (.seq (.cond (.t 29) (.skip) (.exit 0)) (.seq (.block 1 (.seq (.ops false [] [⟨some 30, .p (.mov), [.t 28], none⟩, ⟨some 31, .p (.iaddrS 4), [.t 26, .t 28], none⟩, ⟨some 32, .load 4 true, [.t 31], none⟩, ⟨some 11, .alloc 81 4 [.agg [.int .i64 0, .int .i64 0, .int .i64 0, .int .i64 0]], [], none⟩, ⟨some 10, .p (.mov), [.t 30], none⟩, ⟨none, .store 4 true, [.t 11, .t 32], none⟩]) (.seq (.seq (.ops false [] [⟨some 34, .load 7 true, [.t 2], none⟩, ⟨some 35, .load 2 true, [.t 9], none⟩, ⟨some 36, .p (.faddr 0), [.t 11], none⟩, ⟨some 37, .load 2 true, [.t 36], none⟩, ⟨some 38, .call 84, [.t 34, .t 35, .t 37], none⟩, ⟨some 33, .p (.mov), [.t 38], none⟩, ⟨some 39, .p (.ext 0), [.t 33], none⟩, ⟨some 40, .p (.ext 1), [.t 33], none⟩, ⟨some 12, .alloc 37 2 [.agg [.int .i64 0, .int .i64 0]], [], none⟩, ⟨none, .store 2 true, [.t 12, .t 39], none⟩, ⟨some 13, .p (.mov), [.t 40], none⟩]) (.seq (.ops false [] [⟨some 41, .p (.mov), [.t 13], none⟩]) (.cond (.t 41) (.seq (.ops true [] [⟨some 42, .p (.mov), [.t 10], none⟩, ⟨some 43, .load 2 true, [.t 12], none⟩, ⟨some 4, .p (.mov), [.t 42], none⟩, ⟨none, .store 2 true, [.t 5, .t 43], none⟩, ⟨some 6, .p (.mov), [.c (.int .i64 0)], none⟩]) (.ret)) (.skip)))) (.ops false [] [⟨some 44, .p (.faddr 0), [.t 11], none⟩, ⟨some 45, .load 2 true, [.t 44], none⟩, ⟨none, .store 2 true, [.t 9, .t 45], none⟩])))) (.ops false [] [⟨some 46, .p (.binI .add), [.t 28, .c (.int .i64 1)], none⟩, ⟨some 28, .p (.mov), [.t 46], none⟩]))))))) (.seq (.ops false [] [⟨some 47, .p (.build [.int .i64 0, .int .i64 0] []), [], none⟩, ⟨some 4, .p (.mov), [.c (.int .i64 0)], none⟩, ⟨none, .store 2 true, [.t 5, .t 47], none⟩, ⟨some 6, .p (.mov), [.c (.int .i64 12)], none⟩]) (.ret))))))
theorem c27 : FnC Try.prog 27 48 a27 [.tmp 4, .cell 5 2 true, .tmp 6] := ⟨Try.call27, _, _, Try.func27, rfl, by kernel_rfl, by kernel_rfl, rfl⟩
def a54 : AC := .seq (.ops false [] [⟨some 3, .box 42 7 1 true, [.t 0], none⟩, ⟨some 5, .box 93 3 1 true, [.t 2], none⟩, ⟨some 6, .p (.mov), [.c (.int .i64 0)], none⟩, ⟨some 7, .p (.mov), [.c (.int .i64 0)], none⟩]) (.seq (.ops false [] [⟨some 16, .load 7 true, [.t 3], none⟩, ⟨some 17, .p (.mov), [.t 1], none⟩, ⟨some 18, .call 83, [.t 16, .t 17], none⟩, ⟨some 15, .p (.mov), [.t 18], none⟩, ⟨some 19, .p (.ext 0), [.t 15], none⟩, ⟨some 20, .p (.ext 1), [.t 15], none⟩, ⟨some 8, .p (.mov), [.t 19], none⟩, ⟨some 9, .p (.mov), [.t 20], none⟩]) (.seq (.seq (.ops false [] [⟨some 21, .p (.mov), [.t 9], none⟩, ⟨some 22, .load 3 true, [.t 5], none⟩, ⟨some 23, .call 99, [.t 22], none⟩, ⟨some 24, .fbs 1, [.t 21, .t 23], none⟩, ⟨some 25, .call 86, [.t 24], none⟩, ⟨some 9, .p (.mov), [.t 25], none⟩]) (.seq (.ops false [] [⟨some 26, .p (.mov), [.t 9], none⟩, ⟨some 27, .p (.binI .neq), [.t 26, .c (.int .i64 0)], none⟩]) (.cond (.t 27) (.seq (.ops false [] [⟨some 28, .p (.mov), [.t 9], none⟩, ⟨some 6, .p (.mov), [.c (.int .i64 0)], none⟩, ⟨some 7, .p (.mov), [.t 28], none⟩]) (.ret)) (.skip)))) (.seq (.ops false [] [⟨some 10, .p (.mov), [.c (.int .i64 0)], none⟩, ⟨some 11, .p (.mov), [.c (.int .i64 0)], none⟩, ⟨some 12, .p (.mov), [.c (.bool false)], none⟩]) (.seq (.seq (.ops false [] [⟨some 29, .p (.mov), [.t 8], none⟩, ⟨some 30, .p (.lenS), [.t 29], none⟩, ⟨some 31, .p (.mov), [.c (.int .i64 0)], none⟩]) (.block 0 (.loop (.seq (.ops false [] [⟨some 32, .p (.binI .lss), [.t 31, .t 30], none⟩]) (.seq (.cond (.t 32) (.skip) (.exit 0)) (.seq (.block 1 (.seq (.ops false [] [⟨some 33, .p (.iaddrS 4), [.t 29, .t 31], none⟩, ⟨some 34, .load 4 true, [.t 33], none⟩, ⟨some 14, .alloc 81 4 [.agg [.int .i64 0, .int .i64 0, .int .i64 0, .int .i64 0]], [], none⟩, ⟨none, .store 4 true, [.t 14, .t 34], none⟩]) (.seq (.ops false [] [⟨some 35, .load 4 true, [.t 14], none⟩, ⟨some 36, .load 3 true, [.t 5], none⟩, ⟨some 37, .call 102, [.t 35, .t 36], none⟩]) (.cond (.t 37) (.ops true [] [⟨some 38, .p (.mov), [.t 10], none⟩, ⟨some 39, .p (.faddr 2), [.t 14], none⟩, ⟨some 40, .p (.faddr 0), [.t 39], none⟩, ⟨some 41, .load 1 false, [.t 40], none⟩, ⟨some 42, .p (.mov), [.t 11], none⟩, ⟨some 43, .p (.binI .sub), [.t 41, .t 42], none⟩, ⟨some 44, .p (.mm true), [.t 38, .t 43], none⟩, ⟨some 45, .p (.faddr 2), [.t 14], none⟩, ⟨some 46, .p (.faddr 1), [.t 45], none⟩, ⟨some 47, .load 1 false, [.t 46], none⟩, ⟨some 10, .p (.mov), [.t 44], none⟩, ⟨some 11, .p (.mov), [.t 47], none⟩, ⟨some 12, .p (.mov), [.c (.bool true)], none⟩]) (.skip))))) (.ops false [] [⟨some 48, .p (.binI .add), [.t 31, .c (.int .i64 1)], none⟩, ⟨some 31, .p (.mov), [.t 48], none⟩]))))))) (.seq (.seq (.ops false [] [⟨some 49, .p (.mov), [.t 12], none⟩, ⟨some 50, .p (.notB), [.t 49], none⟩]) (.cond (.t 50) (.seq (.ops false [] [⟨some 6, .p (.mov), [.c (.int .i64 0)], none⟩, ⟨some 7, .p (.mov), [.c (.int .i64 12)], none⟩]) (.ret)) (.skip))) (.seq (.ops false [] [⟨some 51, .p (.mov), [.t 10], none⟩, ⟨some 52, .p (.mov), [.t 8], none⟩, ⟨some 53, .p (.mov), [.t 8], none⟩, ⟨some 54, .p (.lenS), [.t 53], none⟩, ⟨some 55, .p (.binI .sub), [.t 54, .c (.int .i64 1)], none⟩, ⟨some 56, .p (.iaddrS 4), [.t 52, .t 55], none⟩, ⟨some 57, .p (.faddr 2), [.t 56], none⟩, ⟨some 58, .p (.faddr 1), [.t 57], none⟩, ⟨some 59, .load 1 false, [.t 58], none⟩, ⟨some 60, .p (.mov), [.t 11], none⟩, ⟨some 61, .p (.binI .sub), [.t 59, .t 60], none⟩, ⟨some 62, .p (.mm true), [.t 51, .t 61], none⟩, ⟨some 6, .p (.mov), [.t 62], none⟩, ⟨some 7, .p (.mov), [.c (.int .i64 0)], none⟩]) (.ret)))))))
theorem c54 : FnC Try.prog 54 63 a54 [.tmp 6, .tmp 7] := ⟨Try.call54, _, _, Try.func54, rfl, by kernel_rfl, by kernel_rfl, rfl⟩
def a99 : AC := .seq (.ops false [] [⟨some 1, .box 93 3 1 true, [.t 0], none⟩, ⟨some 2, .p (.mov), [.c (.int .i64 0)], none⟩]) (.seq (.ops true [] [⟨some 3, .p (.faddr 0), [.t 1], none⟩, ⟨some 4, .load 2 true, [.t 3], none⟩, ⟨some 5, .call 91, [.t 4], none⟩, ⟨some 6, .p (.faddr 2), [.t 1], none⟩, ⟨some 7, .load 1 false, [.t 6], none⟩, ⟨some 8, .call 87, [.t 7, .c (.int .i64 0), .c (.int .i64 20)], none⟩, ⟨some 9, .call 79, [.t 8, .c (.int .i64 2)], none⟩, ⟨some 10, .fbs 1, [.t 5, .t 9], none⟩, ⟨some 11, .call 86, [.t 10], none⟩, ⟨some 2, .p (.mov), [.t 11], none⟩]) (.ret))
theorem c99 : FnC Try.prog 99 12 a99 [.tmp 2] := ⟨Try.call99, _, _, Try.func99, rfl, by kernel_rfl, by kernel_rfl, rfl⟩
def a102 : AC := .seq (.ops false [] [⟨some 2, .box 81 4 1 true, [.t 0], none⟩, ⟨some 3, .box 93 3 1 true, [.t 1], none⟩, ⟨some 4, .p (.mov), [.c (.bool false)], none⟩]) (.seq (.ops false [] [⟨some 10, .p (.faddr 0), [.t 2], none⟩, ⟨some 11, .p (.faddr 0), [.t 10], none⟩, ⟨some 12, .load 1 false, [.t 11], none⟩, ⟨some 13, .p (.faddr 0), [.t 3], none⟩, ⟨some 14, .p (.faddr 0), [.t 13], none⟩, ⟨some 15, .load 1 false, [.t 14], none⟩, ⟨some 16, .call 124, [.t 12, .t 15], none⟩, ⟨some 9, .p (.mov), [.t 16], none⟩, ⟨some 17, .p (.ext 0), [.t 9], none⟩, ⟨some 18, .p (.ext 1), [.t 9], none⟩, ⟨some 5, .p (.mov), [.t 17], none⟩, ⟨some 6, .p (.mov), [.t 18], none⟩]) (.seq (.ops false [] [⟨some 20, .p (.faddr 0), [.t 2], none⟩, ⟨some 21, .p (.faddr 1), [.t 20], none⟩, ⟨some 22, .load 1 false, [.t 21], none⟩, ⟨some 23, .p (.faddr 0), [.t 3], none⟩, ⟨some 24, .p (.faddr 1), [.t 23], none⟩, ⟨some 25, .load 1 false, [.t 24], none⟩, ⟨some 26, .call 125, [.t 22, .t 25], none⟩, ⟨some 19, .p (.mov), [.t 26], none⟩, ⟨some 27, .p (.ext 0), [.t 19], none⟩, ⟨some 28, .p (.ext 1), [.t 19], none⟩, ⟨some 7, .p (.mov), [.t 27], none⟩, ⟨some 8, .p (.mov), [.t 28], none⟩]) (.seq (.ops false [] [⟨some 29, .p (.mov), [.t 6], none⟩, ⟨some 30, .p (.mov), [.t 8], none⟩, ⟨some 31, .p (.mm true), [.t 29, .t 30], none⟩, ⟨some 32, .p (.faddr 2), [.t 3], none⟩, ⟨some 33, .load 1 false, [.t 32], none⟩, ⟨some 34, .p (.binI .leq), [.t 31, .t 33], none⟩, ⟨some 4, .p (.mov), [.t 34], none⟩]) (.ret))))
theorem c102 : FnC Try.prog 102 35 a102 [.tmp 4] := ⟨Try.call102, _, _, Try.func102, rfl, by kernel_rfl, by kernel_rfl, rfl⟩
namespace Sc
noncomputable def cf_visits : List AV → Option AV
  | [h_v, l_v] => onH h_v fun h => onSps l_v fun l => if h.res.length ≤ 1099511627776 then some (vsV h l) else none
  | _ => none
theorem g_visits : Fn P 83 cf_visits := fun args v hh => by
  unfold cf_visits at hh; split at hh
  · obtain ⟨h, rfl, hh1⟩ := onH_inv hh
    obtain ⟨l, rfl, hh2⟩ := onSps_inv hh1
    split at hh2
    · rename_i hc; have hk := Option.some.inj hh2; subst hk; exact k_visits _ _ hc
    · cases hh2
  · cases hh
theorem x_visits (h : Hd) (l : Sps) (hc : (h.res.length ≤ 1099511627776) = True) : cf_visits [eHd h, eVs l] = some (vsV h l) := by
  simp only [cf_visits, onH_e, onSps_e]
  exact if_pos (by rw [hc]; trivial)
theorem vsE_home {h : Hd} {l : Sps} (h0 : vsE h l = 0) : (ckC l).2 = 0 ∧ hdE h = 0 := ⟨firstE_zero h0 _ (by simp), firstE_zero h0 _ (by simp)⟩
theorem visL_len (h : Hd) : ∀ (ss : List St) (t : Int) (d : Dr), (visL h t d ss).length = ss.length
  | [], _, _ => rfl
  | s :: r, t, d => by rw [visL, List.length_cons, List.length_cons, visL_len h r]
theorem okP_pos {n : Nat} {l : Sps} (h : okP n l) : 0 < l.length := by
  unfold okP stCh at h
  split at h
  · rename_i h0
    unfold stCe at h0
    have := unl_zero (firstE_zero h0 (unl (0 < (l.length : Int)) 10) (by simp)) (by decide)
    omega
  · rename_i h0; exact absurd h h0
theorem oneS_pos {n : Nat} {s : Sp} (h : stE n s = 0) (h2 : ¬ s.k = 2) : 0 < (oneS s).length := by
  obtain ⟨h3, h4, _⟩ := stE_one h h2
  unfold oneS
  split
  · simp
  · rw [swL, if_pos (upw_bd _ _).1, List.length_cons]; omega
theorem stopsOf_pos : ∀ (n : Nat) (s : Sp), stE n s = 0 → 0 < (stopsOf n s).length
  | 0, s, h => by
    have h2 : ¬ s.k = 2 := fun e => by obtain ⟨_, m, h3, _⟩ := stE_rep h e; cases h3
    rw [stopsOf]; exact oneS_pos h h2
  | n + 1, s, h => by
    rw [stopsOf]
    split
    · rename_i h2
      obtain ⟨⟨h5, _⟩, m, h3, h4⟩ := stE_rep h h2
      obtain rfl : n = m := by omega
      obtain ⟨k, hk⟩ : ∃ k, s.x5.toNat = k + 1 := ⟨s.x5.toNat - 1, by omega⟩
      rw [hk, repL, List.length_append]
      have hp := okP_pos h4
      cases hb : s.body with
      | nil => rw [hb] at hp; simp at hp
      | cons u r =>
        have := stopsOf_pos n u ((okP_e h4).2 u (by rw [hb]; simp))
        rw [List.flatMap_cons, List.length_append]
        omega
    · rename_i h2; exact oneS_pos h h2
theorem ckC_pos {l : Sps} (h : (ckC l).2 = 0) : 0 < (stopsAll 2 l).length := by
  obtain ⟨hk, _⟩ := ckC_ok h
  have hp := okP_pos hk
  have hs := (okP_e hk).2
  cases l with
  | nil => simp at hp
  | cons u r =>
    have := stopsOf_pos 2 u (hs u (by simp))
    rw [stopsAll, List.flatMap_cons, List.length_append]
    omega
/-- the last visit ends -/
def durL (h : Hd) (l : Sps) : Int := match (vsL h l).getLast? with
  | some v => v.to
  | none => 0
def duV (h : Hd) (l : Sps) : AV := if vsE h l = 0 then .tup [I (durL h l), I 0] else .tup [I 0, I (vsE h l)]
theorem k_DurationOf (h : Hd) (l : Sps) (hl : h.res.length ≤ 1099511627776) : FOk P 26 [eHd h, .vs (eSps l)] (duV h l) := by
  have y := x_visits h l (by simp only [hl])
  unfold vsV at y
  by_cases h0 : vsE h l = 0
  · have hv : duV h l = .tup [I (durL h l), I 0] := if_pos h0
    rw [hv]
    simp only [h0, if_true] at y
    obtain ⟨hc, _⟩ := vsE_home h0
    have hp := ckC_pos hc
    have h60 := (ckC_ok hc).2
    have hlen : (vsL h l).length = (stopsAll 2 l).length := visL_len h _ _ _
    rw [← hlen] at hp h60
    unfold durL
    generalize vsL h l = vs at *
    have w : IntKind.wrap .i64 ((vs.length : Int) - 1) = ((vs.length - 1 : Nat) : Int) := by rw [wrap64 (by omega) (by omega)]; omega
    have hlt : vs.length - 1 < vs.length := by omega
    have e2 : (vs.map eVi)[vs.length - 1]? = some (eVi vs[vs.length - 1]) := get_e eVi vs hlt
    have e3 : vs.getLast? = some vs[vs.length - 1] := by rw [List.getLast?_eq_getElem?, List.getElem?_eq_getElem hlt]
    rw [e3]
    refine c26.fok (by simp only [free_Hs, subs, sub1, free_Se, free_Sps]) (Cor.run (addC_good g_visits (noC_good _)) (noHx_good _) hm ?_)
    simp +contextual -implicitDefEqProofs (maxSteps := 2000000) only [bg_eq, a26, y, free_Vi, List.length_map, w, e2, ruB, rh_no, Int.reduceLT, Int.reduceLE, Int.reduceAdd, Int.reduceSub, Int.reduceMul, Int.reduceNeg, Int.reduceToNat, Int.reduceEq, Int.reduceNe, Int.reduceTDiv, Int.reduceTMod, implies_true, putL, appN, appX, appC, Eng.Fi, reduceCtorEq, exists_eq_left', exists_eq_left, if_true, if_false, List.replicate, Nat.reduceAdd, Nat.reduceSub, Nat.reduceMul, Nat.reduceLeDiff, Nat.reduceLT, Nat.reduceEqDiff]
  · have hv : duV h l = .tup [I 0, I (vsE h l)] := if_neg h0
    rw [hv]
    simp only [h0, if_false] at y
    refine c26.fok (by simp only [free_Hs, subs, sub1, free_Se, free_Sps]) (Cor.run (addC_good g_visits (noC_good _)) (noHx_good _) hm ?_)
    simp +contextual -implicitDefEqProofs (maxSteps := 2000000) only [bg_eq, a26, y, h0, not_false_eq_true, ruB, rh_no, Int.reduceLT, Int.reduceLE, Int.reduceAdd, Int.reduceSub, Int.reduceMul, Int.reduceNeg, Int.reduceToNat, Int.reduceEq, Int.reduceNe, Int.reduceTDiv, Int.reduceTMod, implies_true, putL, appN, appX, appC, Eng.Fi, reduceCtorEq, exists_eq_left', exists_eq_left, if_true, if_false, List.replicate, Nat.reduceAdd, Nat.reduceSub, Nat.reduceMul, Nat.reduceLeDiff, Nat.reduceLT, Nat.reduceEqDiff]
noncomputable def cf_DurationOf : List AV → Option AV
  | [h_v, l_v] => onH h_v fun h => onSps l_v fun l => if h.res.length ≤ 1099511627776 then some (duV h l) else none
  | _ => none
theorem g_DurationOf : Fn P 26 cf_DurationOf := fun args v hh => by
  unfold cf_DurationOf at hh; split at hh
  · obtain ⟨h, rfl, hh1⟩ := onH_inv hh
    obtain ⟨l, rfl, hh2⟩ := onSps_inv hh1
    split at hh2
    · rename_i hc; have hk := Option.some.inj hh2; subst hk; exact k_DurationOf _ _ hc
    · cases hh2
  · cases hh
theorem x_DurationOf (h : Hd) (l : Sps) (hc : (h.res.length ≤ 1099511627776) = True) : cf_DurationOf [eHd h, eVs l] = some (duV h l) := by
  simp only [cf_DurationOf, onH_e, onSps_e]
  exact if_pos (by rw [hc]; trivial)
def flG (h : Hd) : Nat → Dr → List Vi → Option (Nat × Dr)
  | _, _, [] => none
  | n, d, v :: r => match litL h d ⟨v.az, v.el⟩ with
    | some x => some (n, x)
    | none => flG h (n + 1) ⟨v.az, v.el⟩ r
def flV (h : Hd) (l : Sps) : AV := if vsE h l = 0 then (match flG h 0 h.home (vsL h l) with
    | some (n, d) => .tup [I n, eDr d, I 0]
    | none => .tup [I 0, .agg [I 0, I 0], I 12]) else .tup [I 0, .agg [I 0, I 0], I (vsE h l)]
theorem visL_dr {h : Hd} : ∀ {ss : List St} {t : Int} {d : Dr}, (∀ s ∈ ss, stR s) → ∀ v ∈ visL h t d ss, drR ⟨v.az, v.el⟩
  | [], _, _, _, v, hv => by simp [visL] at hv
  | s :: r, t, d, hs, v, hv => by
    rw [visL] at hv
    rcases List.mem_cons.1 hv with rfl | hv
    · exact (hs s (by simp)).1
    · exact visL_dr (fun s hs' => hs s (by simp [hs'])) v hv
def S27 (h : Hd) (vs : List Vi) (p : Nat × Dr) : AState := ⟨[.any, .any, .vp [eHd h] 0 0, .any, .any, .ptr 0 2 0 0, .any, .any, .any, .ptr 1 2 0 0, .any, .any, .any, .any, .any, .any, .any, .any, .any, .any, .any, .any, .any, .any, .any, .any, .vs (vs.map eVi), I vs.length, I p.1, .any, .any, .any, .any, .any, .any, .any, .any, .any, .any, .any, .any, .any, .any, .any, .any, .any, .any, .any], [⟨1, 1, .rows 37 2 [eDr p.2]⟩, ⟨0, 0, .rows 37 2 [.agg [I 0, I 0]]⟩], 2⟩
theorem k_FirstLit (h : Hd) (l : Sps) (hl : h.res.length ≤ 1099511627776) : FOk P 27 [eHd h, .vs (eSps l)] (flV h l) := by
  have y := x_visits h l (by simp only [hl])
  unfold vsV at y
  by_cases h0 : vsE h l = 0
  · have hv : flV h l = (match flG h 0 h.home (vsL h l) with
      | some (n, d) => .tup [I n, eDr d, I 0]
      | none => .tup [I 0, .agg [I 0, I 0], I 12]) := if_pos h0
    rw [hv]
    simp only [h0, if_true] at y
    obtain ⟨hc, hh⟩ := vsE_home h0
    have h60 := (ckC_ok hc).2
    have hlen : (vsL h l).length = (stopsAll 2 l).length := visL_len h _ _ _
    have hdr : ∀ v ∈ vsL h l, drR ⟨v.az, v.el⟩ := visL_dr (stops_ok (ckC_ok hc).1)
    rw [← hlen] at h60
    have hz := hdE_zero hh
    have hres : h.res.length ≤ 1000 ∧ ∀ s ∈ h.res, seR s := ⟨by have := hz.1.2; omega, fun s hs => (hz.2.1 s hs).1⟩
    generalize vsL h l = vs at *
    refine c27.fok (by simp only [free_Hs, subs, sub1, free_Se, free_Sps]) (Cor.run (addC_good g_lit (addC_good g_visits (noC_good _))) (noHx_good _) hm ?_)
    simp +contextual -implicitDefEqProofs (maxSteps := 2000000) only [bg_eq, a27, y, free_Vi, List.length_map, ruB, rh_no, Int.reduceLT, Int.reduceLE, Int.reduceAdd, Int.reduceSub, Int.reduceMul, Int.reduceNeg, Int.reduceToNat, Int.reduceEq, Int.reduceNe, Int.reduceTDiv, Int.reduceTMod, implies_true, putL, appN, appX, appC, Eng.Fi, reduceCtorEq, exists_eq_left', exists_eq_left, if_true, if_false, List.replicate, Nat.reduceAdd, Nat.reduceSub, Nat.reduceMul, Nat.reduceLeDiff, Nat.reduceLT, Nat.reduceEqDiff]
    refine Cor.lp (addC_good g_lit (addC_good g_visits (noC_good _))) (noHx_good _) hm (S27 h vs) (fun p => p.1 ≤ vs.length ∧ drR p.2 ∧ flG h 0 h.home vs = flG h p.1 p.2 (vs.drop p.1)) (fun p => vs.length - p.1) (a := (0, h.home)) ⟨Nat.zero_le _, hz.1.1.1, rfl⟩ (Wkn.to ⟨0, [(1, 0), (2, 1)], [0], 2, [2, 5, 9, 26, 27, 28]⟩ rfl rfl (by simp [Wk.st, keepT, memN, Wk.fate, Wk.fate0, assoc, getE, Wk.hp, ABlk.sub, sub1, subs, free_Se, free_Vi, S27])) ?_
    rintro f ⟨i, d⟩ ⟨hi, hd, hf⟩ go
    simp only at hi hd hf
    rcases Nat.lt_or_ge i vs.length with hlt | hlt
    · have e1 : decide ((i : Int) < (vs.length : Int)) = true := lt_t hlt
      have e2 : (vs.map eVi)[i]? = some (eVi vs[i]) := get_e eVi vs hlt
      have e3 : IntKind.wrap .i64 ((i : Int) + 1) = ((i + 1 : Nat) : Int) := suc_w (by omega)
      have hvd := hdr vs[i] (by simp)
      rw [List.drop_eq_getElem_cons hlt, flG] at hf
      generalize vs[i] = v at *
      have yl := x_lit h d ⟨v.az, v.el⟩ (by simp only [eq_iff_iff, iff_true]; exact ⟨hres, hd, hvd⟩)
      cases hx : litL h d ⟨v.az, v.el⟩ with
      | some x =>
        rw [hx] at yl hf
        simp only at hf
        simp only [litV] at yl
        rw [hf]
        simp +contextual -implicitDefEqProofs (maxSteps := 2000000) only [S27, e1, e2, e3, yl, ruB, rh_no, Int.reduceLT, Int.reduceLE, Int.reduceAdd, Int.reduceSub, Int.reduceMul, Int.reduceNeg, Int.reduceToNat, Int.reduceEq, Int.reduceNe, Int.reduceTDiv, Int.reduceTMod, implies_true, putL, appN, appX, appC, Eng.Fi, reduceCtorEq, exists_eq_left', exists_eq_left, if_true, if_false, List.replicate, Nat.reduceAdd, Nat.reduceSub, Nat.reduceMul, Nat.reduceLeDiff, Nat.reduceLT, Nat.reduceEqDiff]
      | none =>
        rw [hx] at yl hf
        simp only at hf
        simp only [litV] at yl
        simp +contextual -implicitDefEqProofs (maxSteps := 2000000) only [S27, e1, e2, e3, yl, ruB, rh_no, Int.reduceLT, Int.reduceLE, Int.reduceAdd, Int.reduceSub, Int.reduceMul, Int.reduceNeg, Int.reduceToNat, Int.reduceEq, Int.reduceNe, Int.reduceTDiv, Int.reduceTMod, implies_true, putL, appN, appX, appC, Eng.Fi, reduceCtorEq, exists_eq_left', exists_eq_left, if_true, if_false, List.replicate, Nat.reduceAdd, Nat.reduceSub, Nat.reduceMul, Nat.reduceLeDiff, Nat.reduceLT, Nat.reduceEqDiff]
        exact go _ (i + 1, ⟨v.az, v.el⟩) ⟨hlt, hvd, hf⟩ (by simp only; omega) (Wkn.to ⟨0, [(0, 0), (1, 1)], [], 2, [2, 5, 9, 26, 27, 28]⟩ rfl rfl (by simp [Wk.st, keepT, memN, Wk.fate, Wk.fate0, assoc, getE, Wk.hp, ABlk.sub, sub1, subs, free_Se, free_Vi, S27]))
    · have e1 : decide ((i : Int) < (vs.length : Int)) = false := lt_f hlt
      rw [List.drop_eq_nil_of_le hlt, flG] at hf
      rw [hf]
      simp +contextual -implicitDefEqProofs (maxSteps := 2000000) only [S27, e1, ruB, rh_no, Int.reduceLT, Int.reduceLE, Int.reduceAdd, Int.reduceSub, Int.reduceMul, Int.reduceNeg, Int.reduceToNat, Int.reduceEq, Int.reduceNe, Int.reduceTDiv, Int.reduceTMod, implies_true, putL, appN, appX, appC, Eng.Fi, reduceCtorEq, exists_eq_left', exists_eq_left, if_true, if_false, List.replicate, Nat.reduceAdd, Nat.reduceSub, Nat.reduceMul, Nat.reduceLeDiff, Nat.reduceLT, Nat.reduceEqDiff]
  · have hv : flV h l = .tup [I 0, .agg [I 0, I 0], I (vsE h l)] := if_neg h0
    rw [hv]
    simp only [h0, if_false] at y
    refine c27.fok (by simp only [free_Hs, subs, sub1, free_Se, free_Sps]) (Cor.run (addC_good g_lit (addC_good g_visits (noC_good _))) (noHx_good _) hm ?_)
    simp +contextual -implicitDefEqProofs (maxSteps := 2000000) only [bg_eq, a27, y, h0, not_false_eq_true, ruB, rh_no, Int.reduceLT, Int.reduceLE, Int.reduceAdd, Int.reduceSub, Int.reduceMul, Int.reduceNeg, Int.reduceToNat, Int.reduceEq, Int.reduceNe, Int.reduceTDiv, Int.reduceTMod, implies_true, putL, appN, appX, appC, Eng.Fi, reduceCtorEq, exists_eq_left', exists_eq_left, if_true, if_false, List.replicate, Nat.reduceAdd, Nat.reduceSub, Nat.reduceMul, Nat.reduceLeDiff, Nat.reduceLT, Nat.reduceEqDiff]
noncomputable def cf_FirstLit : List AV → Option AV
  | [h_v, l_v] => onH h_v fun h => onSps l_v fun l => if h.res.length ≤ 1099511627776 then some (flV h l) else none
  | _ => none
theorem g_FirstLit : Fn P 27 cf_FirstLit := fun args v hh => by
  unfold cf_FirstLit at hh; split at hh
  · obtain ⟨h, rfl, hh1⟩ := onH_inv hh
    obtain ⟨l, rfl, hh2⟩ := onSps_inv hh1
    split at hh2
    · rename_i hc; have hk := Option.some.inj hh2; subst hk; exact k_FirstLit _ _ hc
    · cases hh2
  · cases hh
theorem x_FirstLit (h : Hd) (l : Sps) (hc : (h.res.length ≤ 1099511627776) = True) : cf_FirstLit [eHd h, eVs l] = some (flV h l) := by
  simp only [cf_FirstLit, onH_e, onSps_e]
  exact if_pos (by rw [hc]; trivial)
structure Rq where
  az : Int
  el : Int
  tol : Int
  deriving DecidableEq
abbrev eRq (x : Rq) : AV := .agg [I x.az, I x.el, I x.tol]
def rqE (r : Rq) : Int := firstE [drE ⟨r.az, r.el⟩, unl (0 ≤ r.tol ∧ r.tol ≤ 20) 2]
theorem k_requestErr (r : Rq) : FOk P 99 [eRq r] (I (rqE r)) := by
  refine c99.fok rfl (Cor.run (addC_good g_first (addC_good g_unless (addC_good g_within (addC_good g_directionErr (noC_good _))))) (noHx_good _) hm ?_)
  simp +contextual -implicitDefEqProofs (maxSteps := 2000000) only [bg_eq, a99, x_directionErr, x_within, x_unless, x_first, y_first, rqE, ruB, rh_no, Int.reduceLT, Int.reduceLE, Int.reduceAdd, Int.reduceSub, Int.reduceMul, Int.reduceNeg, Int.reduceToNat, Int.reduceEq, Int.reduceNe, Int.reduceTDiv, Int.reduceTMod, implies_true, putL, appN, appX, appC, Eng.Fi, reduceCtorEq, exists_eq_left', exists_eq_left, if_true, if_false, List.replicate, Nat.reduceAdd, Nat.reduceSub, Nat.reduceMul, Nat.reduceLeDiff, Nat.reduceLT, Nat.reduceEqDiff]
def cf_requestErr : List AV → Option AV
  | [.agg [.int .i64 r_az, .int .i64 r_el, .int .i64 r_tol]] => some (I (rqE (⟨r_az, r_el, r_tol⟩ : Rq)))
  | _ => none
theorem g_requestErr : Fn P 99 cf_requestErr := fun args v hh => by
  unfold cf_requestErr at hh; split at hh
  · have hk := Option.some.inj hh; subst hk; exact k_requestErr ⟨_, _, _⟩
  · cases hh
theorem x_requestErr (r : Rq) : cf_requestErr [.agg [I r.az, I r.el, I r.tol]] = some (I (rqE r)) := by
  rfl
def meP (v : Vi) (r : Rq) : Prop := max (turnN v.az r.az) (tiltN v.el r.el) ≤ r.tol
instance (v : Vi) (r : Rq) : Decidable (meP v r) := by unfold meP; infer_instance
theorem k_meets (v : Vi) (r : Rq) (hb : drR ⟨v.az, v.el⟩ ∧ drR ⟨r.az, r.el⟩) : FOk P 102 [eVi v, eRq r] (.bool (decide (meP v r))) := by
  obtain ⟨⟨h1, h2⟩, ⟨h3, h4⟩⟩ := hb
  have y1 := x_turn v.az r.az (by simp only [eq_iff_iff, iff_true]; exact ⟨h1, h3⟩)
  have y2 := x_tilt v.el r.el (by simp only [eq_iff_iff, iff_true]; exact ⟨h2, h4⟩)
  refine c102.fok rfl (Cor.run (addC_good g_tilt (addC_good g_turn (noC_good _))) (noHx_good _) hm ?_)
  simp +contextual -implicitDefEqProofs (maxSteps := 2000000) only [bg_eq, a102, y1, y2, meP, ruB, rh_no, Int.reduceLT, Int.reduceLE, Int.reduceAdd, Int.reduceSub, Int.reduceMul, Int.reduceNeg, Int.reduceToNat, Int.reduceEq, Int.reduceNe, Int.reduceTDiv, Int.reduceTMod, implies_true, putL, appN, appX, appC, Eng.Fi, reduceCtorEq, exists_eq_left', exists_eq_left, if_true, if_false, List.replicate, Nat.reduceAdd, Nat.reduceSub, Nat.reduceMul, Nat.reduceLeDiff, Nat.reduceLT, Nat.reduceEqDiff]
def cf_meets : List AV → Option AV
  | [.agg [.int .i64 v_az, .int .i64 v_el, .int .i64 v_fr, .int .i64 v_to], .agg [.int .i64 r_az, .int .i64 r_el, .int .i64 r_tol]] => if drR ⟨(⟨v_az, v_el, v_fr, v_to⟩ : Vi).az, (⟨v_az, v_el, v_fr, v_to⟩ : Vi).el⟩ ∧ drR ⟨(⟨r_az, r_el, r_tol⟩ : Rq).az, (⟨r_az, r_el, r_tol⟩ : Rq).el⟩ then some (.bool (decide (meP (⟨v_az, v_el, v_fr, v_to⟩ : Vi) (⟨r_az, r_el, r_tol⟩ : Rq)))) else none
  | _ => none
theorem g_meets : Fn P 102 cf_meets := fun args v hh => by
  unfold cf_meets at hh; split at hh
  · split at hh
    · rename_i hc; have hk := Option.some.inj hh; subst hk; exact k_meets ⟨_, _, _, _⟩ ⟨_, _, _⟩ hc
    · cases hh
  · cases hh
theorem x_meets (v : Vi) (r : Rq) (hc : (drR ⟨v.az, v.el⟩ ∧ drR ⟨r.az, r.el⟩) = True) : cf_meets [.agg [I v.az, I v.el, I v.fr, I v.to], .agg [I r.az, I r.el, I r.tol]] = some (.bool (decide (meP v r))) := by
  exact if_pos (by rw [hc]; trivial)
def gpE (h : Hd) (l : Sps) (r : Rq) : Int := firstE [vsE h l, rqE r]
/-- gap, end of the last one that met, any -/
def gpG (r : Rq) : Int × Int × Bool → List Vi → Int × Int × Bool
  | p, [] => p
  | p, v :: q => if meP v r then gpG r (max p.1 (v.fr - p.2.1), v.to, true) q else gpG r p q
def gpV (h : Hd) (l : Sps) (r : Rq) : AV := if gpE h l r = 0 then (if (gpG r (0, 0, false) (vsL h l)).2.2 = true then .tup [I (max (gpG r (0, 0, false) (vsL h l)).1 (durL h l - (gpG r (0, 0, false) (vsL h l)).2.1)), I 0] else .tup [I 0, I 12]) else .tup [I 0, I (gpE h l r)]
def S54 (r : Rq) (vs : List Vi) (p : Nat × Int × Int × Bool) : AState := ⟨[.any, .any, .any, .any, .any, .vp [eRq r] 0 0, .any, .any, .vs (vs.map eVi), .any, I p.2.1, I p.2.2.1, .bool p.2.2.2, .any, .any, .any, .any, .any, .any, .any, .any, .any, .any, .any, .any, .any, .any, .any, .any, .vs (vs.map eVi), I vs.length, I p.1, .any, .any, .any, .any, .any, .any, .any, .any, .any, .any, .any, .any, .any, .any, .any, .any, .any, .any, .any, .any, .any, .any, .any, .any, .any, .any, .any, .any, .any, .any, .any], [], 0⟩
theorem visL_bd {h : Hd} (h2 : axR h.ra h.aa) (h3 : axR h.re h.ae) : ∀ {ss : List St} {t : Int} {d : Dr}, (∀ s ∈ ss, stR s) → drR d → ∀ v ∈ visL h t d ss, (t ≤ v.fr ∧ v.fr ≤ t + 1450 * ss.length) ∧ t ≤ v.to ∧ v.to ≤ t + 1450 * ss.length
  | [], _, _, _, _, v, hv => by simp [visL] at hv
  | s :: r, t, d, hs, hd, v, hv => by
    have hs1 := hs s (by simp)
    have hb := mvT_bd (h := h) (a := d) (b := stD s) ⟨⟨h2, h3⟩, hd, hs1.1⟩
    have ht := hs1.2
    rw [visL] at hv
    simp only [List.length_cons]
    rcases List.mem_cons.1 hv with rfl | hv
    · simp only; omega
    · have := visL_bd h2 h3 (fun s hs' => hs s (by simp [hs'])) hs1.1 v hv
      omega
theorem k_LongestGap (h : Hd) (l : Sps) (r : Rq) (hl : h.res.length ≤ 1099511627776) : FOk P 54 [eHd h, .vs (eSps l), eRq r] (gpV h l r) := by
  have y := x_visits h l (by simp only [hl])
  have yr := x_requestErr r
  unfold vsV at y
  by_cases h1 : gpE h l r = 0
  · have hv : gpV h l r = (if (gpG r (0, 0, false) (vsL h l)).2.2 = true then .tup [I (max (gpG r (0, 0, false) (vsL h l)).1 (durL h l - (gpG r (0, 0, false) (vsL h l)).2.1)), I 0] else .tup [I 0, I 12]) := if_pos h1
    rw [hv]
    unfold gpE at h1
    have h0 := firstE_zero h1 (vsE h l) (by simp)
    have hq := firstE_zero h1 (rqE r) (by simp)
    rw [h0] at h1
    simp only [h0, if_true] at y
    obtain ⟨hc, hh⟩ := vsE_home h0
    have h60 := (ckC_ok hc).2
    have hpos := ckC_pos hc
    have hlen : (vsL h l).length = (stopsAll 2 l).length := visL_len h _ _ _
    have hst := stops_ok (ckC_ok hc).1
    have hdr : ∀ v ∈ vsL h l, drR ⟨v.az, v.el⟩ := visL_dr hst
    have hz := hdE_zero hh
    have hbd : ∀ v ∈ vsL h l, (0 ≤ v.fr ∧ v.fr ≤ 0 + 1450 * (stopsAll 2 l).length) ∧ 0 ≤ v.to ∧ v.to ≤ 0 + 1450 * (stopsAll 2 l).length := visL_bd hz.1.1.2.1 hz.1.1.2.2 hst hz.1.1.1
    have hrd : drR ⟨r.az, r.el⟩ := drE_zero (firstE_zero hq _ (by simp))
    have hbd : ∀ v ∈ vsL h l, (0 ≤ v.fr ∧ v.fr ≤ 100000) ∧ 0 ≤ v.to ∧ v.to ≤ 100000 := fun v hv => by have := hbd v hv; omega
    rw [← hlen] at h60 hpos
    unfold durL
    generalize vsL h l = vs at *
    refine c54.fok (by simp only [free_Hs, subs, sub1, free_Se, free_Sps]) (Cor.run (addC_good g_first (addC_good g_meets (addC_good g_requestErr (addC_good g_visits (noC_good _))))) (noHx_good _) hm ?_)
    simp +contextual -implicitDefEqProofs (maxSteps := 2000000) only [bg_eq, a54, y, yr, x_first, y_first, h1, free_Vi, List.length_map, ruB, rh_no, Int.reduceLT, Int.reduceLE, Int.reduceAdd, Int.reduceSub, Int.reduceMul, Int.reduceNeg, Int.reduceToNat, Int.reduceEq, Int.reduceNe, Int.reduceTDiv, Int.reduceTMod, implies_true, putL, appN, appX, appC, Eng.Fi, reduceCtorEq, exists_eq_left', exists_eq_left, if_true, if_false, List.replicate, Nat.reduceAdd, Nat.reduceSub, Nat.reduceMul, Nat.reduceLeDiff, Nat.reduceLT, Nat.reduceEqDiff]
    refine Cor.lp (addC_good g_first (addC_good g_meets (addC_good g_requestErr (addC_good g_visits (noC_good _))))) (noHx_good _) hm (S54 r vs) (fun p => p.1 ≤ vs.length ∧ ((0 ≤ p.2.1 ∧ p.2.1 ≤ 100000) ∧ 0 ≤ p.2.2.1 ∧ p.2.2.1 ≤ 100000) ∧ gpG r (0, 0, false) vs = gpG r p.2 (vs.drop p.1)) (fun p => vs.length - p.1) (a := (0, 0, 0, false)) ⟨Nat.zero_le _, by simp, rfl⟩ (Wkn.to ⟨0, [], [1], 0, [5, 8, 10, 11, 12, 29, 30, 31]⟩ rfl rfl (by simp [Wk.st, keepT, memN, Wk.fate, Wk.fate0, assoc, getE, Wk.hp, ABlk.sub, sub1, subs, free_Se, free_Vi, S54])) ?_
    rintro f ⟨i, g, e, b⟩ ⟨hi, ⟨⟨b1, b2⟩, b3, b4⟩, hf⟩ go
    simp only at hi b1 b2 b3 b4 hf
    rcases Nat.lt_or_ge i vs.length with hlt | hlt
    · have e1 : decide ((i : Int) < (vs.length : Int)) = true := lt_t hlt
      have e2 : (vs.map eVi)[i]? = some (eVi vs[i]) := get_e eVi vs hlt
      have e3 : IntKind.wrap .i64 ((i : Int) + 1) = ((i + 1 : Nat) : Int) := suc_w (by omega)
      have hvd := hdr vs[i] (by simp)
      have hvb := hbd vs[i] (by simp)
      rw [List.drop_eq_getElem_cons hlt, gpG] at hf
      generalize vs[i] = v at *
      have ym := x_meets v r (by simp only [hvd, hrd, and_self])
      have w1 : IntKind.wrap .i64 (v.fr - e) = v.fr - e := wrap64 (by omega) (by omega)
      by_cases hm' : meP v r
      · rw [if_pos hm'] at hf
        have e4 : decide (meP v r) = true := decide_eq_true hm'
        rw [e4] at ym
        simp +contextual -implicitDefEqProofs (maxSteps := 2000000) only [S54, e1, e2, e3, ym, w1, ruB, rh_no, Int.reduceLT, Int.reduceLE, Int.reduceAdd, Int.reduceSub, Int.reduceMul, Int.reduceNeg, Int.reduceToNat, Int.reduceEq, Int.reduceNe, Int.reduceTDiv, Int.reduceTMod, implies_true, putL, appN, appX, appC, Eng.Fi, reduceCtorEq, exists_eq_left', exists_eq_left, if_true, if_false, List.replicate, Nat.reduceAdd, Nat.reduceSub, Nat.reduceMul, Nat.reduceLeDiff, Nat.reduceLT, Nat.reduceEqDiff]
        exact go _ (i + 1, max g (v.fr - e), v.to, true) ⟨hlt, ⟨⟨by simp only; omega, by simp only; omega⟩, by simp only; omega, by simp only; omega⟩, hf⟩ (by simp only; omega) (Wkn.to ⟨0, [], [], 0, [5, 8, 10, 11, 12, 29, 30, 31]⟩ rfl rfl (by simp [Wk.st, keepT, memN, Wk.fate, Wk.fate0, assoc, getE, Wk.hp, ABlk.sub, sub1, subs, free_Se, free_Vi, S54]))
      · rw [if_neg hm'] at hf
        have e4 : decide (meP v r) = false := decide_eq_false hm'
        rw [e4] at ym
        simp +contextual -implicitDefEqProofs (maxSteps := 2000000) only [S54, e1, e2, e3, ym, ruB, rh_no, Int.reduceLT, Int.reduceLE, Int.reduceAdd, Int.reduceSub, Int.reduceMul, Int.reduceNeg, Int.reduceToNat, Int.reduceEq, Int.reduceNe, Int.reduceTDiv, Int.reduceTMod, implies_true, putL, appN, appX, appC, Eng.Fi, reduceCtorEq, exists_eq_left', exists_eq_left, if_true, if_false, List.replicate, Nat.reduceAdd, Nat.reduceSub, Nat.reduceMul, Nat.reduceLeDiff, Nat.reduceLT, Nat.reduceEqDiff]
        exact go _ (i + 1, g, e, b) ⟨hlt, ⟨⟨b1, b2⟩, b3, b4⟩, hf⟩ (by simp only; omega) (Wkn.to ⟨0, [], [], 0, [5, 8, 10, 11, 12, 29, 30, 31]⟩ rfl rfl (by simp [Wk.st, keepT, memN, Wk.fate, Wk.fate0, assoc, getE, Wk.hp, ABlk.sub, sub1, subs, free_Se, free_Vi, S54]))
    · have e1 : decide ((i : Int) < (vs.length : Int)) = false := lt_f hlt
      rw [List.drop_eq_nil_of_le hlt, gpG] at hf
      rw [hf]
      have w : IntKind.wrap .i64 ((vs.length : Int) - 1) = ((vs.length - 1 : Nat) : Int) := by rw [wrap64 (by omega) (by omega)]; omega
      have hlt : vs.length - 1 < vs.length := by omega
      have e2 : (vs.map eVi)[vs.length - 1]? = some (eVi vs[vs.length - 1]) := get_e eVi vs hlt
      have e3 : vs.getLast? = some vs[vs.length - 1] := by rw [List.getLast?_eq_getElem?, List.getElem?_eq_getElem hlt]
      have hvb := hbd vs[vs.length - 1] (by simp)
      rw [e3]
      simp only
      have w1 : IntKind.wrap .i64 (vs[vs.length - 1].to - e) = vs[vs.length - 1].to - e := wrap64 (by omega) (by omega)
      cases b with
      | true => simp +contextual -implicitDefEqProofs (maxSteps := 2000000) only [S54, e1, List.length_map, w, e2, w1, ruB, rh_no, Int.reduceLT, Int.reduceLE, Int.reduceAdd, Int.reduceSub, Int.reduceMul, Int.reduceNeg, Int.reduceToNat, Int.reduceEq, Int.reduceNe, Int.reduceTDiv, Int.reduceTMod, implies_true, putL, appN, appX, appC, Eng.Fi, reduceCtorEq, exists_eq_left', exists_eq_left, if_true, if_false, List.replicate, Nat.reduceAdd, Nat.reduceSub, Nat.reduceMul, Nat.reduceLeDiff, Nat.reduceLT, Nat.reduceEqDiff]
      | false => simp +contextual -implicitDefEqProofs (maxSteps := 2000000) only [S54, e1, ruB, rh_no, Int.reduceLT, Int.reduceLE, Int.reduceAdd, Int.reduceSub, Int.reduceMul, Int.reduceNeg, Int.reduceToNat, Int.reduceEq, Int.reduceNe, Int.reduceTDiv, Int.reduceTMod, implies_true, putL, appN, appX, appC, Eng.Fi, reduceCtorEq, exists_eq_left', exists_eq_left, if_true, if_false, List.replicate, Nat.reduceAdd, Nat.reduceSub, Nat.reduceMul, Nat.reduceLeDiff, Nat.reduceLT, Nat.reduceEqDiff]
  · have hv : gpV h l r = .tup [I 0, I (gpE h l r)] := if_neg h1
    rw [hv]
    unfold gpE at h1 ⊢
    by_cases h0 : vsE h l = 0
    · simp only [h0, if_true] at y h1 ⊢
      refine c54.fok (by simp only [free_Hs, subs, sub1, free_Se, free_Sps]) (Cor.run (addC_good g_first (addC_good g_meets (addC_good g_requestErr (addC_good g_visits (noC_good _))))) (noHx_good _) hm ?_)
      simp +contextual -implicitDefEqProofs (maxSteps := 2000000) only [bg_eq, a54, y, yr, x_first, y_first, h1, free_Vi, not_false_eq_true, ruB, rh_no, Int.reduceLT, Int.reduceLE, Int.reduceAdd, Int.reduceSub, Int.reduceMul, Int.reduceNeg, Int.reduceToNat, Int.reduceEq, Int.reduceNe, Int.reduceTDiv, Int.reduceTMod, implies_true, putL, appN, appX, appC, Eng.Fi, reduceCtorEq, exists_eq_left', exists_eq_left, if_true, if_false, List.replicate, Nat.reduceAdd, Nat.reduceSub, Nat.reduceMul, Nat.reduceLeDiff, Nat.reduceLT, Nat.reduceEqDiff]
    · simp only [h0, if_false] at y
      refine c54.fok (by simp only [free_Hs, subs, sub1, free_Se, free_Sps]) (Cor.run (addC_good g_first (addC_good g_meets (addC_good g_requestErr (addC_good g_visits (noC_good _))))) (noHx_good _) hm ?_)
      simp +contextual -implicitDefEqProofs (maxSteps := 2000000) only [bg_eq, a54, y, yr, x_first, y_first, h1, not_false_eq_true, ruB, rh_no, Int.reduceLT, Int.reduceLE, Int.reduceAdd, Int.reduceSub, Int.reduceMul, Int.reduceNeg, Int.reduceToNat, Int.reduceEq, Int.reduceNe, Int.reduceTDiv, Int.reduceTMod, implies_true, putL, appN, appX, appC, Eng.Fi, reduceCtorEq, exists_eq_left', exists_eq_left, if_true, if_false, List.replicate, Nat.reduceAdd, Nat.reduceSub, Nat.reduceMul, Nat.reduceLeDiff, Nat.reduceLT, Nat.reduceEqDiff]
noncomputable def cf_LongestGap : List AV → Option AV
  | [h_v, l_v, .agg [.int .i64 r_az, .int .i64 r_el, .int .i64 r_tol]] => onH h_v fun h => onSps l_v fun l => if h.res.length ≤ 1099511627776 then some (gpV h l (⟨r_az, r_el, r_tol⟩ : Rq)) else none
  | _ => none
theorem g_LongestGap : Fn P 54 cf_LongestGap := fun args v hh => by
  unfold cf_LongestGap at hh; split at hh
  · obtain ⟨h, rfl, hh1⟩ := onH_inv hh
    obtain ⟨l, rfl, hh2⟩ := onSps_inv hh1
    split at hh2
    · rename_i hc; have hk := Option.some.inj hh2; subst hk; exact k_LongestGap _ _ ⟨_, _, _⟩ hc
    · cases hh2
  · cases hh
theorem x_LongestGap (h : Hd) (l : Sps) (r : Rq) (hc : (h.res.length ≤ 1099511627776) = True) : cf_LongestGap [eHd h, eVs l, .agg [I r.az, I r.el, I r.tol]] = some (gpV h l r) := by
  simp only [cf_LongestGap, onH_e, onSps_e]
  exact if_pos (by rw [hc]; trivial)
end Sc
