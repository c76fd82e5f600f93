import Derived.Test.YtjkhnmhbbjgenaaEngS9
import Derived.Test.YtjkhnmhbbjgenaaS32
open Go Go.Proofs Eng
set_option maxRecDepth 100000
set_option linter.unusedSimpArgs false
set_option linter.unusedVariables false
def a9 : AC := .seq (.ops false [] [⟨some 2, .box 42 7 1 true, [.t 0], none⟩, ⟨some 4, .p (.mov), [.c (.bool false)], none⟩]) (.seq (.seq (.ops false [] [⟨some 21, .call 15, [], none⟩, ⟨some 22, .p (.notB), [.t 21], none⟩]) (.cond (.t 22) (.seq (.ops false [] [⟨some 4, .p (.mov), [.c (.bool false)], none⟩]) (.ret)) (.skip))) (.seq (.seq (.ops false [] [⟨some 23, .load 7 true, [.t 2], none⟩, ⟨some 24, .call 23, [.t 23], none⟩, ⟨some 25, .p (.notB), [.t 24], none⟩, ⟨some 26, .p (.mov), [.t 25], none⟩, ⟨some 27, .p (.mov), [.t 1], some (26, false)⟩, ⟨some 28, .call 16, [.t 27], some (26, false)⟩, ⟨some 29, .p (.notB), [.t 28], some (26, false)⟩, ⟨some 30, .p (.pick), [.t 26, .c (.bool true), .t 29], none⟩, ⟨some 31, .p (.mov), [.t 30], none⟩, ⟨some 32, .load 7 true, [.t 2], some (31, false)⟩, ⟨some 33, .call 28, [.t 32], some (31, false)⟩, ⟨some 34, .p (.binI .neq), [.t 33, .c (.int .i64 0)], some (31, false)⟩, ⟨some 35, .p (.pick), [.t 31, .c (.bool true), .t 34], none⟩, ⟨some 36, .p (.mov), [.t 35], none⟩, ⟨some 37, .p (.mov), [.t 1], some (36, false)⟩, ⟨some 38, .call 29, [.t 37], some (36, false)⟩, ⟨some 39, .p (.binI .neq), [.t 38, .c (.int .i64 0)], some (36, false)⟩, ⟨some 40, .p (.pick), [.t 36, .c (.bool true), .t 39], none⟩]) (.cond (.t 40) (.seq (.ops false [] [⟨some 4, .p (.mov), [.c (.bool true)], none⟩]) (.ret)) (.skip))) (.seq (.ops false [] [⟨some 42, .load 7 true, [.t 2], none⟩, ⟨some 43, .call 25, [.t 42], none⟩, ⟨some 44, .p (.mov), [.t 1], none⟩, ⟨some 45, .call 18, [.t 44], none⟩, ⟨some 46, .call 27, [.t 43, .t 45], none⟩, ⟨some 41, .p (.mov), [.t 46], none⟩, ⟨some 47, .p (.ext 0), [.t 41], none⟩, ⟨some 48, .p (.ext 1), [.t 41], none⟩, ⟨some 49, .p (.ext 2), [.t 41], none⟩, ⟨some 6, .alloc 37 2 [.agg [.int .i64 0, .int .i64 0]], [], none⟩, ⟨some 5, .p (.mov), [.t 47], none⟩, ⟨none, .store 2 true, [.t 6, .t 48], none⟩, ⟨some 7, .p (.mov), [.t 49], none⟩]) (.seq (.ops false [] [⟨some 51, .p (.mov), [.t 1], none⟩, ⟨some 52, .call 18, [.t 51], none⟩, ⟨some 53, .call 19, [.t 52], none⟩, ⟨some 50, .p (.mov), [.t 53], none⟩, ⟨some 54, .p (.ext 0), [.t 50], none⟩, ⟨some 55, .p (.ext 1), [.t 50], none⟩, ⟨some 8, .p (.mov), [.t 54], none⟩, ⟨some 9, .p (.mov), [.t 55], none⟩]) (.seq (.ops false [] [⟨some 56, .load 7 true, [.t 2], none⟩, ⟨some 57, .call 25, [.t 56], none⟩, ⟨some 10, .alloc 42 7 [.agg [.int .i64 0, .int .i64 0, .int .i64 0, .int .i64 0, .int .i64 0, .int .i64 0, .nilslice]], [], none⟩, ⟨none, .store 7 true, [.t 10, .t 57], none⟩]) (.seq (.ops false [] [⟨some 58, .p (.faddr 6), [.t 10], none⟩, ⟨none, .store 1 false, [.t 58, .c (.nilslice)], none⟩]) (.seq (.ops true [(0, 8), (2, 8), (3, 8)] [⟨some 60, .load 7 true, [.t 10], none⟩, ⟨some 61, .p (.mov), [.t 1], none⟩, ⟨some 62, .call 18, [.t 61], none⟩, ⟨some 63, .call 27, [.t 60, .t 62], none⟩, ⟨some 59, .p (.mov), [.t 63], none⟩, ⟨some 64, .p (.ext 0), [.t 59], none⟩, ⟨some 65, .p (.ext 1), [.t 59], none⟩, ⟨some 66, .p (.ext 2), [.t 59], none⟩, ⟨some 12, .alloc 37 2 [.agg [.int .i64 0, .int .i64 0]], [], none⟩, ⟨some 11, .p (.mov), [.t 64], none⟩, ⟨none, .store 2 true, [.t 12, .t 65], none⟩, ⟨some 13, .p (.mov), [.t 66], none⟩]) (.seq (.seq (.ops false [] [⟨some 67, .p (.mov), [.t 7], none⟩, ⟨some 68, .p (.binI .neq), [.t 67, .c (.int .i64 0)], none⟩, ⟨some 69, .p (.mov), [.t 68], none⟩, ⟨some 70, .p (.mov), [.t 7], some (69, true)⟩, ⟨some 71, .p (.binI .neq), [.t 70, .c (.int .i64 12)], some (69, true)⟩, ⟨some 72, .p (.pick), [.t 69, .t 71, .c (.bool false)], none⟩, ⟨some 73, .p (.mov), [.t 72], none⟩, ⟨some 74, .p (.mov), [.t 9], some (73, false)⟩, ⟨some 75, .p (.binI .neq), [.t 74, .c (.int .i64 0)], some (73, false)⟩, ⟨some 76, .p (.pick), [.t 73, .c (.bool true), .t 75], none⟩, ⟨some 77, .p (.mov), [.t 76], none⟩, ⟨some 78, .p (.mov), [.t 13], some (77, false)⟩, ⟨some 79, .p (.binI .neq), [.t 78, .c (.int .i64 12)], some (77, false)⟩, ⟨some 80, .p (.pick), [.t 77, .c (.bool true), .t 79], none⟩, ⟨some 81, .p (.mov), [.t 80], none⟩, ⟨some 82, .p (.mov), [.t 8], some (81, false)⟩, ⟨some 83, .p (.lenS), [.t 82], some (81, false)⟩, ⟨some 84, .p (.binI .gtr), [.t 83, .c (.int .i64 60)], some (81, false)⟩, ⟨some 85, .p (.pick), [.t 81, .c (.bool true), .t 84], none⟩, ⟨some 86, .p (.mov), [.t 85], none⟩, ⟨some 87, .p (.mov), [.t 7], some (86, false)⟩, ⟨some 88, .p (.binI .eql), [.t 87, .c (.int .i64 0)], some (86, false)⟩, ⟨some 89, .p (.mov), [.t 88], some (86, false)⟩, ⟨some 90, .p (.mov), [.t 5], some (89, true)⟩, ⟨some 91, .p (.mov), [.t 8], some (89, true)⟩, ⟨some 92, .p (.lenS), [.t 91], some (89, true)⟩, ⟨some 93, .p (.binI .sub), [.t 92, .c (.int .i64 1)], some (89, true)⟩, ⟨some 94, .call 38, [.t 90, .c (.int .i64 0), .t 93], some (89, true)⟩, ⟨some 95, .p (.notB), [.t 94], some (89, true)⟩, ⟨some 96, .p (.pick), [.t 89, .t 95, .c (.bool false)], some (86, false)⟩, ⟨some 97, .p (.pick), [.t 86, .c (.bool true), .t 96], none⟩]) (.cond (.t 97) (.seq (.ops false [] [⟨some 4, .p (.mov), [.c (.bool false)], none⟩]) (.ret)) (.skip))) (.seq (.ops false [] [⟨some 98, .p (.mov), [.t 8], none⟩, ⟨some 99, .p (.lenS), [.t 98], none⟩, ⟨some 14, .p (.mov), [.t 99], none⟩]) (.seq (.seq (.ops false [] [⟨some 100, .p (.mov), [.t 7], none⟩, ⟨some 101, .p (.binI .eql), [.t 100, .c (.int .i64 0)], none⟩]) (.cond (.t 101) (.seq (.ops true [] [⟨some 103, .load 7 true, [.t 2], none⟩, ⟨some 104, .call 25, [.t 103], none⟩, ⟨some 105, .load 2 true, [.t 6], none⟩, ⟨some 106, .call 42, [.t 104, .t 105], none⟩, ⟨some 102, .p (.mov), [.t 106], none⟩, ⟨some 107, .p (.ext 0), [.t 102], none⟩, ⟨some 108, .p (.ext 1), [.t 102], none⟩, ⟨some 15, .p (.mov), [.t 107], none⟩, ⟨some 16, .p (.mov), [.t 108], none⟩]) (.seq (.seq (.ops false [] [⟨some 109, .p (.mov), [.t 16], none⟩, ⟨some 110, .p (.binI .neq), [.t 109, .c (.int .i64 0)], none⟩, ⟨some 111, .p (.mov), [.t 110], none⟩, ⟨some 112, .p (.mov), [.t 15], some (111, false)⟩, ⟨some 113, .p (.notB), [.t 112], some (111, false)⟩, ⟨some 114, .p (.pick), [.t 111, .c (.bool true), .t 113], none⟩]) (.cond (.t 114) (.seq (.ops false [] [⟨some 4, .p (.mov), [.c (.bool false)], none⟩]) (.ret)) (.skip))) (.ops false [] [⟨some 115, .p (.mov), [.t 5], none⟩, ⟨some 14, .p (.mov), [.t 115], none⟩]))) (.skip))) (.seq (.ops false [] [⟨some 116, .p (.faddr 0), [.t 2], none⟩, ⟨some 117, .load 2 true, [.t 116], none⟩, ⟨some 17, .alloc 37 2 [.agg [.int .i64 0, .int .i64 0]], [], none⟩, ⟨none, .store 2 true, [.t 17, .t 117], none⟩]) (.seq (.seq (.ops false [] [⟨some 18, .p (.mov), [.c (.int .i64 0)], none⟩]) (.block 0 (.loop (.seq (.seq (.ops false [] [⟨some 118, .p (.mov), [.t 18], none⟩, ⟨some 119, .p (.mov), [.t 8], none⟩, ⟨some 120, .p (.lenS), [.t 119], none⟩, ⟨some 121, .p (.binI .lss), [.t 118, .t 120], none⟩]) (.cond (.t 121) (.skip) (.exit 0))) (.seq (.block 1 (.seq (.seq (.ops false [] [⟨some 124, .p (.mov), [.t 8], none⟩, ⟨some 125, .p (.mov), [.t 18], none⟩, ⟨some 126, .p (.iaddrS 3), [.t 124, .t 125], none⟩, ⟨some 127, .p (.faddr 0), [.t 126], none⟩, ⟨some 128, .load 2 true, [.t 127], none⟩, ⟨some 129, .call 44, [.t 128], none⟩, ⟨some 130, .p (.binI .neq), [.t 129, .c (.int .i64 0)], none⟩]) (.cond (.t 130) (.seq (.ops false [] [⟨some 4, .p (.mov), [.c (.bool false)], none⟩]) (.ret)) (.skip))) (.seq (.ops true [] [⟨some 132, .load 7 true, [.t 2], none⟩, ⟨some 133, .call 25, [.t 132], none⟩, ⟨some 134, .load 2 true, [.t 17], none⟩, ⟨some 135, .p (.mov), [.t 8], none⟩, ⟨some 136, .p (.mov), [.t 18], none⟩, ⟨some 137, .p (.iaddrS 3), [.t 135, .t 136], none⟩, ⟨some 138, .p (.faddr 0), [.t 137], none⟩, ⟨some 139, .load 2 true, [.t 138], none⟩, ⟨some 140, .call 48, [.t 133, .t 134, .t 139], none⟩, ⟨some 131, .p (.mov), [.t 140], none⟩, ⟨some 141, .p (.ext 0), [.t 131], none⟩, ⟨some 142, .p (.ext 1), [.t 131], none⟩, ⟨some 19, .p (.mov), [.t 141], none⟩, ⟨some 20, .p (.mov), [.t 142], none⟩]) (.seq (.seq (.ops false [] [⟨some 143, .p (.mov), [.t 20], none⟩, ⟨some 144, .p (.binI .neq), [.t 143, .c (.int .i64 0)], none⟩, ⟨some 145, .p (.mov), [.t 144], none⟩, ⟨some 146, .p (.mov), [.t 18], some (145, false)⟩, ⟨some 147, .p (.mov), [.t 14], some (145, false)⟩, ⟨some 148, .p (.binI .lss), [.t 146, .t 147], some (145, false)⟩, ⟨some 149, .p (.mov), [.t 148], some (145, false)⟩, ⟨some 150, .p (.mov), [.t 19], some (149, true)⟩, ⟨some 151, .p (.notB), [.t 150], some (149, true)⟩, ⟨some 152, .p (.pick), [.t 149, .t 151, .c (.bool false)], some (145, false)⟩, ⟨some 153, .p (.pick), [.t 145, .c (.bool true), .t 152], none⟩, ⟨some 154, .p (.mov), [.t 153], none⟩, ⟨some 155, .p (.mov), [.t 18], some (154, false)⟩, ⟨some 156, .p (.mov), [.t 14], some (154, false)⟩, ⟨some 157, .p (.binI .eql), [.t 155, .t 156], some (154, false)⟩, ⟨some 158, .p (.mov), [.t 157], some (154, false)⟩, ⟨some 159, .p (.mov), [.t 19], some (158, true)⟩, ⟨some 160, .p (.pick), [.t 158, .t 159, .c (.bool false)], some (154, false)⟩, ⟨some 161, .p (.pick), [.t 154, .c (.bool true), .t 160], none⟩]) (.cond (.t 161) (.seq (.ops false [] [⟨some 4, .p (.mov), [.c (.bool false)], none⟩]) (.ret)) (.skip))) (.ops false [] [⟨some 162, .p (.mov), [.t 8], none⟩, ⟨some 163, .p (.mov), [.t 18], none⟩, ⟨some 164, .p (.iaddrS 3), [.t 162, .t 163], none⟩, ⟨some 165, .p (.faddr 0), [.t 164], none⟩, ⟨some 166, .load 2 true, [.t 165], none⟩, ⟨none, .store 2 true, [.t 17, .t 166], none⟩]))))) (.ops false [] [⟨some 122, .p (.mov), [.t 18], none⟩, ⟨some 123, .p (.binI .add), [.t 122, .c (.int .i64 1)], none⟩, ⟨some 18, .p (.mov), [.t 123], none⟩])))))) (.seq (.ops false [] [⟨some 4, .p (.mov), [.c (.bool true)], none⟩]) (.ret))))))))))))))
theorem c9 : FnC Try.prog 9 167 a9 [.tmp 4] := ⟨Try.call9, _, _, Try.func9, rfl, by kernel_rfl, by kernel_rfl, rfl⟩
namespace Sc
theorem FOk.na1 {P : Program} {f : Nat} {a a' v : AV} {r : List AV} (he : Eng.nv a = a') (h : FOk P f (a' :: r) v) : FOk P f (a :: r) v := by
  refine ⟨h.1, fun G w cargs hG hr => h.2 G w cargs hG ?_⟩
  subst he
  simp only [VRels] at hr ⊢
  obtain ⟨c, cs, h0, h1, h2⟩ := hr
  exact ⟨c, cs, h0, nv_rel a h1, h2⟩
noncomputable def cf_FL : List AV → Option AV
  | [.agg [.int .i64 a, .int .i64 b, .int .i64 c, .int .i64 d, .int .i64 e, .int .i64 f, .nilslice], w] => cf_FirstLit [.agg [.int .i64 a, .int .i64 b, .int .i64 c, .int .i64 d, .int .i64 e, .int .i64 f, .vs []], w]
  | args => cf_FirstLit args
theorem g_FL : Fn P 27 cf_FL := fun args v hh => by
  unfold cf_FL at hh; split at hh
  · exact FOk.na1 (by simp only [Eng.nv, nvs]) (g_FirstLit _ _ hh)
  · exact g_FirstLit _ _ hh
theorem x_FL0 (a b c d e f : Int) (w : AV) : cf_FL [.agg [.int .i64 a, .int .i64 b, .int .i64 c, .int .i64 d, .int .i64 e, .int .i64 f, .nilslice], w] = cf_FirstLit [.agg [.int .i64 a, .int .i64 b, .int .i64 c, .int .i64 d, .int .i64 e, .int .i64 f, .vs []], w] := rfl
theorem x_FL1 (a b c d e f : Int) (l : List AV) (w : AV) : cf_FL [.agg [.int .i64 a, .int .i64 b, .int .i64 c, .int .i64 d, .int .i64 e, .int .i64 f, .vs l], w] = cf_FirstLit [.agg [.int .i64 a, .int .i64 b, .int .i64 c, .int .i64 d, .int .i64 e, .int .i64 f, .vs l], w] := rfl
def hd0 (h : Hd) : Hd := { h with res := [] }
theorem mvE_ok9 {h : Hd} {a b : Dr} (c : hdE h = 0) (za : drE a = 0) (zb : drE b = 0) : mvE h a b = 0 := by
  unfold mvE; simp only [firstE, c, za, zb, if_true]
theorem hd0_ok {h : Hd} (hh : hdE h = 0) : hdE (hd0 h) = 0 := by
  have hz := hdE_zero hh
  have h1 : hd1 (hd0 h) = 0 := by
    have a1 : drE (hd0 h).home = 0 := unl_t 2 hz.1.1.1
    have a2 : axE (hd0 h).ra (hd0 h).aa = 0 := unl_t 2 hz.1.1.2.1
    have a3 : axE (hd0 h).re (hd0 h).ae = 0 := unl_t 2 hz.1.1.2.2
    rw [hd1_val, if_pos a1, if_pos a2, if_pos a3]; rfl
  unfold hdE hdC
  rw [if_pos h1]; rfl
theorem flS_nil {h : Hd} (hr : h.res = []) : ∀ (ss : List St) (n : Nat) (d : Dr), flS h n d ss = none
  | [], _, _ => rfl
  | s :: r, n, d => by
    have : litL h d (stD s) = none := by
      unfold litL
      rw [hr]
      exact List.find?_eq_none.2 (fun x _ => by simp [resv])
    rw [flS, this]
    exact flS_nil hr r _ _
theorem flS_ge {h : Hd} : ∀ {ss : List St} {n i : Nat} {d x : Dr}, flS h n d ss = some (i, x) → n ≤ i ∧ i < n + ss.length
  | [], _, _, _, _, hh => by cases hh
  | s :: r, n, i, d, x, hh => by
    rw [flS] at hh
    split at hh
    · cases hh; simp
    · have := flS_ge hh
      rw [List.length_cons]; omega
theorem flS_resv {h : Hd} : ∀ {ss : List St} {n i : Nat} {d x : Dr}, drR d → (∀ s ∈ ss, stR s) → flS h n d ss = some (i, x) → resv h.res x = true ∧ drR x
  | [], _, _, _, _, _, _, hh => by cases hh
  | s :: r, n, i, d, x, hd, hs, hh => by
    have hs1 := (hs s (by simp)).1
    rw [flS] at hh
    split at hh
    · rename_i y hy
      cases hh
      unfold litL at hy
      exact ⟨List.find?_some hy, wayL_dr hd hs1 _ (List.mem_of_find?_eq_some hy)⟩
    · exact flS_resv hs1 (fun s hs' => hs s (by simp [hs'])) hh
def drkN (ss : List St) : Option (Nat × Dr) → Nat
  | some (i, _) => i
  | none => ss.length
def S9n (h : Hd) (ss : List St) (fl : Option (Nat × Dr)) (p : Nat × Dr) : AState := ⟨[.any, .any, .ptr 0 7 0 0, .any, .any, .any, .any, .any, .vs (ss.map eSt), .any, .any, .any, .any, .any, I (drkN ss fl), .any, .any, .ptr 1 2 0 0, I p.1, .any, .any, .any, .any, .any, .any, .any, .any, .any, .any, .any, .any, .any, .any, .any, .any, .any, .any, .any, .any, .any, .any, .any, .any, .any, .any, .any, .any, .any, .any, .any, .any, .any, .any, .any, .any, .any, .any, .any, .any, .any, .any, .any, .any, .any, .any, .any, .any, .any, .any, .any, .any, .any, .any, .any, .any, .any, .any, .any, .any, .any, .any, .any, .any, .any, .any, .any, .any, .any, .any, .any, .any, .any, .any, .any, .any, .any, .any, .any, .any, .any, .any, .any, .any, .any, .any, .any, .any, .any, .any, .any, .any, .any, .any, .any, .any, .any, .any, .any, .any, .any, .any, .any, .any, .any, .any, .any, .any, .any, .any, .any, .any, .any, .any, .any, .any, .any, .any, .any, .any, .any, .any, .any, .any, .any, .any, .any, .any, .any, .any, .any, .any, .any, .any, .any, .any, .any, .any, .any, .any, .any, .any, .any, .any, .any, .any, .any, .any], [⟨1, 1, .rows 37 2 [eDr p.2]⟩, ⟨0, 0, .rows 42 7 [eHd h]⟩], 2⟩
set_option maxHeartbeats 1000000 in
theorem k_ScanNeverLit (h : Hd) (l : Sps) : FOk P 9 [eHd h, .vs (eSps l)] (.bool true) := by
  by_cases h8 : (h.res.length : Int) ≤ 8
  · have yf := x_Few l
    by_cases hf : fewB l = true
    · rw [hf] at yf
      have hl : h.res.length ≤ 1000 := by omega
      have hl' : h.res.length ≤ 1099511627776 := by omega
      have y4 := x_rHeadErr h (by simp only [hl])
      have y5 := x_rStepsErr l
      by_cases c2 : hdE h = 0
      · by_cases c1 : (ckC l).2 = 0
        · have h0 : vsE h l = 0 := by rw [vsE_val, if_pos c2, c1]
          obtain ⟨r1, r2, r3⟩ := runs_ok h0
          have c20 := hd0_ok c2
          have h00 : vsE (hd0 h) l = 0 := by rw [vsE_val, if_pos c20, c1]
          obtain ⟨hk, h60⟩ := ckC_ok c1
          have hpos := ckC_pos c1
          have yh := x_CopyHead h (by simp only [hl])
          have yc := x_Copy 5 l (few_wgh hf)
          have y1 := x_FirstLit h l (by simp only [hl'])
          have y2 : cf_FirstLit [.agg [.int .i64 h.home.az, .int .i64 h.home.el, .int .i64 h.ra, .int .i64 h.aa, .int .i64 h.re, .int .i64 h.ae, .vs []], .vs (eSps l)] = some (flV (hd0 h) l) := x_FirstLit (hd0 h) l (by simp [hd0])
          have y3 := x_Compiled l
          rw [flV, if_pos h0, vsL, flG_flS] at y1
          rw [flV, if_pos h00, vsL, flG_flS, flS_nil rfl] at y2
          simp only at y2
          rw [cmV, if_pos c1] at y3
          have hz1 := r1.2
          have hres : okR h.res = okR h.res := rfl
          have hge := @flS_ge h (stopsAll 2 l) 0
          have hre := @flS_resv h (stopsAll 2 l) 0
          generalize hfl : flS h 0 h.home (stopsAll 2 l) = fl at *
          generalize stopsAll 2 l = ss at *
          have g1 : (60 < (ss.length : Int)) = False := by simp only [eq_iff_iff, iff_false]; omega
          have wl : IntKind.wrap .i64 ((ss.length : Int) - 1) = (ss.length : Int) - 1 := wrap64 (by omega) (by omega)
          cases fl with
          | some q =>
            obtain ⟨n, x⟩ := q
            have hn := hge hfl
            have hx := hre hz1 r2.2 hfl
            have hr0 := x_IsReserved h x (by simp only [hl'])
            have hv : isV h x = .tup [B (resv h.res x), I 0] := if_pos (by have : drE x = 0 := unl_t 2 hx.2
                                                                           simp [isE, firstE, c2, this])
            rw [hv, hx.1] at hr0
            have g2 : ((n : Int) ≤ (ss.length : Int) - 1) = True := by simp only [eq_iff_iff, iff_true]; omega
            simp only at y1
            refine c9.fok (by simp only [free_Hs, subs, sub1, free_Se, free_Sps]) (Cor.run (addC_good (g_Copy 5) (addC_good g_FL (addC_good g_IsDark (addC_good g_rDirectionErr (addC_good g_IsReserved (addC_good g_Within (addC_good g_rStepsErr (addC_good g_rHeadErr (addC_good g_Compiled (addC_good g_CopyHead (addC_good g_Few (addC_good g_few (addC_good g_awake (noC_good _)))))))))))))) (noHx_good _) hm ?_)
            simp +contextual -implicitDefEqProofs (maxSteps := 2000000) only [bg_eq, a9, nz0, x_awake, x_few, yh, yf, yc, x_FL1, x_FL0, y1, y2, y3, y4, y5, hr0, h8, c1, c2, g1, g2, wl, x_Within, free_St, List.length_map, not_true_eq_false, not_false_eq_true, ne_eq, ruB, rh_no, Int.reduceLT, Int.reduceLE, Int.reduceAdd, Int.reduceSub, Int.reduceMul, Int.reduceNeg, Int.reduceToNat, Int.reduceEq, Int.reduceNe, Int.reduceTDiv, Int.reduceTMod, implies_true, putL, appN, appX, appC, Eng.Fi, reduceCtorEq, exists_eq_left', exists_eq_left, if_true, if_false, List.replicate, Nat.reduceAdd, Nat.reduceSub, Nat.reduceMul, Nat.reduceLeDiff, Nat.reduceLT, Nat.reduceEqDiff]
            refine Cor.lp (addC_good (g_Copy 5) (addC_good g_FL (addC_good g_IsDark (addC_good g_rDirectionErr (addC_good g_IsReserved (addC_good g_Within (addC_good g_rStepsErr (addC_good g_rHeadErr (addC_good g_Compiled (addC_good g_CopyHead (addC_good g_Few (addC_good g_few (addC_good g_awake (noC_good _)))))))))))))) (noHx_good _) hm (S9n h ss (some (n, x))) (fun p => (p.1 ≤ ss.length ∧ drR p.2) ∧ (p.1 ≤ drkN ss (some (n, x)) → (some (n, x)) = flS h p.1 p.2 (ss.drop p.1))) (fun p => ss.length - p.1) (a := (0, h.home)) ⟨⟨Nat.zero_le _, hz1⟩, fun _ => hfl.symm⟩ (Wkn.to ⟨0, [(0, 0), (8, 1)], [], 2, [2, 8, 14, 17, 18]⟩ rfl rfl (by simp [Wk.st, keepT, memN, Wk.fate, Wk.fate0, assoc, getE, Wk.hp, ABlk.sub, sub1, subs, S9n, drkN, free_Se, free_St])) ?_
            rintro f ⟨k, d⟩ ⟨⟨hk', hd⟩, hfk⟩ go
            simp only at hk' hd hfk
            rcases Nat.lt_or_ge k ss.length with hlt | hlt
            · have e1 : decide ((k : Int) < (ss.length : Int)) = true := lt_t hlt
              have e2 : (ss.map eSt)[k]? = some (eSt ss[k]) := get_e eSt ss hlt
              have e3 : IntKind.wrap .i64 ((k : Int) + 1) = ((k + 1 : Nat) : Int) := suc_w (by omega)
              have hs := r2.2 ss[k] (by simp)
              rw [List.drop_eq_getElem_cons hlt, flS] at hfk
              generalize ss[k] = s at *
              have zs : drE ⟨s.az, s.el⟩ = 0 := unl_t 2 hs.1
              have ys := x_rDirectionErr s.az s.el
              rw [zs] at ys
              have yk : cf_IsDark [eHd h, eDr d, .agg [I s.az, I s.el]] = some (dkV h d (stD s)) := x_IsDark h d (stD s) (by simp only [hl'])
              have zd : drE d = 0 := unl_t 2 hd
              have hme : mvE h d (stD s) = 0 := mvE_ok9 c2 zd zs
              rw [dkV, if_pos hme] at yk
              cases hx9 : litL h d (stD s) with
              | some y9 =>
                rw [hx9] at yk hfk
                simp only at hfk
                have q1 : ((k : Int) < (drkN ss (some (n, x)) : Nat)) = False := by
                  simp only [eq_iff_iff, iff_false]
                  intro hlt9
                  have := hfk (by omega)
                  rw [this] at hlt9
                  simp only [drkN] at hlt9; omega
                have q2 : k + 1 ≤ drkN ss (some (n, x)) → (some (n, x)) = flS h (k + 1) (stD s) (ss.drop (k + 1)) := fun hle => absurd (show (k : Int) < (drkN ss (some (n, x)) : Nat) by omega) (by rw [q1]; exact fun h => h)
                simp only [Option.isNone_some] at yk
                by_cases q4 : (k : Int) = (drkN ss (some (n, x)) : Nat)
                · have q4 := eq_true q4
                  simp +contextual -implicitDefEqProofs (maxSteps := 2000000) only [S9n, e1, e2, e3, ys, yh, yk, q1, q4, List.length_map, not_true_eq_false, not_false_eq_true, ne_eq, ruB, rh_no, Int.reduceLT, Int.reduceLE, Int.reduceAdd, Int.reduceSub, Int.reduceMul, Int.reduceNeg, Int.reduceToNat, Int.reduceEq, Int.reduceNe, Int.reduceTDiv, Int.reduceTMod, implies_true, putL, appN, appX, appC, Eng.Fi, reduceCtorEq, exists_eq_left', exists_eq_left, if_true, if_false, List.replicate, Nat.reduceAdd, Nat.reduceSub, Nat.reduceMul, Nat.reduceLeDiff, Nat.reduceLT, Nat.reduceEqDiff]
                  exact go _ (k + 1, stD s) ⟨⟨hlt, hs.1⟩, q2⟩ (by simp only; omega) (Wkn.to ⟨0, [(0, 0), (1, 1)], [], 2, [2, 8, 14, 17, 18]⟩ rfl rfl (by simp [Wk.st, keepT, memN, Wk.fate, Wk.fate0, assoc, getE, Wk.hp, ABlk.sub, sub1, subs, S9n, stD, free_Se, free_St]))
                · simp +contextual -implicitDefEqProofs (maxSteps := 2000000) only [S9n, e1, e2, e3, ys, yh, yk, q1, q4, List.length_map, not_true_eq_false, not_false_eq_true, ne_eq, ruB, rh_no, Int.reduceLT, Int.reduceLE, Int.reduceAdd, Int.reduceSub, Int.reduceMul, Int.reduceNeg, Int.reduceToNat, Int.reduceEq, Int.reduceNe, Int.reduceTDiv, Int.reduceTMod, implies_true, putL, appN, appX, appC, Eng.Fi, reduceCtorEq, exists_eq_left', exists_eq_left, if_true, if_false, List.replicate, Nat.reduceAdd, Nat.reduceSub, Nat.reduceMul, Nat.reduceLeDiff, Nat.reduceLT, Nat.reduceEqDiff]
                  exact go _ (k + 1, stD s) ⟨⟨hlt, hs.1⟩, q2⟩ (by simp only; omega) (Wkn.to ⟨0, [(0, 0), (1, 1)], [], 2, [2, 8, 14, 17, 18]⟩ rfl rfl (by simp [Wk.st, keepT, memN, Wk.fate, Wk.fate0, assoc, getE, Wk.hp, ABlk.sub, sub1, subs, S9n, stD, free_Se, free_St]))
              | none =>
                rw [hx9] at yk hfk
                simp only at hfk
                have q1 : ((k : Int) = (drkN ss (some (n, x)) : Nat)) = False := by
                  simp only [eq_iff_iff, iff_false]
                  intro heq
                  have h9 := hfk (by omega)
                  cases hz9 : flS h (k + 1) (stD s) (ss.drop (k + 1)) with
                  | none =>
                    rw [hz9] at h9
                    rw [h9] at heq
                    simp only [drkN] at heq; omega
                  | some q9 =>
                    obtain ⟨i9, x9⟩ := q9
                    have := (flS_ge hz9).1
                    rw [hz9] at h9
                    rw [h9] at heq
                    simp only [drkN] at heq; omega
                have q2 : k + 1 ≤ drkN ss (some (n, x)) → (some (n, x)) = flS h (k + 1) (stD s) (ss.drop (k + 1)) := fun hle => hfk (by omega)
                simp only [Option.isNone_none] at yk
                by_cases q3 : (k : Int) < (drkN ss (some (n, x)) : Nat)
                · simp +contextual -implicitDefEqProofs (maxSteps := 2000000) only [S9n, e1, e2, e3, ys, yh, yk, q1, q3, List.length_map, not_true_eq_false, not_false_eq_true, ne_eq, ruB, rh_no, Int.reduceLT, Int.reduceLE, Int.reduceAdd, Int.reduceSub, Int.reduceMul, Int.reduceNeg, Int.reduceToNat, Int.reduceEq, Int.reduceNe, Int.reduceTDiv, Int.reduceTMod, implies_true, putL, appN, appX, appC, Eng.Fi, reduceCtorEq, exists_eq_left', exists_eq_left, if_true, if_false, List.replicate, Nat.reduceAdd, Nat.reduceSub, Nat.reduceMul, Nat.reduceLeDiff, Nat.reduceLT, Nat.reduceEqDiff]
                  exact go _ (k + 1, stD s) ⟨⟨hlt, hs.1⟩, q2⟩ (by simp only; omega) (Wkn.to ⟨0, [(0, 0), (1, 1)], [], 2, [2, 8, 14, 17, 18]⟩ rfl rfl (by simp [Wk.st, keepT, memN, Wk.fate, Wk.fate0, assoc, getE, Wk.hp, ABlk.sub, sub1, subs, S9n, stD, free_Se, free_St]))
                · simp +contextual -implicitDefEqProofs (maxSteps := 2000000) only [S9n, e1, e2, e3, ys, yh, yk, q1, q3, List.length_map, not_true_eq_false, not_false_eq_true, ne_eq, ruB, rh_no, Int.reduceLT, Int.reduceLE, Int.reduceAdd, Int.reduceSub, Int.reduceMul, Int.reduceNeg, Int.reduceToNat, Int.reduceEq, Int.reduceNe, Int.reduceTDiv, Int.reduceTMod, implies_true, putL, appN, appX, appC, Eng.Fi, reduceCtorEq, exists_eq_left', exists_eq_left, if_true, if_false, List.replicate, Nat.reduceAdd, Nat.reduceSub, Nat.reduceMul, Nat.reduceLeDiff, Nat.reduceLT, Nat.reduceEqDiff]
                  exact go _ (k + 1, stD s) ⟨⟨hlt, hs.1⟩, q2⟩ (by simp only; omega) (Wkn.to ⟨0, [(0, 0), (1, 1)], [], 2, [2, 8, 14, 17, 18]⟩ rfl rfl (by simp [Wk.st, keepT, memN, Wk.fate, Wk.fate0, assoc, getE, Wk.hp, ABlk.sub, sub1, subs, S9n, stD, free_Se, free_St]))
            · have e1 : decide ((k : Int) < (ss.length : Int)) = false := lt_f hlt
              simp +contextual -implicitDefEqProofs (maxSteps := 2000000) only [S9n, e1, List.length_map, ruB, rh_no, Int.reduceLT, Int.reduceLE, Int.reduceAdd, Int.reduceSub, Int.reduceMul, Int.reduceNeg, Int.reduceToNat, Int.reduceEq, Int.reduceNe, Int.reduceTDiv, Int.reduceTMod, implies_true, putL, appN, appX, appC, Eng.Fi, reduceCtorEq, exists_eq_left', exists_eq_left, if_true, if_false, List.replicate, Nat.reduceAdd, Nat.reduceSub, Nat.reduceMul, Nat.reduceLeDiff, Nat.reduceLT, Nat.reduceEqDiff]
          | none =>
            simp only at y1
            refine c9.fok (by simp only [free_Hs, subs, sub1, free_Se, free_Sps]) (Cor.run (addC_good (g_Copy 5) (addC_good g_FL (addC_good g_IsDark (addC_good g_rDirectionErr (addC_good g_IsReserved (addC_good g_Within (addC_good g_rStepsErr (addC_good g_rHeadErr (addC_good g_Compiled (addC_good g_CopyHead (addC_good g_Few (addC_good g_few (addC_good g_awake (noC_good _)))))))))))))) (noHx_good _) hm ?_)
            simp +contextual -implicitDefEqProofs (maxSteps := 2000000) only [bg_eq, a9, nz0, x_awake, x_few, yh, yf, yc, x_FL1, x_FL0, y1, y2, y3, y4, y5, h8, c1, c2, g1, wl, x_Within, free_St, List.length_map, not_true_eq_false, not_false_eq_true, ne_eq, ruB, rh_no, Int.reduceLT, Int.reduceLE, Int.reduceAdd, Int.reduceSub, Int.reduceMul, Int.reduceNeg, Int.reduceToNat, Int.reduceEq, Int.reduceNe, Int.reduceTDiv, Int.reduceTMod, implies_true, putL, appN, appX, appC, Eng.Fi, reduceCtorEq, exists_eq_left', exists_eq_left, if_true, if_false, List.replicate, Nat.reduceAdd, Nat.reduceSub, Nat.reduceMul, Nat.reduceLeDiff, Nat.reduceLT, Nat.reduceEqDiff]
            refine Cor.lp (addC_good (g_Copy 5) (addC_good g_FL (addC_good g_IsDark (addC_good g_rDirectionErr (addC_good g_IsReserved (addC_good g_Within (addC_good g_rStepsErr (addC_good g_rHeadErr (addC_good g_Compiled (addC_good g_CopyHead (addC_good g_Few (addC_good g_few (addC_good g_awake (noC_good _)))))))))))))) (noHx_good _) hm (S9n h ss none) (fun p => (p.1 ≤ ss.length ∧ drR p.2) ∧ (p.1 ≤ drkN ss none → none = flS h p.1 p.2 (ss.drop p.1))) (fun p => ss.length - p.1) (a := (0, h.home)) ⟨⟨Nat.zero_le _, hz1⟩, fun _ => hfl.symm⟩ (Wkn.to ⟨0, [(0, 0), (8, 1)], [], 2, [2, 8, 14, 17, 18]⟩ rfl rfl (by simp [Wk.st, keepT, memN, Wk.fate, Wk.fate0, assoc, getE, Wk.hp, ABlk.sub, sub1, subs, S9n, drkN, free_Se, free_St])) ?_
            rintro f ⟨k, d⟩ ⟨⟨hk', hd⟩, hfk⟩ go
            simp only at hk' hd hfk
            rcases Nat.lt_or_ge k ss.length with hlt | hlt
            · have e1 : decide ((k : Int) < (ss.length : Int)) = true := lt_t hlt
              have e2 : (ss.map eSt)[k]? = some (eSt ss[k]) := get_e eSt ss hlt
              have e3 : IntKind.wrap .i64 ((k : Int) + 1) = ((k + 1 : Nat) : Int) := suc_w (by omega)
              have hs := r2.2 ss[k] (by simp)
              rw [List.drop_eq_getElem_cons hlt, flS] at hfk
              generalize ss[k] = s at *
              have zs : drE ⟨s.az, s.el⟩ = 0 := unl_t 2 hs.1
              have ys := x_rDirectionErr s.az s.el
              rw [zs] at ys
              have yk : cf_IsDark [eHd h, eDr d, .agg [I s.az, I s.el]] = some (dkV h d (stD s)) := x_IsDark h d (stD s) (by simp only [hl'])
              have zd : drE d = 0 := unl_t 2 hd
              have hme : mvE h d (stD s) = 0 := mvE_ok9 c2 zd zs
              rw [dkV, if_pos hme] at yk
              cases hx9 : litL h d (stD s) with
              | some y9 =>
                rw [hx9] at yk hfk
                simp only at hfk
                have q1 : ((k : Int) < (drkN ss none : Nat)) = False := by
                  simp only [eq_iff_iff, iff_false]
                  intro hlt9
                  have := hfk (by omega)
                  rw [this] at hlt9
                  simp only [drkN] at hlt9; omega
                have q2 : k + 1 ≤ drkN ss none → none = flS h (k + 1) (stD s) (ss.drop (k + 1)) := fun hle => absurd (show (k : Int) < (drkN ss none : Nat) by omega) (by rw [q1]; exact fun h => h)
                simp only [Option.isNone_some] at yk
                by_cases q4 : (k : Int) = (drkN ss none : Nat)
                · have q4 := eq_true q4
                  simp +contextual -implicitDefEqProofs (maxSteps := 2000000) only [S9n, e1, e2, e3, ys, yh, yk, q1, q4, List.length_map, not_true_eq_false, not_false_eq_true, ne_eq, ruB, rh_no, Int.reduceLT, Int.reduceLE, Int.reduceAdd, Int.reduceSub, Int.reduceMul, Int.reduceNeg, Int.reduceToNat, Int.reduceEq, Int.reduceNe, Int.reduceTDiv, Int.reduceTMod, implies_true, putL, appN, appX, appC, Eng.Fi, reduceCtorEq, exists_eq_left', exists_eq_left, if_true, if_false, List.replicate, Nat.reduceAdd, Nat.reduceSub, Nat.reduceMul, Nat.reduceLeDiff, Nat.reduceLT, Nat.reduceEqDiff]
                  exact go _ (k + 1, stD s) ⟨⟨hlt, hs.1⟩, q2⟩ (by simp only; omega) (Wkn.to ⟨0, [(0, 0), (1, 1)], [], 2, [2, 8, 14, 17, 18]⟩ rfl rfl (by simp [Wk.st, keepT, memN, Wk.fate, Wk.fate0, assoc, getE, Wk.hp, ABlk.sub, sub1, subs, S9n, stD, free_Se, free_St]))
                · simp +contextual -implicitDefEqProofs (maxSteps := 2000000) only [S9n, e1, e2, e3, ys, yh, yk, q1, q4, List.length_map, not_true_eq_false, not_false_eq_true, ne_eq, ruB, rh_no, Int.reduceLT, Int.reduceLE, Int.reduceAdd, Int.reduceSub, Int.reduceMul, Int.reduceNeg, Int.reduceToNat, Int.reduceEq, Int.reduceNe, Int.reduceTDiv, Int.reduceTMod, implies_true, putL, appN, appX, appC, Eng.Fi, reduceCtorEq, exists_eq_left', exists_eq_left, if_true, if_false, List.replicate, Nat.reduceAdd, Nat.reduceSub, Nat.reduceMul, Nat.reduceLeDiff, Nat.reduceLT, Nat.reduceEqDiff]
                  exact go _ (k + 1, stD s) ⟨⟨hlt, hs.1⟩, q2⟩ (by simp only; omega) (Wkn.to ⟨0, [(0, 0), (1, 1)], [], 2, [2, 8, 14, 17, 18]⟩ rfl rfl (by simp [Wk.st, keepT, memN, Wk.fate, Wk.fate0, assoc, getE, Wk.hp, ABlk.sub, sub1, subs, S9n, stD, free_Se, free_St]))
              | none =>
                rw [hx9] at yk hfk
                simp only at hfk
                have q1 : ((k : Int) = (drkN ss none : Nat)) = False := by
                  simp only [eq_iff_iff, iff_false]
                  intro heq
                  have h9 := hfk (by omega)
                  cases hz9 : flS h (k + 1) (stD s) (ss.drop (k + 1)) with
                  | none =>
                    rw [hz9] at h9
                    rw [h9] at heq
                    simp only [drkN] at heq; omega
                  | some q9 =>
                    obtain ⟨i9, x9⟩ := q9
                    have := (flS_ge hz9).1
                    rw [hz9] at h9
                    rw [h9] at heq
                    simp only [drkN] at heq; omega
                have q2 : k + 1 ≤ drkN ss none → none = flS h (k + 1) (stD s) (ss.drop (k + 1)) := fun hle => hfk (by omega)
                simp only [Option.isNone_none] at yk
                by_cases q3 : (k : Int) < (drkN ss none : Nat)
                · simp +contextual -implicitDefEqProofs (maxSteps := 2000000) only [S9n, e1, e2, e3, ys, yh, yk, q1, q3, List.length_map, not_true_eq_false, not_false_eq_true, ne_eq, ruB, rh_no, Int.reduceLT, Int.reduceLE, Int.reduceAdd, Int.reduceSub, Int.reduceMul, Int.reduceNeg, Int.reduceToNat, Int.reduceEq, Int.reduceNe, Int.reduceTDiv, Int.reduceTMod, implies_true, putL, appN, appX, appC, Eng.Fi, reduceCtorEq, exists_eq_left', exists_eq_left, if_true, if_false, List.replicate, Nat.reduceAdd, Nat.reduceSub, Nat.reduceMul, Nat.reduceLeDiff, Nat.reduceLT, Nat.reduceEqDiff]
                  exact go _ (k + 1, stD s) ⟨⟨hlt, hs.1⟩, q2⟩ (by simp only; omega) (Wkn.to ⟨0, [(0, 0), (1, 1)], [], 2, [2, 8, 14, 17, 18]⟩ rfl rfl (by simp [Wk.st, keepT, memN, Wk.fate, Wk.fate0, assoc, getE, Wk.hp, ABlk.sub, sub1, subs, S9n, stD, free_Se, free_St]))
                · simp only [drkN] at q3; omega
            · have e1 : decide ((k : Int) < (ss.length : Int)) = false := lt_f hlt
              simp +contextual -implicitDefEqProofs (maxSteps := 2000000) only [S9n, e1, List.length_map, ruB, rh_no, Int.reduceLT, Int.reduceLE, Int.reduceAdd, Int.reduceSub, Int.reduceMul, Int.reduceNeg, Int.reduceToNat, Int.reduceEq, Int.reduceNe, Int.reduceTDiv, Int.reduceTMod, implies_true, putL, appN, appX, appC, Eng.Fi, reduceCtorEq, exists_eq_left', exists_eq_left, if_true, if_false, List.replicate, Nat.reduceAdd, Nat.reduceSub, Nat.reduceMul, Nat.reduceLeDiff, Nat.reduceLT, Nat.reduceEqDiff]
        · refine c9.fok (by simp only [free_Hs, subs, sub1, free_Se, free_Sps]) (Cor.run (addC_good g_rStepsErr (addC_good g_rHeadErr (addC_good g_Few (addC_good g_few (addC_good g_awake (noC_good _)))))) (noHx_good _) hm ?_)
          simp +contextual -implicitDefEqProofs (maxSteps := 2000000) only [bg_eq, a9, nz0, x_awake, x_few, yf, y4, y5, h8, c1, c2, not_true_eq_false, not_false_eq_true, ne_eq, ruB, rh_no, Int.reduceLT, Int.reduceLE, Int.reduceAdd, Int.reduceSub, Int.reduceMul, Int.reduceNeg, Int.reduceToNat, Int.reduceEq, Int.reduceNe, Int.reduceTDiv, Int.reduceTMod, implies_true, putL, appN, appX, appC, Eng.Fi, reduceCtorEq, exists_eq_left', exists_eq_left, if_true, if_false, List.replicate, Nat.reduceAdd, Nat.reduceSub, Nat.reduceMul, Nat.reduceLeDiff, Nat.reduceLT, Nat.reduceEqDiff]
      · refine c9.fok (by simp only [free_Hs, subs, sub1, free_Se, free_Sps]) (Cor.run (addC_good g_rStepsErr (addC_good g_rHeadErr (addC_good g_Few (addC_good g_few (addC_good g_awake (noC_good _)))))) (noHx_good _) hm ?_)
        simp +contextual -implicitDefEqProofs (maxSteps := 2000000) only [bg_eq, a9, nz0, x_awake, x_few, yf, y4, h8, c2, not_true_eq_false, not_false_eq_true, ne_eq, ruB, rh_no, Int.reduceLT, Int.reduceLE, Int.reduceAdd, Int.reduceSub, Int.reduceMul, Int.reduceNeg, Int.reduceToNat, Int.reduceEq, Int.reduceNe, Int.reduceTDiv, Int.reduceTMod, implies_true, putL, appN, appX, appC, Eng.Fi, reduceCtorEq, exists_eq_left', exists_eq_left, if_true, if_false, List.replicate, Nat.reduceAdd, Nat.reduceSub, Nat.reduceMul, Nat.reduceLeDiff, Nat.reduceLT, Nat.reduceEqDiff]
    · rw [Bool.eq_false_iff.2 hf] at yf
      refine c9.fok (by simp only [free_Hs, subs, sub1, free_Se, free_Sps]) (Cor.run (addC_good g_rStepsErr (addC_good g_rHeadErr (addC_good g_Few (addC_good g_few (addC_good g_awake (noC_good _)))))) (noHx_good _) hm ?_)
      simp +contextual -implicitDefEqProofs (maxSteps := 2000000) only [bg_eq, a9, nz0, x_awake, x_few, yf, h8, not_true_eq_false, not_false_eq_true, ne_eq, ruB, rh_no, Int.reduceLT, Int.reduceLE, Int.reduceAdd, Int.reduceSub, Int.reduceMul, Int.reduceNeg, Int.reduceToNat, Int.reduceEq, Int.reduceNe, Int.reduceTDiv, Int.reduceTMod, implies_true, putL, appN, appX, appC, Eng.Fi, reduceCtorEq, exists_eq_left', exists_eq_left, if_true, if_false, List.replicate, Nat.reduceAdd, Nat.reduceSub, Nat.reduceMul, Nat.reduceLeDiff, Nat.reduceLT, Nat.reduceEqDiff]
  · refine c9.fok (by simp only [free_Hs, subs, sub1, free_Se, free_Sps]) (Cor.run (addC_good g_rStepsErr (addC_good g_rHeadErr (addC_good g_Few (addC_good g_few (addC_good g_awake (noC_good _)))))) (noHx_good _) hm ?_)
    simp +contextual -implicitDefEqProofs (maxSteps := 2000000) only [bg_eq, a9, nz0, x_awake, x_few, h8, not_true_eq_false, not_false_eq_true, ne_eq, ruB, rh_no, Int.reduceLT, Int.reduceLE, Int.reduceAdd, Int.reduceSub, Int.reduceMul, Int.reduceNeg, Int.reduceToNat, Int.reduceEq, Int.reduceNe, Int.reduceTDiv, Int.reduceTMod, implies_true, putL, appN, appX, appC, Eng.Fi, reduceCtorEq, exists_eq_left', exists_eq_left, if_true, if_false, List.replicate, Nat.reduceAdd, Nat.reduceSub, Nat.reduceMul, Nat.reduceLeDiff, Nat.reduceLT, Nat.reduceEqDiff]
theorem law9 (n0 : Nat) (u0 : AV) (a0 : ArG P n0 42 u0) (n1 : Nat) (u1 : AV) (a1 : ArG P n1 22 u1) : FOk P 9 [u0, u1] (.bool true) := by
  obtain ⟨h, rfl, _⟩ := arHead a0
  obtain ⟨l, rfl⟩ := arSteps a1
  exact k_ScanNeverLit h l
end Sc
