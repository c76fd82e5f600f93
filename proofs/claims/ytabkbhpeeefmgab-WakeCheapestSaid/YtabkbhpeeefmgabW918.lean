import Derived.Test.YtabkbhpeeefmgabEngS9
import Derived.Test.YtabkbhpeeefmgabW917
import Derived.Test.YtabkbhpeeefmgabEngSH
open Go Go.Proofs Eng
set_option maxRecDepth 100000
set_option linter.unusedSimpArgs false
set_option linter.unusedVariables false
def a22 : AC := .seq (.ops false [] [⟨some 2, .alloc 25 3 [.agg [.nilslice, .nilslice, .nilslice]], [], none⟩, ⟨some 3, .p (.mov), [.c (.int .i64 0)], none⟩]) (.seq (.ops false [] [⟨some 18, .p (.mov), [.t 0], none⟩, ⟨some 19, .call 42, [.t 18], none⟩, ⟨some 17, .p (.mov), [.t 19], none⟩, ⟨some 20, .p (.ext 0), [.t 17], none⟩, ⟨some 21, .p (.ext 1), [.t 17], none⟩, ⟨some 4, .p (.mov), [.t 20], none⟩, ⟨some 5, .p (.mov), [.t 21], none⟩]) (.seq (.seq (.ops false [] [⟨some 22, .p (.mov), [.t 5], none⟩, ⟨some 23, .p (.binI .neq), [.t 22, .c (.int .i64 0)], none⟩]) (.cond (.t 23) (.seq (.ops false [] [⟨some 24, .p (.build [.nilslice, .nilslice, .nilslice] []), [], none⟩, ⟨some 25, .p (.mov), [.t 5], none⟩, ⟨none, .store 3 true, [.t 2, .t 24], none⟩, ⟨some 3, .p (.mov), [.t 25], none⟩]) (.ret)) (.skip))) (.seq (.ops false [] [⟨some 27, .p (.mov), [.t 4], none⟩, ⟨some 28, .call 59, [.t 27], none⟩, ⟨some 26, .p (.mov), [.t 28], none⟩, ⟨some 29, .p (.ext 0), [.t 26], none⟩, ⟨some 30, .p (.ext 1), [.t 26], none⟩, ⟨some 6, .p (.mov), [.t 29], none⟩, ⟨some 7, .p (.mov), [.t 30], none⟩]) (.seq (.ops true [(2, 5), (2, 7), (5, 7)] [⟨some 31, .p (.mov), [.t 6], none⟩, ⟨some 32, .p (.iaddrS 1), [.t 31, .c (.int .i64 0)], none⟩, ⟨some 33, .load 1 false, [.t 32], none⟩, ⟨some 34, .p (.mov), [.t 4], none⟩, ⟨some 35, .p (.lenS), [.t 34], none⟩, ⟨some 36, .mks 3 8 (.int .i64 0), [.t 35, .t 35], none⟩, ⟨some 37, .p (.build [.nilslice, .nilslice, .nilslice] [(0, 1), (2, 1)]), [.t 33, .t 36], none⟩, ⟨some 8, .alloc 25 3 [.agg [.nilslice, .nilslice, .nilslice]], [], none⟩, ⟨none, .store 3 true, [.t 8, .t 37], none⟩]) (.seq (.seq (.ops false [] [⟨some 38, .p (.mov), [.t 4], none⟩, ⟨some 39, .p (.lenS), [.t 38], none⟩, ⟨some 40, .p (.mov), [.c (.int .i64 0)], none⟩]) (.block 0 (.loop (.seq (.ops false [] [⟨some 41, .p (.binI .lss), [.t 40, .t 39], none⟩]) (.seq (.cond (.t 41) (.skip) (.exit 0)) (.seq (.block 1 (.seq (.ops false [] [⟨some 42, .p (.mov), [.t 4], none⟩, ⟨some 43, .p (.lenS), [.t 42], none⟩, ⟨some 44, .p (.mov), [.c (.int .i64 0)], none⟩]) (.block 2 (.loop (.seq (.ops false [] [⟨some 45, .p (.binI .lss), [.t 44, .t 43], none⟩]) (.seq (.cond (.t 45) (.skip) (.exit 2)) (.seq (.block 3 (.seq (.ops false [] [⟨some 46, .p (.mov), [.t 44], none⟩, ⟨some 47, .p (.iaddrS 1), [.t 42, .t 44], none⟩, ⟨some 48, .load 1 false, [.t 47], none⟩, ⟨some 9, .p (.mov), [.t 46], none⟩, ⟨some 10, .p (.mov), [.t 48], none⟩]) (.seq (.ops false [] [⟨some 49, .p (.faddr 0), [.t 8], none⟩, ⟨some 50, .load 1 false, [.t 49], none⟩, ⟨some 51, .p (.mov), [.t 9], none⟩, ⟨some 52, .p (.iaddrS 1), [.t 50, .t 51], none⟩, ⟨some 53, .load 1 false, [.t 52], none⟩, ⟨some 11, .p (.mov), [.t 53], none⟩]) (.seq (.ops false [] [⟨some 54, .p (.mov), [.t 10], none⟩, ⟨some 55, .p (.lenS), [.t 54], none⟩, ⟨some 56, .p (.mov), [.c (.int .i64 0)], none⟩]) (.block 4 (.loop (.seq (.ops false [] [⟨some 57, .p (.binI .lss), [.t 56, .t 55], none⟩]) (.seq (.cond (.t 57) (.skip) (.exit 4)) (.seq (.block 5 (.seq (.ops false [] [⟨some 58, .p (.mov), [.t 56], none⟩, ⟨some 59, .p (.iaddrS 1), [.t 54, .t 56], none⟩, ⟨some 60, .load 1 false, [.t 59], none⟩, ⟨some 12, .p (.mov), [.t 58], none⟩, ⟨some 13, .p (.mov), [.t 60], none⟩]) (.ops true [] [⟨some 61, .p (.faddr 2), [.t 8], none⟩, ⟨some 62, .load 1 false, [.t 61], none⟩, ⟨some 63, .p (.mov), [.t 12], none⟩, ⟨some 64, .p (.faddr 2), [.t 8], none⟩, ⟨some 65, .load 1 false, [.t 64], none⟩, ⟨some 66, .p (.mov), [.t 12], none⟩, ⟨some 67, .p (.iaddrS 1), [.t 65, .t 66], none⟩, ⟨some 68, .load 1 false, [.t 67], none⟩, ⟨some 69, .p (.faddr 2), [.t 8], none⟩, ⟨some 70, .load 1 false, [.t 69], none⟩, ⟨some 71, .p (.mov), [.t 11], none⟩, ⟨some 72, .p (.iaddrS 1), [.t 70, .t 71], none⟩, ⟨some 73, .load 1 false, [.t 72], none⟩, ⟨some 74, .p (.mov), [.t 13], none⟩, ⟨some 75, .p (.binI .add), [.t 73, .t 74], none⟩, ⟨some 76, .p (.mov), [.t 10], none⟩, ⟨some 77, .p (.mov), [.t 11], none⟩, ⟨some 78, .p (.iaddrS 1), [.t 76, .t 77], none⟩, ⟨some 79, .load 1 false, [.t 78], none⟩, ⟨some 80, .p (.binI .sub), [.t 75, .t 79], none⟩, ⟨some 81, .p (.mm false), [.t 68, .t 80], none⟩, ⟨some 82, .p (.iaddrS 1), [.t 62, .t 63], none⟩, ⟨none, .store 1 false, [.t 82, .t 81], none⟩]))) (.ops false [] [⟨some 83, .p (.binI .add), [.t 56, .c (.int .i64 1)], none⟩, ⟨some 56, .p (.mov), [.t 83], none⟩])))))))))) (.ops false [] [⟨some 84, .p (.binI .add), [.t 44, .c (.int .i64 1)], none⟩, ⟨some 44, .p (.mov), [.t 84], none⟩])))))))) (.ops false [] [⟨some 85, .p (.binI .add), [.t 40, .c (.int .i64 1)], none⟩, ⟨some 40, .p (.mov), [.t 85], none⟩]))))))) (.seq (.seq (.ops false [] [⟨some 86, .p (.mov), [.t 4], none⟩, ⟨some 87, .p (.lenS), [.t 86], none⟩, ⟨some 88, .p (.mov), [.c (.int .i64 0)], none⟩]) (.block 6 (.loop (.seq (.ops false [] [⟨some 89, .p (.binI .lss), [.t 88, .t 87], none⟩]) (.seq (.cond (.t 89) (.skip) (.exit 6)) (.seq (.block 7 (.seq (.ops false [] [⟨some 90, .p (.mov), [.t 88], none⟩, ⟨some 91, .p (.iaddrS 1), [.t 86, .t 88], none⟩, ⟨some 92, .load 1 false, [.t 91], none⟩, ⟨some 14, .p (.mov), [.t 90], none⟩, ⟨some 15, .p (.mov), [.t 92], none⟩]) (.seq (.ops false [] [⟨some 93, .p (.faddr 0), [.t 8], none⟩, ⟨some 94, .load 1 false, [.t 93], none⟩, ⟨some 95, .p (.mov), [.t 14], none⟩, ⟨some 96, .p (.iaddrS 1), [.t 94, .t 95], none⟩, ⟨some 97, .load 1 false, [.t 96], none⟩, ⟨some 16, .p (.mov), [.t 97], none⟩]) (.ops true [] [⟨some 98, .p (.faddr 1), [.t 8], none⟩, ⟨some 99, .load 1 false, [.t 98], none⟩, ⟨some 100, .p (.mov), [.t 15], none⟩, ⟨some 101, .p (.mov), [.t 16], none⟩, ⟨some 102, .p (.iaddrS 1), [.t 100, .t 101], none⟩, ⟨some 103, .load 1 false, [.t 102], none⟩, ⟨some 104, .p (.faddr 2), [.t 8], none⟩, ⟨some 105, .load 1 false, [.t 104], none⟩, ⟨some 106, .p (.mov), [.t 16], none⟩, ⟨some 107, .p (.iaddrS 1), [.t 105, .t 106], none⟩, ⟨some 108, .load 1 false, [.t 107], none⟩, ⟨some 109, .p (.binI .sub), [.t 103, .t 108], none⟩, ⟨some 110, .fbs 1, [.t 109], none⟩, ⟨some 111, .app 3 1 8, [.t 99, .t 110], none⟩, ⟨some 112, .p (.faddr 1), [.t 8], none⟩, ⟨none, .store 1 false, [.t 112, .t 111], none⟩])))) (.ops false [] [⟨some 113, .p (.binI .add), [.t 88, .c (.int .i64 1)], none⟩, ⟨some 88, .p (.mov), [.t 113], none⟩]))))))) (.seq (.ops false [] [⟨some 114, .load 3 true, [.t 8], none⟩, ⟨none, .store 3 true, [.t 2, .t 114], none⟩, ⟨some 3, .p (.mov), [.c (.int .i64 0)], none⟩]) (.ret))))))))
theorem c22 : FnC Try.prog 22 115 a22 [.cell 2 3 true, .tmp 3] := ⟨Try.call22, _, _, Try.func22, rfl, by kernel_rfl, by kernel_rfl, rfl⟩
namespace Wa
theorem f_mks (dst : Option Nat) (e b : Nat) (z : AV) (x y : Opd) (gd : Option (Nat × Bool)) (tm : List AV) (hp : List HEnt) (nx : Nat) : fpO ⟨dst, .mks e b z, [x, y], gd⟩ ⟨tm, hp, nx⟩ = ([], wA (mkV nx e b z (evO tm x) (evO tm y))) := by
  simp only [fpO, tids, AOp.isEff, AOp.reads, if_true, evs, gids, mkV_eq]
  cases mkV nx e b z (evO tm x) (evO tm y) <;> rfl
def rowV (m : List L) (p C : L) (k : Nat) : L := (List.range k).map fun i => cell m i (pK p i) - gk (pN p i) C
theorem rowV_s (m : List L) (p C : L) (k : Nat) : rowV m p C (k + 1) = rowV m p C k ++ [cell m k (pK p k) - gk (pN p k) C] := by
  unfold rowV; rw [List.range_succ, List.map_append]; rfl
theorem rowV_len (m : List L) (p C : L) (k : Nat) : (rowV m p C k).length = k := by simp [rowV]
def asV (m : List L) : L := (chV m).1.headD []
def poV (m : List L) : Wp := ⟨asV m, rowV m (asV m) (colV m (asV m)) m.length, colV m (asV m)⟩
theorem asV_in (m : List L) : asV m ∈ (chV m).1 := by
  have := ch_ne (m := m)
  unfold asV
  cases h : (chV m).1 with
  | nil => exact absurd h this
  | cons a l => simp
theorem asV_asg (m : List L) : asg m (asV m) ∧ cst m (asV m) = (chV m).2 := by
  have h := asV_in m
  rw [chV_fil] at h
  obtain ⟨h1, h2⟩ := List.mem_filter.1 h
  exact ⟨asg_of h1, by simpa using h2⟩
theorem chV_le (m : List L) : ∀ q ∈ permG m.length m.length [], (chV m).2 ≤ cst m q := by
  obtain ⟨y, hy⟩ := cp_some m (permG m.length m.length []) none (.inl (perm_ne _))
  have h := cp_inv m (permG m.length m.length []) [] none rfl
  rw [hy] at h
  obtain ⟨l, c⟩ := y
  have hy' : chO m = some (l, c) := hy
  rw [chV, hy']
  exact h.2
theorem asV_sim (m : List L) : simC m.length (wK m (asV m)) := sim_of (asV_asg m).1 fun q hq => by
  rw [(asV_asg m).2]; exact chV_le m q hq
def S_pa (m : List L) (p : L) (q : Nat × L) : AState := ⟨[.any, .any, .ptr 0 3 0 0, .any, .vs (m.map eL), .any, .any, .any, .ptr 2 3 0 0, .any, .any, .any, .any, .any, .any, .any, .any, .any, .any, .any, .any, .any, .any, .any, .any, .any, .any, .any, .any, .any, .any, .any, .any, .any, .any, .any, .any, .any, .any, I m.length, I q.1, .any, .any, .any, .any, .any, .any, .any, .any, .any, .any, .any, .any, .any, .any, .any, .any, .any, .any, .any, .any, .any, .any, .any, .any, .any, .any, .any, .any, .any, .any, .any, .any, .any, .any, .any, .any, .any, .any, .any, .any, .any, .any, .any, .any, .any, .any, .any, .any, .any, .any, .any, .any, .any, .any, .any, .any, .any, .any, .any, .any, .any, .any, .any, .any, .any, .any, .any, .any, .any, .any, .any, .any, .any, .any], [⟨2, 2, .rows 25 3 [.agg [.vs (p.map eI), .nilslice, .slice 1 1 0 m.length]]⟩, ⟨1, 1, .rows 3 1 (q.2.map eI)⟩, ⟨0, 0, .rows 25 3 [.agg [.nilslice, .nilslice, .nilslice]]⟩], 4⟩
def S_pb (m : List L) (p : L) (k : Nat) (q : Nat × L) : AState := ⟨[.any, .any, .ptr 0 3 0 0, .any, .vs (m.map eL), .any, .any, .any, .ptr 2 3 0 0, .any, .any, .any, .any, .any, .any, .any, .any, .any, .any, .any, .any, .any, .any, .any, .any, .any, .any, .any, .any, .any, .any, .any, .any, .any, .any, .any, .any, .any, .any, I m.length, I k, .any, .vs (m.map eL), I m.length, I q.1, .any, .any, .any, .any, .any, .any, .any, .any, .any, .any, .any, .any, .any, .any, .any, .any, .any, .any, .any, .any, .any, .any, .any, .any, .any, .any, .any, .any, .any, .any, .any, .any, .any, .any, .any, .any, .any, .any, .any, .any, .any, .any, .any, .any, .any, .any, .any, .any, .any, .any, .any, .any, .any, .any, .any, .any, .any, .any, .any, .any, .any, .any, .any, .any, .any, .any, .any, .any, .any, .any], [⟨2, 2, .rows 25 3 [.agg [.vs (p.map eI), .nilslice, .slice 1 1 0 m.length]]⟩, ⟨1, 1, .rows 3 1 (q.2.map eI)⟩, ⟨0, 0, .rows 25 3 [.agg [.nilslice, .nilslice, .nilslice]]⟩], 4⟩
def S_pc (m : List L) (p : L) (k i : Nat) (row : L) (q : Nat × L) : AState := ⟨[.any, .any, .ptr 0 3 0 0, .any, .vs (m.map eL), .any, .any, .any, .ptr 2 3 0 0, I i, .vs (row.map eI), I (pK p i), .any, .any, .any, .any, .any, .any, .any, .any, .any, .any, .any, .any, .any, .any, .any, .any, .any, .any, .any, .any, .any, .any, .any, .any, .any, .any, .any, I m.length, I k, .any, .vs (m.map eL), I m.length, I i, .any, .any, .any, .any, .any, .any, .any, .any, .any, .vs (row.map eI), I m.length, I q.1, .any, .any, .any, .any, .any, .any, .any, .any, .any, .any, .any, .any, .any, .any, .any, .any, .any, .any, .any, .any, .any, .any, .any, .any, .any, .any, .any, .any, .any, .any, .any, .any, .any, .any, .any, .any, .any, .any, .any, .any, .any, .any, .any, .any, .any, .any, .any, .any, .any, .any, .any, .any, .any, .any, .any, .any, .any, .any], [⟨2, 2, .rows 25 3 [.agg [.vs (p.map eI), .nilslice, .slice 1 1 0 m.length]]⟩, ⟨1, 1, .rows 3 1 (q.2.map eI)⟩, ⟨0, 0, .rows 25 3 [.agg [.nilslice, .nilslice, .nilslice]]⟩], 4⟩
def S_pd (m : List L) (p C : L) : AState := ⟨[.any, .any, .ptr 0 3 0 0, .any, .vs (m.map eL), .any, .any, .any, .ptr 2 3 0 0, .any, .any, .any, .any, .any, .any, .any, .any, .any, .any, .any, .any, .any, .any, .any, .any, .any, .any, .any, .any, .any, .any, .any, .any, .any, .any, .any, .any, .any, .any, .any, .any, .any, .any, .any, .any, .any, .any, .any, .any, .any, .any, .any, .any, .any, .any, .any, .any, .any, .any, .any, .any, .any, .any, .any, .any, .any, .any, .any, .any, .any, .any, .any, .any, .any, .any, .any, .any, .any, .any, .any, .any, .any, .any, .any, .any, .any, .any, .any, .any, .any, .any, .any, .any, .any, .any, .any, .any, .any, .any, .any, .any, .any, .any, .any, .any, .any, .any, .any, .any, .any, .any, .any, .any, .any, .any], [⟨2, 2, .rows 25 3 [.agg [.vs (p.map eI), .nilslice, .vs (C.map eI)]]⟩, ⟨0, 0, .rows 25 3 [.agg [.nilslice, .nilslice, .nilslice]]⟩], 4⟩
def S_pe (m : List L) (p C : L) (k : Nat) (rows : L) : AState := ⟨[.any, .any, .ptr 0 3 0 0, .any, .any, .any, .any, .any, .ptr 2 3 0 0, .any, .any, .any, .any, .any, .any, .any, .any, .any, .any, .any, .any, .any, .any, .any, .any, .any, .any, .any, .any, .any, .any, .any, .any, .any, .any, .any, .any, .any, .any, .any, .any, .any, .any, .any, .any, .any, .any, .any, .any, .any, .any, .any, .any, .any, .any, .any, .any, .any, .any, .any, .any, .any, .any, .any, .any, .any, .any, .any, .any, .any, .any, .any, .any, .any, .any, .any, .any, .any, .any, .any, .any, .any, .any, .any, .any, .any, .vs (m.map eL), I m.length, I k, .any, .any, .any, .any, .any, .any, .any, .any, .any, .any, .any, .any, .any, .any, .any, .any, .any, .any, .any, .any, .any, .any, .any, .any, .any, .any], gH 1 3 1 (rows.map eI) ++ [⟨2, 2, .rows 25 3 [.agg [.vs (p.map eI), gA 1 1 (rows.map eI), .vs (C.map eI)]]⟩, ⟨0, 0, .rows 25 3 [.agg [.nilslice, .nilslice, .nilslice]]⟩], 4⟩
def S_pf (p C : L) (rows : L) : AState := ⟨[.any, .any, .ptr 0 3 0 0, .any, .any, .any, .any, .any, .ptr 2 3 0 0, .any, .any, .any, .any, .any, .any, .any, .any, .any, .any, .any, .any, .any, .any, .any, .any, .any, .any, .any, .any, .any, .any, .any, .any, .any, .any, .any, .any, .any, .any, .any, .any, .any, .any, .any, .any, .any, .any, .any, .any, .any, .any, .any, .any, .any, .any, .any, .any, .any, .any, .any, .any, .any, .any, .any, .any, .any, .any, .any, .any, .any, .any, .any, .any, .any, .any, .any, .any, .any, .any, .any, .any, .any, .any, .any, .any, .any, .any, .any, .any, .any, .any, .any, .any, .any, .any, .any, .any, .any, .any, .any, .any, .any, .any, .any, .any, .any, .any, .any, .any, .any, .any, .any, .any, .any, .any], [⟨2, 2, .rows 25 3 [.agg [.vs (p.map eI), .vs (rows.map eI), .vs (C.map eI)]]⟩, ⟨0, 0, .rows 25 3 [.agg [.nilslice, .nilslice, .nilslice]]⟩], 4⟩
set_option maxHeartbeats 2000000 in
theorem k_PotentialsOf (m : List L) (h0 : (cmV m).2 = 0) : FOk P 22 [.vs (m.map eL)] (.tup [eWp (poV m), I 0]) := by
  have hma := cmV_z h0
  have hn := hma.n
  have hml : m.length ≤ 6 := hn.2
  have y1 := x_open m (by simp only [eq_iff_iff, iff_true]; exact ⟨by omega, fun r hr => by have := (hma.r r hr).1; omega⟩)
  rw [h0] at y1
  have y2 := x_cheapest m h0
  have ha := (asV_asg m).1
  have hs := asV_sim m
  have e0 : ((chV m).1.map eL)[0]? = some (eL (asV m)) := by
    have := ch_ne (m := m)
    unfold asV
    cases h : (chV m).1 with
    | nil => exact absurd h this
    | cons a l => rfl
  unfold poV
  generalize asV m = p at *
  generalize chV m = q at *
  obtain ⟨b, c⟩ := q
  simp only at y2 e0
  refine c22.fok (y := YH P noHx) (by simp only [subs, sub1, free_I, free_L]) ?_
  rw [bg_eq]
  refine Cor.seq (Cor.run (addC_good g_cheapest (addC_good g_open (noC_good _))) (noHx_good _) hm ?_)
  simp +contextual -implicitDefEqProofs (maxSteps := 2000000) only [eThen_normal, ruB, rh_no, Int.reduceLT, Int.reduceLE, Int.reduceAdd, Int.reduceSub, Int.reduceMul, Int.reduceNeg, Int.reduceToNat, Int.reduceEq, Int.reduceNe, Int.reduceTDiv, Int.reduceTMod, implies_true, putL, appN, appX, appC, Eng.Fi, reduceCtorEq, exists_eq_left', exists_eq_left, if_true, if_false, List.replicate, Nat.reduceAdd, Nat.reduceSub, Nat.reduceMul, Nat.reduceLeDiff, Nat.reduceLT, Nat.reduceEqDiff]
  refine Cor.seq (Cor.run (addC_good g_cheapest (addC_good g_open (noC_good _))) (noHx_good _) hm ?_)
  simp +contextual -implicitDefEqProofs (maxSteps := 2000000) only [y1, eThen_normal, ruB, rh_no, Int.reduceLT, Int.reduceLE, Int.reduceAdd, Int.reduceSub, Int.reduceMul, Int.reduceNeg, Int.reduceToNat, Int.reduceEq, Int.reduceNe, Int.reduceTDiv, Int.reduceTMod, implies_true, putL, appN, appX, appC, Eng.Fi, reduceCtorEq, exists_eq_left', exists_eq_left, if_true, if_false, List.replicate, Nat.reduceAdd, Nat.reduceSub, Nat.reduceMul, Nat.reduceLeDiff, Nat.reduceLT, Nat.reduceEqDiff]
  refine Cor.seq (Cor.run (addC_good g_cheapest (addC_good g_open (noC_good _))) (noHx_good _) hm ?_)
  simp +contextual -implicitDefEqProofs (maxSteps := 2000000) only [eThen_normal, not_true_eq_false, ruB, rh_no, Int.reduceLT, Int.reduceLE, Int.reduceAdd, Int.reduceSub, Int.reduceMul, Int.reduceNeg, Int.reduceToNat, Int.reduceEq, Int.reduceNe, Int.reduceTDiv, Int.reduceTMod, implies_true, putL, appN, appX, appC, Eng.Fi, reduceCtorEq, exists_eq_left', exists_eq_left, if_true, if_false, List.replicate, Nat.reduceAdd, Nat.reduceSub, Nat.reduceMul, Nat.reduceLeDiff, Nat.reduceLT, Nat.reduceEqDiff]
  refine Cor.seq (Cor.run (addC_good g_cheapest (addC_good g_open (noC_good _))) (noHx_good _) hm ?_)
  simp +contextual -implicitDefEqProofs (maxSteps := 2000000) only [y2, eThen_normal, ruB, rh_no, Int.reduceLT, Int.reduceLE, Int.reduceAdd, Int.reduceSub, Int.reduceMul, Int.reduceNeg, Int.reduceToNat, Int.reduceEq, Int.reduceNe, Int.reduceTDiv, Int.reduceTMod, implies_true, putL, appN, appX, appC, Eng.Fi, reduceCtorEq, exists_eq_left', exists_eq_left, if_true, if_false, List.replicate, Nat.reduceAdd, Nat.reduceSub, Nat.reduceMul, Nat.reduceLeDiff, Nat.reduceLT, Nat.reduceEqDiff]
  have hmk : ∀ id, mkV id 3 8 (.int .i64 0) (.int .i64 (m.length : Int)) (.int .i64 (m.length : Int)) = some (.slice id 1 0 m.length, .new ⟨id, id, .rows 3 1 ((List.replicate m.length 0).map eI)⟩) := fun id => by
    have := mk_ok (id := id) (e := 3) (b := 8) (z := .int .i64 0) (a := (m.length : Int)) (k := .i64) (k' := .i64) (eq_true (by omega)) (eq_true (by omega)) (by rw [Int.toNat_natCast]; exact mx (by omega)) rfl
    rw [this, Int.toNat_natCast, List.map_replicate]
  refine Cor.seq (Cor.run (addC_good g_cheapest (addC_good g_open (noC_good _))) (noHx_good _) hm ?_)
  simp +contextual -implicitDefEqProofs (maxSteps := 2000000) only [e0, hmk, s_mks1, f_mks, rs_nil, rs_t, rs_f, ag_nils, ag_sl, ag_vs, ag_str, ag_ptr, ag_nilp, ag_vp, ag_fun, List.length_map, Int.natCast_zero, eThen_normal, ruB, rh_no, Int.reduceLT, Int.reduceLE, Int.reduceAdd, Int.reduceSub, Int.reduceMul, Int.reduceNeg, Int.reduceToNat, Int.reduceEq, Int.reduceNe, Int.reduceTDiv, Int.reduceTMod, implies_true, putL, appN, appX, appC, Eng.Fi, reduceCtorEq, exists_eq_left', exists_eq_left, if_true, if_false, List.replicate, Nat.reduceAdd, Nat.reduceSub, Nat.reduceMul, Nat.reduceLeDiff, Nat.reduceLT, Nat.reduceEqDiff]
  refine Cor.seqW (s2 := S_pd m p (colV m p)) ?_ ?_
  · refine Cor.run (noC_good _) (noHx_good _) hm ?_
    simp +contextual -implicitDefEqProofs (maxSteps := 2000000) only [List.length_map, ruB, rh_no, Int.reduceLT, Int.reduceLE, Int.reduceAdd, Int.reduceSub, Int.reduceMul, Int.reduceNeg, Int.reduceToNat, Int.reduceEq, Int.reduceNe, Int.reduceTDiv, Int.reduceTMod, implies_true, putL, appN, appX, appC, Eng.Fi, reduceCtorEq, exists_eq_left', exists_eq_left, if_true, if_false, List.replicate, Nat.reduceAdd, Nat.reduceSub, Nat.reduceMul, Nat.reduceLeDiff, Nat.reduceLT, Nat.reduceEqDiff]
    refine Cor.lp (noC_good _) (noHx_good _) hm (S_pa m p) (fun q => q.1 ≤ m.length ∧ (List.range' q.1 (m.length - q.1)).foldl (rlAll m p) q.2 = colV m p ∧ Iv m p q.1 q.2) (fun q => m.length - q.1) (a := (0, List.replicate m.length 0)) ⟨Nat.zero_le _, rfl, iv_0⟩ (Wkn.keep [2, 4, 8, 39, 40] rfl) ?_
    rintro f ⟨k, C⟩ ⟨hk, hC, hI⟩ go
    simp only at hk hC hI
    rcases Nat.lt_or_ge k m.length with hlt | hge
    · have e1 : ((k : Int) < (m.length : Int)) = True := eq_true (by omega)
      have e3 : IntKind.wrap .i64 ((k : Int) + 1) = ((k + 1 : Nat) : Int) := suc_w (by omega)
      have ek : m.length - k = m.length - (k + 1) + 1 := by omega
      rw [ek, List.range'_succ, List.foldl_cons] at hC
      have hI1 := all_ok ha hI k
      have hgo := fun s' C1 (h1 : C1 = rlAll m p C k) => go s' (k + 1, C1) ⟨hlt, by rw [h1]; exact hC, by rw [h1]; exact hI1⟩ (by simp only; omega)
      generalize hC1 : rlAll m p C k = C1 at *
      clear go hC hI1
      simp +contextual -implicitDefEqProofs (maxSteps := 2000000) only [S_pa, e1, List.length_map, ruB, rh_no, Int.reduceLT, Int.reduceLE, Int.reduceAdd, Int.reduceSub, Int.reduceMul, Int.reduceNeg, Int.reduceToNat, Int.reduceEq, Int.reduceNe, Int.reduceTDiv, Int.reduceTMod, implies_true, putL, appN, appX, appC, Eng.Fi, reduceCtorEq, exists_eq_left', exists_eq_left, if_true, if_false, List.replicate, Nat.reduceAdd, Nat.reduceSub, Nat.reduceMul, Nat.reduceLeDiff, Nat.reduceLT, Nat.reduceEqDiff]
      refine Cor.lp (noC_good _) (noHx_good _) hm (S_pb m p k) (fun q => q.1 ≤ m.length ∧ (List.range' q.1 (m.length - q.1)).foldl (rlRow m p) q.2 = C1 ∧ Iv m p k q.2) (fun q => m.length - q.1) (a := (0, C)) ⟨Nat.zero_le _, hC1, hI⟩ (Wkn.keep [2, 4, 8, 39, 40, 42, 43, 44] rfl) ?_
      rintro f2 ⟨i, D⟩ ⟨hi, hD, hI2⟩ go2
      simp only at hi hD hI2
      rcases Nat.lt_or_ge i m.length with hlt2 | hge2
      · have u1 : ((i : Int) < (m.length : Int)) = True := eq_true (by omega)
        have u3 : IntKind.wrap .i64 ((i : Int) + 1) = ((i + 1 : Nat) : Int) := suc_w (by omega)
        have u2 : (m.map eL)[i]? = some (eL m[i]) := get_e eL m hlt2
        have ei : m.length - i = m.length - (i + 1) + 1 := by omega
        rw [ei, List.range'_succ, List.foldl_cons] at hD
        obtain ⟨hI3, _, _⟩ := row_ok ha hlt2 m.length 0 D hI2 (by omega)
        have hgo2 := fun s' D1 (h1 : D1 = rlRow m p D i) => go2 s' (i + 1, D1) ⟨hlt2, by rw [h1]; exact hD, by rw [h1]; exact hI3⟩ (by simp only; omega)
        generalize hD1 : rlRow m p D i = D1 at *
        clear go2 hD hI3
        have hri := (hma.r m[i] (by simp)).1
        have hcell : ∀ j : Nat, j < m.length → (m[i].map eI)[j]? = some (eI (cell m i (j : Int))) := fun j hj => by
          have hjr : j < m[i].length := by omega
          rw [cell_get hlt2 hjr]; exact get_e eI _ hjr
        obtain ⟨row, hrow⟩ : ∃ row, m[i] = row := ⟨_, rfl⟩
        rw [hrow] at u2 hri hcell
        obtain ⟨hp1, hp2, hp3⟩ := asg_lt ha hlt2
        have u4 : (p.map eI)[i]? = some (eI (pK p i)) := gk_get (by rw [ha.n]; exact hlt2)
        simp +contextual -implicitDefEqProofs (maxSteps := 2000000) only [S_pb, u1, u2, u4, List.length_map, hri, ruB, rh_no, Int.reduceLT, Int.reduceLE, Int.reduceAdd, Int.reduceSub, Int.reduceMul, Int.reduceNeg, Int.reduceToNat, Int.reduceEq, Int.reduceNe, Int.reduceTDiv, Int.reduceTMod, implies_true, putL, appN, appX, appC, Eng.Fi, reduceCtorEq, exists_eq_left', exists_eq_left, if_true, if_false, List.replicate, Nat.reduceAdd, Nat.reduceSub, Nat.reduceMul, Nat.reduceLeDiff, Nat.reduceLT, Nat.reduceEqDiff]
        refine Cor.lp (noC_good _) (noHx_good _) hm (S_pc m p k i row) (fun q => q.1 ≤ m.length ∧ (List.range' q.1 (m.length - q.1)).foldl (rlx m p i) q.2 = D1 ∧ Iv m p k q.2) (fun q => m.length - q.1) (a := (0, D)) ⟨Nat.zero_le _, hD1, hI2⟩ (Wkn.keep [2, 4, 8, 9, 10, 11, 39, 40, 42, 43, 44, 54, 55, 56] rfl) ?_
        rintro f3 ⟨v, B⟩ ⟨hv, hB, hI4⟩ go3
        simp only at hv hB hI4
        rcases Nat.lt_or_ge v m.length with hlt3 | hge3
        · have v1 : ((v : Int) < (m.length : Int)) = True := eq_true (by omega)
          have v3 : IntKind.wrap .i64 ((v : Int) + 1) = ((v + 1 : Nat) : Int) := suc_w (by omega)
          have v0 : (v < m.length) = True := eq_true hlt3
          have v00 : (pN p i < m.length) = True := eq_true hp3
          have v2 := hcell v hlt3
          have v4 := hcell (pN p i) hp3
          have v5 : (B.map eI)[v]? = some (eI (gk v B)) := gk_get (by rw [hI4.len]; exact hlt3)
          have v6 : (B.map eI)[pN p i]? = some (eI (gk (pN p i) B)) := gk_get (by rw [hI4.len]; exact hp3)
          have ev : m.length - v = m.length - (v + 1) + 1 := by omega
          rw [ev, List.range'_succ, List.foldl_cons] at hB
          obtain ⟨hI5, _, _⟩ := rlx_ok ha hI4 hlt2 hlt3
          have b1 := iv_bd hma ha hs hI4 hlt3
          have b2 := iv_bd hma ha hs hI4 hp3
          have b3 := cell_bd hma i (v : Int)
          have b4 := cell_bd hma i (pK p i)
          have hlen := hI4.len
          have hset : (B.map eI).set v (eI (min (gk v B) (gk (pN p i) B + cell m i v - cell m i (pK p i)))) = (rlx m p i B v).map eI := by rw [rlx, List.map_set]
          have w1 : IntKind.wrap .i64 (gk (pN p i) B + cell m i (v : Int)) = gk (pN p i) B + cell m i (v : Int) := wrap64 (by omega) (by omega)
          have w2 : IntKind.wrap .i64 (gk (pN p i) B + cell m i (v : Int) - cell m i (pK p i)) = gk (pN p i) B + cell m i (v : Int) - cell m i (pK p i) := wrap64 (by omega) (by omega)
          have hpk : pK p i = ((pN p i : Nat) : Int) := hp2.symm
          generalize pN p i = o at *
          rw [hpk] at w2 hset
          simp +contextual -implicitDefEqProofs (maxSteps := 2000000) only [S_pc, hpk, v0, v00, v1, v2, v3, v4, v5, v6, w1, w2, List.length_map, s_mks1, mk_ok, s_cpy1, cp_sl, cpyE_some, cpX_some, putA_set, ap_toSet, h_mks, h_cpy, f_cpy, wA_set, e_slcW, sw_ok, rs_nil, rs_t, rs_f, ag_nils, ag_sl, ag_vs, ag_str, ag_ptr, ag_nilp, ag_vp, ag_fun, hlen, ruB, rh_no, Int.reduceLT, Int.reduceLE, Int.reduceAdd, Int.reduceSub, Int.reduceMul, Int.reduceNeg, Int.reduceToNat, Int.reduceEq, Int.reduceNe, Int.reduceTDiv, Int.reduceTMod, implies_true, putL, appN, appX, appC, Eng.Fi, reduceCtorEq, exists_eq_left', exists_eq_left, if_true, if_false, List.replicate, Nat.reduceAdd, Nat.reduceSub, Nat.reduceMul, Nat.reduceLeDiff, Nat.reduceLT, Nat.reduceEqDiff]
          rw [hset]
          exact go3 _ (v + 1, rlx m p i B v) ⟨hlt3, hB, hI5⟩ (by simp only; omega) (Wkn.to ⟨0, [(0, 0), (1, 1), (2, 2)], [], 4, [2, 4, 8, 9, 10, 11, 39, 40, 42, 43, 44, 54, 55, 56]⟩ rfl rfl (by simp [Wk.st, keepT, memN, Wk.fate, Wk.fate0, assoc, getE, Wk.hp, ABlk.sub, sub1, subs, free_I, free_L, S_pc, hpk]))
        · have v1 : ((v : Int) < (m.length : Int)) = False := eq_false (by omega)
          have ev : m.length - v = 0 := by omega
          rw [ev, List.range'_zero, List.foldl_nil] at hB
          simp +contextual -implicitDefEqProofs (maxSteps := 2000000) only [S_pc, u3, v1, ruB, rh_no, Int.reduceLT, Int.reduceLE, Int.reduceAdd, Int.reduceSub, Int.reduceMul, Int.reduceNeg, Int.reduceToNat, Int.reduceEq, Int.reduceNe, Int.reduceTDiv, Int.reduceTMod, implies_true, putL, appN, appX, appC, Eng.Fi, reduceCtorEq, exists_eq_left', exists_eq_left, if_true, if_false, List.replicate, Nat.reduceAdd, Nat.reduceSub, Nat.reduceMul, Nat.reduceLeDiff, Nat.reduceLT, Nat.reduceEqDiff]
          exact hgo2 _ B (by rw [hB]) (Wkn.keep [2, 4, 8, 39, 40, 42, 43, 44] rfl)
      · have u1 : ((i : Int) < (m.length : Int)) = False := eq_false (by omega)
        have ei : m.length - i = 0 := by omega
        rw [ei, List.range'_zero, List.foldl_nil] at hD
        simp +contextual -implicitDefEqProofs (maxSteps := 2000000) only [S_pb, e3, u1, ruB, rh_no, Int.reduceLT, Int.reduceLE, Int.reduceAdd, Int.reduceSub, Int.reduceMul, Int.reduceNeg, Int.reduceToNat, Int.reduceEq, Int.reduceNe, Int.reduceTDiv, Int.reduceTMod, implies_true, putL, appN, appX, appC, Eng.Fi, reduceCtorEq, exists_eq_left', exists_eq_left, if_true, if_false, List.replicate, Nat.reduceAdd, Nat.reduceSub, Nat.reduceMul, Nat.reduceLeDiff, Nat.reduceLT, Nat.reduceEqDiff]
        exact hgo _ D (by rw [hD]) (Wkn.keep [2, 4, 8, 39, 40] rfl)
    · have e1 : ((k : Int) < (m.length : Int)) = False := eq_false (by omega)
      have ek : m.length - k = 0 := by omega
      rw [ek, List.range'_zero, List.foldl_nil] at hC
      have hl := hI.len
      subst hC
      have htk : ((colV m p).map eI).take m.length = (colV m p).map eI := List.take_of_length_le (by simp; omega)
      simp +contextual -implicitDefEqProofs (maxSteps := 2000000) only [S_pa, e1, eThen_normal, ruB, rh_no, Int.reduceLT, Int.reduceLE, Int.reduceAdd, Int.reduceSub, Int.reduceMul, Int.reduceNeg, Int.reduceToNat, Int.reduceEq, Int.reduceNe, Int.reduceTDiv, Int.reduceTMod, implies_true, putL, appN, appX, appC, Eng.Fi, reduceCtorEq, exists_eq_left', exists_eq_left, if_true, if_false, List.replicate, Nat.reduceAdd, Nat.reduceSub, Nat.reduceMul, Nat.reduceLeDiff, Nat.reduceLT, Nat.reduceEqDiff]
      exact Wkn.to ⟨0, [(0, 0), (2, 2)], [1], 4, [2, 4, 8]⟩ rfl rfl (by simp [Wk.st, keepT, memN, Wk.fate, Wk.fate0, assoc, getE, Wk.hp, ABlk.sub, sub1, subs, free_I, free_L, S_pd, gA, gH, hl, htk])
  · have hln := (iv_col ha).len
    have hbd := fun v (hv : v < m.length) => iv_bd hma ha hs (iv_col ha) hv
    generalize colV m p = C at *
    refine Cor.seqW (s2 := S_pf p C (rowV m p C m.length)) ?_ ?_
    · refine Cor.run (noC_good _) (noHx_good _) hm ?_
      simp +contextual -implicitDefEqProofs (maxSteps := 2000000) only [S_pd, List.length_map, ruB, rh_no, Int.reduceLT, Int.reduceLE, Int.reduceAdd, Int.reduceSub, Int.reduceMul, Int.reduceNeg, Int.reduceToNat, Int.reduceEq, Int.reduceNe, Int.reduceTDiv, Int.reduceTMod, implies_true, putL, appN, appX, appC, Eng.Fi, reduceCtorEq, exists_eq_left', exists_eq_left, if_true, if_false, List.replicate, Nat.reduceAdd, Nat.reduceSub, Nat.reduceMul, Nat.reduceLeDiff, Nat.reduceLT, Nat.reduceEqDiff]
      refine Cor.lp (noC_good _) (noHx_good _) hm (fun q : Nat × L => S_pe m p C q.1 q.2) (fun q => q.1 ≤ m.length ∧ q.2 = rowV m p C q.1) (fun q => m.length - q.1) (a := (0, [])) ⟨Nat.zero_le _, rfl⟩ (Wkn.keep [2, 8, 86, 87, 88] rfl) ?_
      rintro f ⟨k, o⟩ ⟨hk, ho⟩ go
      simp only at hk ho go ⊢
      have hol : o.length = k := by rw [ho, rowV_len]
      have hfo := fun φ => free_I φ o
      rcases Nat.lt_or_ge k m.length with hlt | hge
      · have e1 : ((k : Int) < (m.length : Int)) = True := eq_true (by omega)
        have e3 : IntKind.wrap .i64 ((k : Int) + 1) = ((k + 1 : Nat) : Int) := suc_w (by omega)
        have e2 : (m.map eL)[k]? = some (eL m[k]) := get_e eL m hlt
        have hri := (hma.r m[k] (by simp)).1
        have hcell : ∀ j : Nat, j < m.length → (m[k].map eI)[j]? = some (eI (cell m k (j : Int))) := fun j hj => by
          have hjr : j < m[k].length := by omega
          rw [cell_get hlt hjr]; exact get_e eI _ hjr
        obtain ⟨row, hrow⟩ : ∃ row, m[k] = row := ⟨_, rfl⟩
        rw [hrow] at e2 hri hcell
        obtain ⟨hp1, hp2, hp3⟩ := asg_lt ha hlt
        have u4 : (p.map eI)[k]? = some (eI (pK p k)) := gk_get (by rw [ha.n]; exact hlt)
        have v4 := hcell (pN p k) hp3
        have v6 : (C.map eI)[pN p k]? = some (eI (gk (pN p k) C)) := gk_get (by omega)
        have b2 := hbd (pN p k) hp3
        have b4 := cell_bd hma k (pK p k)
        have hs1 := rowV_s m p C k
        rw [← ho] at hs1
        have hpk : pK p k = ((pN p k : Nat) : Int) := hp2.symm
        generalize pN p k = w at *
        rw [hpk] at u4 b4 hs1
        have w1 : IntKind.wrap .i64 (cell m k (w : Int) - gk w C) = cell m k (w : Int) - gk w C := wrap64 (by omega) (by omega)
        generalize cell m k (w : Int) = x1 at *
        generalize gk w C = x2 at *
        have m1 : (o.length + 1 ≤ maxLen) = True := mx (by omega)
        have m2 : ((o.length + 1) * 8 ≤ 140737488355328) = True := by simp only [eq_iff_iff, iff_true]; omega
        cases o with
        | nil =>
          simp only [List.map_cons, List.map_nil, subs, List.cons.injEq] at hfo
          simp only [List.length_nil, List.length_cons, Nat.zero_add] at m1 m2
          simp +contextual -implicitDefEqProofs (maxSteps := 2000000) only [S_pe, gA, gH, e1, e2, e3, u4, v4, v6, w1, List.map_cons, List.map_nil, List.length_map, rs_nil, rs_t, rs_f, ag_nils, ag_sl, ag_vs, ag_str, ag_ptr, ag_nilp, ag_vp, ag_fun, m1, m2, ruB, rh_no, Int.reduceLT, Int.reduceLE, Int.reduceAdd, Int.reduceSub, Int.reduceMul, Int.reduceNeg, Int.reduceToNat, Int.reduceEq, Int.reduceNe, Int.reduceTDiv, Int.reduceTMod, implies_true, putL, appN, appX, appC, Eng.Fi, reduceCtorEq, exists_eq_left', exists_eq_left, if_true, if_false, List.replicate, Nat.reduceAdd, Nat.reduceSub, Nat.reduceMul, Nat.reduceLeDiff, Nat.reduceLT, Nat.reduceEqDiff]
          exact go _ (k + 1, [] ++ [x1 - x2]) ⟨hlt, hs1.symm⟩ (by simp only; omega) (Wkn.to ⟨0, [(0, 0), (2, 2), (4, 1)], [], 4, [2, 8, 86, 87, 88]⟩ rfl rfl (by simp [Wk.st, keepT, memN, Wk.fate, Wk.fate0, assoc, getE, Wk.hp, ABlk.sub, sub1, subs, free_I, free_L, S_pe, gA, gH, hfo, subs_append]))
          
        | cons z0 zr =>
          simp only [List.map_cons, List.map_nil, subs, List.cons.injEq] at hfo
          simp only [List.length_nil, List.length_cons, Nat.zero_add] at m1 m2
          simp +contextual -implicitDefEqProofs (maxSteps := 2000000) only [S_pe, gA, gH, e1, e2, e3, u4, v4, v6, w1, List.map_cons, List.map_nil, List.length_map, rs_nil, rs_t, rs_f, ag_nils, ag_sl, ag_vs, ag_str, ag_ptr, ag_nilp, ag_vp, ag_fun, m1, m2, ruB, rh_no, Int.reduceLT, Int.reduceLE, Int.reduceAdd, Int.reduceSub, Int.reduceMul, Int.reduceNeg, Int.reduceToNat, Int.reduceEq, Int.reduceNe, Int.reduceTDiv, Int.reduceTMod, implies_true, putL, appN, appX, appC, Eng.Fi, reduceCtorEq, exists_eq_left', exists_eq_left, if_true, if_false, List.replicate, Nat.reduceAdd, Nat.reduceSub, Nat.reduceMul, Nat.reduceLeDiff, Nat.reduceLT, Nat.reduceEqDiff]
          exact go _ (k + 1, (z0 :: zr) ++ [x1 - x2]) ⟨hlt, hs1.symm⟩ (by simp only; omega) (Wkn.to ⟨0, [(0, 0), (2, 2), (4, 1)], [], 4, [2, 8, 86, 87, 88]⟩ rfl rfl (by simp [Wk.st, keepT, memN, Wk.fate, Wk.fate0, assoc, getE, Wk.hp, ABlk.sub, sub1, subs, free_I, free_L, S_pe, gA, gH, hfo, subs_append]))
          
      · have e1 : ((k : Int) < (m.length : Int)) = False := eq_false (by omega)
        have ek : k = m.length := by omega
        subst ek
        rw [← ho]
        have t0 : ∀ l : L, (l.map eI).take l.length = l.map eI := fun l => List.take_of_length_le (by simp)
        cases o with
        | nil => simp at hol; omega
        | cons z0 zr =>
          simp only [List.map_cons, List.map_nil, subs, List.cons.injEq] at hfo
          simp +contextual -implicitDefEqProofs (maxSteps := 2000000) only [S_pe, gA, gH, e1, List.map_nil, List.map_cons, List.length_map, eThen_normal, ruB, rh_no, Int.reduceLT, Int.reduceLE, Int.reduceAdd, Int.reduceSub, Int.reduceMul, Int.reduceNeg, Int.reduceToNat, Int.reduceEq, Int.reduceNe, Int.reduceTDiv, Int.reduceTMod, implies_true, putL, appN, appX, appC, Eng.Fi, reduceCtorEq, exists_eq_left', exists_eq_left, if_true, if_false, List.replicate, Nat.reduceAdd, Nat.reduceSub, Nat.reduceMul, Nat.reduceLeDiff, Nat.reduceLT, Nat.reduceEqDiff]
          exact Wkn.to ⟨0, [(0, 0), (2, 2)], [1], 4, [2, 8]⟩ rfl rfl (by simp [Wk.st, keepT, memN, Wk.fate, Wk.fate0, assoc, getE, Wk.hp, ABlk.sub, sub1, subs, free_I, free_L, S_pf, t0, hfo])
    · refine Cor.run (noC_good _) (noHx_good _) hm ?_
      simp +contextual -implicitDefEqProofs (maxSteps := 2000000) only [S_pf, rs_nil, rs_t, rs_f, ag_nils, ag_sl, ag_vs, ag_str, ag_ptr, ag_nilp, ag_vp, ag_fun, free_I, ruB, rh_no, Int.reduceLT, Int.reduceLE, Int.reduceAdd, Int.reduceSub, Int.reduceMul, Int.reduceNeg, Int.reduceToNat, Int.reduceEq, Int.reduceNe, Int.reduceTDiv, Int.reduceTMod, implies_true, putL, appN, appX, appC, Eng.Fi, reduceCtorEq, exists_eq_left', exists_eq_left, if_true, if_false, List.replicate, Nat.reduceAdd, Nat.reduceSub, Nat.reduceMul, Nat.reduceLeDiff, Nat.reduceLT, Nat.reduceEqDiff]
def cf_PotentialsOf : List AV → Option AV
  | [.vs m_v] => onL dL m_v fun m => if (cmV m).2 = 0 then some (.tup [eWp (poV m), I 0]) else none
  | _ => none
theorem g_PotentialsOf : Fn P 22 cf_PotentialsOf := fun args v hh => by
  unfold cf_PotentialsOf at hh; split at hh
  · obtain ⟨m, rfl, hh1⟩ := onL_inv dL_inv hh
    split at hh1
    · rename_i hc; have hk := Option.some.inj hh1; subst hk; exact k_PotentialsOf _ hc
    · cases hh1
  · cases hh
theorem x_PotentialsOf (m : List L) (hc : ((cmV m).2 = 0) = True) : cf_PotentialsOf [.vs (m.map eL)] = some (.tup [eWp (poV m), I 0]) := by
  simp only [cf_PotentialsOf, onL_map dL_e]
  exact if_pos (by rw [hc]; trivial)
end Wa
open Go Go.Proofs Eng
set_option maxRecDepth 100000
set_option linter.unusedSimpArgs false
set_option linter.unusedVariables false
namespace Wa
theorem aqG_all {n : Nat} {a : L} : ∀ (k i : Nat), (∀ j, i ≤ j → j < i + k → aqE n a j = 0) → aqG n a k i = (0, 0)
  | 0, i, _ => rfl
  | k + 1, i, h => by
    rw [aqG, if_pos (h i (Nat.le_refl _) (by omega))]
    exact aqG_all k (i + 1) fun j h1 h2 => h j (by omega) (by omega)
theorem szG_all {p : Wp} : ∀ (k i : Nat), (∀ j, i ≤ j → j < i + k → szR p j) → szG p k i = (0, 0)
  | 0, i, _ => rfl
  | k + 1, i, h => by
    rw [szG, if_pos (h i (Nat.le_refl _) (by omega))]
    exact szG_all k (i + 1) fun j h1 h2 => h j (by omega) (by omega)
theorem pfG_all {m : List L} {p : Wp} {i : Nat} : ∀ (k j0 : Nat), (∀ j, j0 ≤ j → j < j0 + k → ¬ pfB m p i j) → pfG m p i k j0 = 0
  | 0, i, _ => rfl
  | k + 1, j0, h => by
    rw [pfG, if_neg (h j0 (Nat.le_refl _) (by omega))]
    exact pfG_all k (j0 + 1) fun j h1 h2 => h j (by omega) (by omega)
theorem coG_all {m : List L} {p : Wp} : ∀ (k i : Nat) (s : Int), (∀ j, i ≤ j → j < i + k → pfG m p j m.length 0 = 0) →
    coG m p k i s = (0, unl (s + sumF (fun j => cell m j (gk j p.a) - gk j p.r - gk j p.c) (List.range' i k) = 0) 13)
  | 0, i, s, _ => by
    rw [coG, List.range'_zero, sumF, Int.add_zero]
  | k + 1, i, s, h => by
    rw [coG, if_pos (h i (Nat.le_refl _) (by omega)), coG_all k (i + 1) _ fun j h1 h2 => h j (by omega) (by omega), List.range'_succ, sumF]
    rw [Int.add_assoc]
theorem sumF_map (f : Nat → Int) (g : Nat → Nat) : ∀ l, sumF f (l.map g) = sumF (fun j => f (g j)) l
  | [] => rfl
  | a :: l => by rw [List.map_cons, sumF, sumF, sumF_map f g l]
theorem pN_perm {m : List L} {p : L} (h : asg m p) : ((List.range m.length).map (pN p)).Perm (List.range m.length) := by
  have hnd : ((List.range m.length).map (pN p)).Nodup := by
    refine List.pairwise_iff_getElem.2 fun i j hi hj hij => ?_
    rw [List.length_map, List.length_range] at hi hj
    rw [List.getElem_map, List.getElem_map, List.getElem_range, List.getElem_range]
    exact fun e => absurd (asg_inj h hi hj e) (by omega)
  obtain ⟨r, hr⟩ := sub_perm _ (List.range m.length) hnd fun x hx => by
    obtain ⟨i, hi, rfl⟩ := List.mem_map.1 hx
    exact List.mem_range.2 (asg_lt h (List.mem_range.1 hi)).2.2
  have hl := hr.length_eq
  rw [List.length_append, List.length_map, List.length_range] at hl
  have : r = [] := List.length_eq_zero_iff.1 (by omega)
  subst this
  rw [List.append_nil] at hr
  exact hr.symm
theorem rowV_gk {m : List L} {p C : L} {k i : Nat} (h : i < k) : gk i (rowV m p C k) = cell m i (pK p i) - gk (pN p i) C := by
  unfold rowV
  rw [gk, List.getElem?_map, List.getElem?_range h]; rfl
theorem asg_not {m : List L} {p : L} (h : asg m p) {i : Nat} (hi : i < m.length) : ¬ gk i p ∈ p.take i := fun q => by
  obtain ⟨j, hj, e⟩ := List.mem_iff_getElem.1 q
  rw [List.length_take] at hj
  rw [List.getElem_take] at e
  have hl : i < p.length := by rw [h.n]; exact hi
  have hk : gk i p = p[i] := by rw [gk, List.getElem?_eq_getElem hl]; rfl
  rw [hk] at e
  exact List.pairwise_iff_getElem.1 h.d j i (by omega) hl (by omega) e
theorem po_ok {m : List L} (h0 : (cmV m).2 = 0) : caV m (poV m) = (0, 0) := by
  have hma := cmV_z h0
  have hn := hma.n
  have ha := (asV_asg m).1
  have hs := asV_sim m
  have hI := iv_col ha
  have hC := hI.len
  have hbd := fun v (hv : v < m.length) => iv_bd hma ha hs hI hv
  have hfe := fun i v (hi : i < m.length) (hv : v < m.length) => col_fe ha hs hi hv
  have hsh : shE m (poV m) = 0 := unl_t _ ⟨⟨by show (((asV m).length : Nat) : Int) = _; rw [ha.n], by show (((rowV m (asV m) (colV m (asV m)) m.length).length : Nat) : Int) = _; rw [rowV_len]⟩, by show (((colV m (asV m)).length : Nat) : Int) = _; rw [hC]⟩
  have hE : firstE [(cmV m).2, shE m (poV m)] = 0 := by rw [h0, hsh]; rfl
  have hrow : ∀ i, i < m.length → gk i (poV m).r = cell m i (pK (asV m) i) - gk (pN (asV m) i) (colV m (asV m)) := fun i hi => rowV_gk hi
  have haq : aqG m.length (poV m).a m.length 0 = (0, 0) := aqG_all _ _ fun j _ hj => by
    have hj : j < m.length := by omega
    have h1 := (asg_lt ha hj).1
    refine firstE_all fun e he => ?_
    simp only [List.mem_cons, List.not_mem_nil, or_false] at he
    rcases he with rfl | rfl
    · exact unl_t _ (by show 0 ≤ pK (asV m) j ∧ pK (asV m) j ≤ (m.length : Int) - 1; omega)
    · exact unl_t _ (asg_not ha hj)
  have hsz : szG (poV m) m.length 0 = (0, 0) := szG_all _ _ fun j _ hj => by
    have hj : j < m.length := by omega
    have h1 := hbd _ (asg_lt ha hj).2.2
    have h2 := hbd j hj
    have h3 := cell_bd hma j (pK (asV m) j)
    unfold szR
    rw [hrow j hj]
    show _ ∧ (-60000000 ≤ gk j (colV m (asV m)) ∧ gk j (colV m (asV m)) ≤ 60000000)
    omega
  have hpf : ∀ j, 0 ≤ j → j < 0 + m.length → pfG m (poV m) j m.length 0 = 0 := fun j _ hj => pfG_all _ _ fun i _ hi => by
    have hj : j < m.length := by omega
    have h1 := hfe j i hj (by omega)
    unfold pfB
    rw [hrow j hj]
    show ¬ cell m j i < cell m j (pK (asV m) j) - gk (pN (asV m) j) (colV m (asV m)) + gk i (colV m (asV m))
    omega
  have hsum : sumF (fun j => cell m j (gk j (poV m).a) - gk j (poV m).r - gk j (poV m).c) (List.range' 0 m.length) = 0 := by
    rw [← List.range_eq_range']
    have e1 : sumF (fun j => cell m j (gk j (poV m).a) - gk j (poV m).r - gk j (poV m).c) (List.range m.length) = sumF (fun j => gk (pN (asV m) j) (colV m (asV m)) - gk j (colV m (asV m))) (List.range m.length) := sumF_congr fun j hj => by
      rw [hrow j (List.mem_range.1 hj)]
      show cell m j (pK (asV m) j) - (cell m j (pK (asV m) j) - gk (pN (asV m) j) (colV m (asV m))) - gk j (colV m (asV m)) = _
      omega
    have e2 := sumF_sub (fun j => gk (pN (asV m) j) (colV m (asV m))) (fun j => gk j (colV m (asV m))) (List.range m.length)
    have e3 := sumF_map (fun v => gk v (colV m (asV m))) (pN (asV m)) (List.range m.length)
    have e4 := sumF_perm (fun v => gk v (colV m (asV m))) (pN_perm ha)
    rw [e1, e2, ← e3, e4]
    exact Int.sub_self _
  unfold caV
  rw [if_pos hE, caR, haq, if_pos rfl, hsz, if_pos rfl, coG_all _ _ _ hpf, hsum]
  rfl
def ceQ (m : List L) (n : Int) (a : L) (r : Nat) (l : List L) : Prop := ∃ p ∈ l, cst m p ≤ n ∧ ¬ gk r p = gk r a
theorem ceQ_s {m : List L} {n : Int} {a : L} {r j : Nat} {A : List L} (h : j < A.length) : ceQ m n a r (A.take (j + 1)) ↔ ceQ m n a r (A.take j) ∨ (cst m A[j] ≤ n ∧ ¬ gk r A[j] = gk r a) := by
  rw [List.take_succ_eq_append_getElem h]
  constructor
  · rintro ⟨p, hp, h1, h2⟩
    rcases List.mem_append.1 hp with hp | hp
    · exact .inl ⟨p, hp, h1, h2⟩
    · rw [List.mem_singleton.1 hp] at h1 h2; exact .inr ⟨h1, h2⟩
  · rintro (⟨p, hp, h1, h2⟩ | h1)
    · exact ⟨p, List.mem_append.2 (.inl hp), h1, h2⟩
    · exact ⟨_, List.mem_append.2 (.inr (List.mem_singleton.2 rfl)), h1⟩
theorem ceL_iff {m : List L} {r : Nat} (hr : r < m.length) : ((r : Int) ∈ ceL m) ↔ ¬ ceQ m (chV m).2 (asV m) r (permG m.length m.length []) := by
  unfold ceL ceG
  constructor
  · intro h
    obtain ⟨j, hj, e⟩ := List.mem_map.1 h
    have e : j = r := by omega
    subst e
    have hne := (List.mem_filter.1 hj).2
    simp only [decide_eq_true_eq] at hne
    rintro ⟨p, hp, h1, h2⟩
    refine hne ⟨p, ?_, h2⟩
    rw [chV_fil]
    have h3 := chV_le m p hp
    exact List.mem_filter.2 ⟨hp, by simp only [decide_eq_true_eq]; omega⟩
  · intro h
    refine List.mem_map.2 ⟨r, List.mem_filter.2 ⟨List.mem_range.2 hr, ?_⟩, rfl⟩
    simp only [decide_eq_true_eq]
    rintro ⟨p, hp, hq⟩
    rw [chV_fil] at hp
    obtain ⟨h1, h2⟩ := List.mem_filter.1 hp
    simp only [decide_eq_true_eq] at h2
    exact h ⟨p, h1, by omega, hq⟩
end Wa
