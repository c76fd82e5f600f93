import Derived.Test.YtjkhnmhbbjgenaaEngS9
import Derived.Test.YtjkhnmhbbjgenaaS4
open Go Go.Proofs Eng
set_option maxRecDepth 100000
set_option linter.unusedSimpArgs false
set_option linter.unusedVariables false
def a76 : AC := .seq (.ops false [] [⟨some 4, .p (.mov), [.c (.int .i64 0)], none⟩, ⟨some 5, .p (.mov), [.c (.int .i64 0)], none⟩]) (.seq (.seq (.ops false [] [⟨some 10, .p (.mov), [.t 0], none⟩, ⟨some 11, .p (.lenS), [.t 10], none⟩, ⟨some 12, .p (.binI .gtr), [.t 11, .c (.int .i64 0)], none⟩, ⟨some 13, .call 79, [.t 12, .c (.int .i64 10)], none⟩, ⟨some 14, .p (.mov), [.t 0], none⟩, ⟨some 15, .p (.lenS), [.t 14], none⟩, ⟨some 16, .p (.binI .leq), [.t 15, .c (.int .i64 10)], none⟩, ⟨some 17, .call 79, [.t 16, .c (.int .i64 8)], none⟩, ⟨some 18, .fbs 1, [.t 13, .t 17], none⟩, ⟨some 19, .call 86, [.t 18], none⟩, ⟨some 6, .p (.mov), [.t 19], none⟩]) (.seq (.ops false [] [⟨some 20, .p (.mov), [.t 6], none⟩, ⟨some 21, .p (.binI .neq), [.t 20, .c (.int .i64 0)], none⟩]) (.cond (.t 21) (.seq (.ops false [] [⟨some 22, .p (.mov), [.t 6], none⟩, ⟨some 4, .p (.mov), [.c (.int .i64 0)], none⟩, ⟨some 5, .p (.mov), [.t 22], none⟩]) (.ret)) (.skip)))) (.seq (.seq (.ops false [] [⟨some 23, .p (.mov), [.t 0], none⟩, ⟨some 24, .p (.lenS), [.t 23], none⟩, ⟨some 25, .p (.mov), [.c (.int .i64 0)], none⟩]) (.block 0 (.loop (.seq (.ops false [] [⟨some 26, .p (.binI .lss), [.t 25, .t 24], none⟩]) (.seq (.cond (.t 26) (.skip) (.exit 0)) (.seq (.block 1 (.seq (.ops false [] [⟨some 27, .p (.mov), [.t 25], none⟩, ⟨some 28, .p (.iaddrS 8), [.t 23, .t 25], none⟩, ⟨some 29, .load 8 true, [.t 28], none⟩, ⟨some 8, .alloc 73 8 [.agg [.int .i64 0, .int .i64 0, .int .i64 0, .int .i64 0, .int .i64 0, .int .i64 0, .int .i64 0, .nilslice]], [], none⟩, ⟨some 7, .p (.mov), [.t 27], none⟩, ⟨none, .store 8 true, [.t 8, .t 29], none⟩]) (.seq (.ops false [] [⟨some 30, .load 8 true, [.t 8], none⟩, ⟨some 31, .p (.mov), [.t 1], none⟩, ⟨some 32, .call 117, [.t 30, .t 31], none⟩, ⟨some 9, .p (.mov), [.t 32], none⟩]) (.seq (.ops false [] [⟨some 33, .p (.mov), [.t 9], none⟩, ⟨some 34, .p (.binI .neq), [.t 33, .c (.int .i64 0)], none⟩]) (.cond (.t 34) (.seq (.ops false [] [⟨some 35, .p (.mov), [.t 7], none⟩, ⟨some 36, .p (.mov), [.t 9], none⟩, ⟨some 4, .p (.mov), [.t 35], none⟩, ⟨some 5, .p (.mov), [.t 36], none⟩]) (.ret)) (.skip)))))) (.ops false [] [⟨some 37, .p (.binI .add), [.t 25, .c (.int .i64 1)], none⟩, ⟨some 25, .p (.mov), [.t 37], none⟩]))))))) (.seq (.ops false [] [⟨some 4, .p (.mov), [.c (.int .i64 0)], none⟩, ⟨some 5, .p (.mov), [.c (.int .i64 0)], none⟩]) (.ret))))
theorem c76 : FnC Try.prog 76 38 a76 [.tmp 4, .tmp 5] := ⟨Try.call76, _, _, Try.func76, rfl, by kernel_rfl, by kernel_rfl, rfl⟩
def a117 : AC := .seq (.ops false [] [⟨some 2, .box 73 8 1 true, [.t 0], none⟩, ⟨some 4, .p (.mov), [.c (.int .i64 0)], none⟩]) (.seq (.seq (.ops false [] [⟨some 8, .p (.faddr 0), [.t 2], none⟩, ⟨some 9, .load 1 false, [.t 8], none⟩, ⟨some 10, .call 87, [.t 9, .c (.int .i64 0), .c (.int .i64 2)], none⟩, ⟨some 11, .p (.notB), [.t 10], none⟩]) (.cond (.t 11) (.seq (.ops false [] [⟨some 4, .p (.mov), [.c (.int .i64 14)], none⟩]) (.ret)) (.skip))) (.seq (.seq (.ops true [] [⟨some 12, .load 8 true, [.t 2], none⟩, ⟨some 13, .call 131, [.t 12], none⟩, ⟨some 14, .load 8 true, [.t 2], none⟩, ⟨some 15, .call 132, [.t 14], none⟩, ⟨some 16, .fbs 1, [.t 13, .t 15], none⟩, ⟨some 17, .call 86, [.t 16], none⟩, ⟨some 5, .p (.mov), [.t 17], none⟩]) (.seq (.ops false [] [⟨some 18, .p (.mov), [.t 5], none⟩, ⟨some 19, .p (.binI .neq), [.t 18, .c (.int .i64 0)], none⟩, ⟨some 20, .p (.mov), [.t 19], none⟩, ⟨some 21, .p (.faddr 0), [.t 2], some (20, false)⟩, ⟨some 22, .load 1 false, [.t 21], some (20, false)⟩, ⟨some 23, .p (.binI .neq), [.t 22, .c (.int .i64 2)], some (20, false)⟩, ⟨some 24, .p (.pick), [.t 20, .c (.bool true), .t 23], none⟩]) (.cond (.t 24) (.seq (.ops false [] [⟨some 25, .p (.mov), [.t 5], none⟩, ⟨some 4, .p (.mov), [.t 25], none⟩]) (.ret)) (.skip)))) (.seq (.seq (.ops false [] [⟨some 26, .p (.mov), [.t 1], none⟩, ⟨some 27, .p (.binI .eql), [.t 26, .c (.int .i64 2)], none⟩]) (.cond (.t 27) (.seq (.ops false [] [⟨some 4, .p (.mov), [.c (.int .i64 15)], none⟩]) (.ret)) (.skip))) (.seq (.ops false [] [⟨some 29, .p (.faddr 7), [.t 2], none⟩, ⟨some 30, .load 1 false, [.t 29], none⟩, ⟨some 31, .p (.mov), [.t 1], none⟩, ⟨some 32, .p (.binI .add), [.t 31, .c (.int .i64 1)], none⟩, ⟨some 33, .call 76, [.t 30, .t 32], none⟩, ⟨some 28, .p (.mov), [.t 33], none⟩, ⟨some 34, .p (.ext 0), [.t 28], none⟩, ⟨some 35, .p (.ext 1), [.t 28], none⟩, ⟨some 6, .p (.mov), [.t 34], none⟩, ⟨some 7, .p (.mov), [.t 35], none⟩]) (.seq (.ops false [] [⟨some 36, .p (.mov), [.t 7], none⟩, ⟨some 4, .p (.mov), [.t 36], none⟩]) (.ret))))))
theorem c117 : FnC Try.prog 117 37 a117 [.tmp 4] := ⟨Try.call117, _, _, Try.func117, rfl, by kernel_rfl, by kernel_rfl, rfl⟩
def a131 : AC := .seq (.ops false [] [⟨some 1, .box 73 8 1 true, [.t 0], none⟩, ⟨some 2, .p (.mov), [.c (.int .i64 0)], none⟩]) (.seq (.ops false [] [⟨some 4, .p (.faddr 6), [.t 1], none⟩, ⟨some 5, .load 1 false, [.t 4], none⟩, ⟨some 6, .p (.binI .eql), [.t 5, .c (.int .i64 0)], none⟩, ⟨some 7, .p (.mov), [.t 6], none⟩, ⟨some 8, .p (.faddr 7), [.t 1], some (7, true)⟩, ⟨some 9, .load 1 false, [.t 8], some (7, true)⟩, ⟨some 10, .p (.lenS), [.t 9], some (7, true)⟩, ⟨some 11, .p (.binI .eql), [.t 10, .c (.int .i64 0)], some (7, true)⟩, ⟨some 12, .p (.pick), [.t 7, .t 11, .c (.bool false)], none⟩, ⟨some 3, .p (.mov), [.t 12], none⟩]) (.seq (.seq (.ops false [] [⟨some 13, .p (.faddr 0), [.t 1], none⟩, ⟨some 14, .load 1 false, [.t 13], none⟩]) (.block 0 (.seq (.ops false [] [⟨some 16, .p (.binI .eql), [.t 14, .c (.int .i64 0)], none⟩, ⟨some 15, .p (.mov), [.t 16], none⟩]) (.cond (.t 15) (.seq (.ops false [] [⟨some 17, .p (.mov), [.t 3], none⟩, ⟨some 18, .p (.mov), [.t 17], none⟩, ⟨some 19, .p (.faddr 3), [.t 1], some (18, true)⟩, ⟨some 20, .load 1 false, [.t 19], some (18, true)⟩, ⟨some 21, .p (.binI .eql), [.t 20, .c (.int .i64 0)], some (18, true)⟩, ⟨some 22, .p (.pick), [.t 18, .t 21, .c (.bool false)], none⟩, ⟨some 23, .p (.mov), [.t 22], none⟩, ⟨some 24, .p (.faddr 4), [.t 1], some (23, true)⟩, ⟨some 25, .load 1 false, [.t 24], some (23, true)⟩, ⟨some 26, .p (.binI .eql), [.t 25, .c (.int .i64 0)], some (23, true)⟩, ⟨some 27, .p (.pick), [.t 23, .t 26, .c (.bool false)], none⟩, ⟨some 28, .call 79, [.t 27, .c (.int .i64 3)], none⟩, ⟨some 2, .p (.mov), [.t 28], none⟩]) (.ret)) (.seq (.ops false [] [⟨some 30, .p (.binI .eql), [.t 14, .c (.int .i64 1)], none⟩, ⟨some 29, .p (.mov), [.t 30], none⟩]) (.cond (.t 29) (.seq (.ops false [] [⟨some 31, .p (.mov), [.t 3], none⟩, ⟨some 32, .call 79, [.t 31, .c (.int .i64 3)], none⟩, ⟨some 2, .p (.mov), [.t 32], none⟩]) (.ret)) (.skip))))))) (.seq (.ops false [] [⟨some 33, .p (.faddr 1), [.t 1], none⟩, ⟨some 34, .load 2 true, [.t 33], none⟩, ⟨some 35, .p (.build [.int .i64 0, .int .i64 0] []), [], none⟩, ⟨some 36, .p (.eqa false [.i, .i]), [.t 34, .t 35], none⟩, ⟨some 37, .p (.mov), [.t 36], none⟩, ⟨some 38, .p (.faddr 3), [.t 1], some (37, true)⟩, ⟨some 39, .load 1 false, [.t 38], some (37, true)⟩, ⟨some 40, .p (.binI .eql), [.t 39, .c (.int .i64 0)], some (37, true)⟩, ⟨some 41, .p (.pick), [.t 37, .t 40, .c (.bool false)], none⟩, ⟨some 42, .p (.mov), [.t 41], none⟩, ⟨some 43, .p (.faddr 4), [.t 1], some (42, true)⟩, ⟨some 44, .load 1 false, [.t 43], some (42, true)⟩, ⟨some 45, .p (.binI .eql), [.t 44, .c (.int .i64 0)], some (42, true)⟩, ⟨some 46, .p (.pick), [.t 42, .t 45, .c (.bool false)], none⟩, ⟨some 47, .p (.mov), [.t 46], none⟩, ⟨some 48, .p (.faddr 5), [.t 1], some (47, true)⟩, ⟨some 49, .load 1 false, [.t 48], some (47, true)⟩, ⟨some 50, .p (.binI .eql), [.t 49, .c (.int .i64 0)], some (47, true)⟩, ⟨some 51, .p (.pick), [.t 47, .t 50, .c (.bool false)], none⟩, ⟨some 52, .call 79, [.t 51, .c (.int .i64 3)], none⟩, ⟨some 2, .p (.mov), [.t 52], none⟩]) (.ret))))
theorem c131 : FnC Try.prog 131 53 a131 [.tmp 2] := ⟨Try.call131, _, _, Try.func131, rfl, by kernel_rfl, by kernel_rfl, rfl⟩
def a132 : AC := .seq (.ops false [] [⟨some 1, .box 73 8 1 true, [.t 0], none⟩, ⟨some 2, .p (.mov), [.c (.int .i64 0)], none⟩]) (.seq (.seq (.ops false [] [⟨some 4, .p (.faddr 0), [.t 1], none⟩, ⟨some 5, .load 1 false, [.t 4], none⟩, ⟨some 6, .p (.binI .eql), [.t 5, .c (.int .i64 2)], none⟩]) (.cond (.t 6) (.seq (.ops false [] [⟨some 7, .p (.faddr 6), [.t 1], none⟩, ⟨some 8, .load 1 false, [.t 7], none⟩, ⟨some 9, .call 87, [.t 8, .c (.int .i64 1), .c (.int .i64 10)], none⟩, ⟨some 10, .call 79, [.t 9, .c (.int .i64 2)], none⟩, ⟨some 2, .p (.mov), [.t 10], none⟩]) (.ret)) (.skip))) (.seq (.ops false [] [⟨some 11, .p (.faddr 1), [.t 1], none⟩, ⟨some 12, .load 2 true, [.t 11], none⟩, ⟨some 13, .call 91, [.t 12], none⟩, ⟨some 14, .p (.binI .eql), [.t 13, .c (.int .i64 0)], none⟩, ⟨some 15, .p (.mov), [.t 14], none⟩, ⟨some 16, .p (.faddr 5), [.t 1], some (15, true)⟩, ⟨some 17, .load 1 false, [.t 16], some (15, true)⟩, ⟨some 18, .call 87, [.t 17, .c (.int .i64 0), .c (.int .i64 1000)], some (15, true)⟩, ⟨some 19, .p (.pick), [.t 15, .t 18, .c (.bool false)], none⟩, ⟨some 3, .p (.mov), [.t 19], none⟩]) (.seq (.seq (.ops false [] [⟨some 20, .p (.faddr 0), [.t 1], none⟩, ⟨some 21, .load 1 false, [.t 20], none⟩, ⟨some 22, .p (.binI .eql), [.t 21, .c (.int .i64 1)], none⟩]) (.cond (.t 22) (.ops false [] [⟨some 23, .p (.mov), [.t 3], none⟩, ⟨some 24, .p (.mov), [.t 23], none⟩, ⟨some 25, .p (.faddr 3), [.t 1], some (24, true)⟩, ⟨some 26, .load 1 false, [.t 25], some (24, true)⟩, ⟨some 27, .call 92, [.t 26], some (24, true)⟩, ⟨some 28, .p (.pick), [.t 24, .t 27, .c (.bool false)], none⟩, ⟨some 29, .p (.mov), [.t 28], none⟩, ⟨some 30, .p (.faddr 4), [.t 1], some (29, true)⟩, ⟨some 31, .load 1 false, [.t 30], some (29, true)⟩, ⟨some 32, .call 87, [.t 31, .c (.int .i64 1), .c (.int .i64 360)], some (29, true)⟩, ⟨some 33, .p (.pick), [.t 29, .t 32, .c (.bool false)], none⟩, ⟨some 3, .p (.mov), [.t 33], none⟩]) (.skip))) (.seq (.ops false [] [⟨some 34, .p (.mov), [.t 3], none⟩, ⟨some 35, .call 79, [.t 34, .c (.int .i64 2)], none⟩, ⟨some 2, .p (.mov), [.t 35], none⟩]) (.ret)))))
theorem c132 : FnC Try.prog 132 36 a132 [.tmp 2] := ⟨Try.call132, _, _, Try.func132, rfl, by kernel_rfl, by kernel_rfl, rfl⟩
namespace Sc
inductive Sp where
  | mk (k : Int) (at' : Dr) (x2 x3 x4 x5 : Int) (body : List Sp)
def Sp.k : Sp → Int | mk k _ _ _ _ _ _ => k
def Sp.at' : Sp → Dr | mk _ a _ _ _ _ _ => a
def Sp.x2 : Sp → Int | mk _ _ x _ _ _ _ => x
def Sp.x3 : Sp → Int | mk _ _ _ x _ _ _ => x
def Sp.x4 : Sp → Int | mk _ _ _ _ x _ _ => x
def Sp.x5 : Sp → Int | mk _ _ _ _ _ x _ => x
def Sp.body : Sp → List Sp | mk _ _ _ _ _ _ b => b
mutual
def eSp : Sp → AV
  | .mk k a x2 x3 x4 x5 b => .agg [I k, I a.az, I a.el, I x2, I x3, I x4, I x5, .vs (eSps b)]
def eSps : List Sp → List AV
  | [] => []
  | s :: r => eSp s :: eSps r
end
theorem eSps_map : ∀ (l : List Sp), eSps l = l.map eSp
  | [] => rfl
  | s :: r => by rw [eSps, eSps_map r]; rfl
mutual
theorem eSp_inj : ∀ (s t : Sp), eSp s = eSp t → s = t
  | .mk k a x2 x3 x4 x5 b, .mk k' a' x2' x3' x4' x5' b', h => by
    cases a; cases a'
    simp only [eSp, AV.agg.injEq, List.cons.injEq, AV.int.injEq, true_and, AV.vs.injEq, and_true] at h
    obtain ⟨rfl, rfl, rfl, rfl, rfl, rfl, rfl, h⟩ := h
    rw [eSps_inj b b' h]
theorem eSps_inj : ∀ (l m : List Sp), eSps l = eSps m → l = m
  | [], [], _ => rfl
  | [], _ :: _, h => by simp [eSps] at h
  | _ :: _, [], h => by simp [eSps] at h
  | s :: r, t :: q, h => by
    simp only [eSps, List.cons.injEq] at h
    rw [eSp_inj s t h.1, eSps_inj r q h.2]
end
mutual
theorem free_Sp (φ : Nat → Fate) : ∀ (s : Sp), sub1 φ (eSp s) = eSp s
  | .mk k a x2 x3 x4 x5 b => by simp only [eSp, sub1, subs, free_Sps φ b]
theorem free_Sps (φ : Nat → Fate) : ∀ (l : List Sp), subs φ (eSps l) = eSps l
  | [] => rfl
  | s :: r => by simp only [eSps, subs, free_Sp φ s, free_Sps φ r]
end
theorem eSps_len (l : List Sp) : (eSps l).length = l.length := by rw [eSps_map]; simp
theorem eSps_get (l : List Sp) {n : Nat} (h : n < l.length) : (eSps l)[n]? = some (eSp l[n]) := by rw [eSps_map]; simp [h]
abbrev eVs (l : List Sp) : AV := .vs (eSps l)
section
open Classical
/-- out of an encoded value -/
noncomputable def onI {α : Type} (e : α → AV) (v : AV) (g : α → Option AV) : Option AV := if h : ∃ x, v = e x then g (Classical.choose h) else none
theorem onI_e {α : Type} {e : α → AV} (inj : ∀ x y, e x = e y → x = y) (x : α) (g : α → Option AV) : onI e (e x) g = g x := by
  have h : ∃ y, e x = e y := ⟨x, rfl⟩
  rw [onI, dif_pos h, inj _ _ (Classical.choose_spec h).symm]
theorem onI_inv {α : Type} {e : α → AV} {v : AV} {g : α → Option AV} {u : AV} (h : onI e v g = some u) : ∃ x, v = e x ∧ g x = some u := by
  unfold onI at h
  split at h
  · rename_i hx; exact ⟨_, Classical.choose_spec hx, h⟩
  · cases h
end
noncomputable def onSp := onI eSp
theorem onSp_e (s : Sp) (g : Sp → Option AV) : onSp (eSp s) g = g s := onI_e eSp_inj s g
theorem onSp_inv {v : AV} {g : Sp → Option AV} {u : AV} (h : onSp v g = some u) : ∃ x, v = eSp x ∧ g x = some u := onI_inv h
noncomputable def onSps := onI eVs
theorem onSps_e (s : List Sp) (g : List Sp → Option AV) : onSps (eVs s) g = g s := onI_e (fun x y h => by simp only [AV.vs.injEq] at h; exact eSps_inj x y h) s g
theorem onSps_inv {v : AV} {g : List Sp → Option AV} {u : AV} (h : onSps v g = some u) : ∃ x, v = eVs x ∧ g x = some u := onI_inv h
abbrev Sps := List Sp
abbrev noB (s : Sp) : Prop := s.x5 = 0 ∧ (s.body.length : Int) = 0
def fmE (s : Sp) : Int := if s.k = 0 then unl ((noB s ∧ s.x2 = 0) ∧ s.x3 = 0) 3 else if s.k = 1 then unl (noB s) 3 else unl (((s.at' = (⟨0, 0⟩ : Dr) ∧ s.x2 = 0) ∧ s.x3 = 0) ∧ s.x4 = 0) 3
abbrev dtR (s : Sp) : Prop := drE s.at' = 0 ∧ (0 ≤ s.x4 ∧ s.x4 ≤ 1000)
def rgE (s : Sp) : Int := if s.k = 2 then unl (1 ≤ s.x5 ∧ s.x5 ≤ 10) 2 else if s.k = 1 then unl ((dtR s ∧ azR s.x2) ∧ (1 ≤ s.x3 ∧ s.x3 ≤ 360)) 2 else unl (dtR s) 2
theorem unl_c {p q : Prop} [Decidable p] [Decidable q] (h : p ↔ q) (e : Int) : unl p e = unl q e := by simp only [unl, h]
theorem k_formErr (s : Sp) : FOk P 131 [eSp s] (I (fmE s)) := by
  obtain ⟨k, ⟨az, el⟩, x2, x3, x4, x5, b⟩ := s
  by_cases h0 : k = 0
  · have hv : fmE (.mk k ⟨az, el⟩ x2 x3 x4 x5 b) = unl (((x5 = 0 ∧ (b.length : Int) = 0) ∧ x2 = 0) ∧ x3 = 0) 3 := by
      simp only [fmE, Sp.k, h0, if_true]; exact unl_c Iff.rfl _
    rw [hv]
    refine c131.fok (by simp only [eSp, subs, sub1, free_Sps]) (Cor.run (addC_good g_unless (noC_good _)) (noHx_good _) hm ?_)
    simp +contextual -implicitDefEqProofs (maxSteps := 2000000) only [bg_eq, a131, eSp, h0, x_unless, eSps_len, ruB, rh_no, Int.reduceLT, Int.reduceLE, Int.reduceAdd, Int.reduceSub, Int.reduceMul, Int.reduceNeg, Int.reduceToNat, Int.reduceEq, Int.reduceNe, Int.reduceTDiv, Int.reduceTMod, implies_true, putL, appN, appX, appC, Eng.Fi, reduceCtorEq, exists_eq_left', exists_eq_left, if_true, if_false, List.replicate, Nat.reduceAdd, Nat.reduceSub, Nat.reduceMul, Nat.reduceLeDiff, Nat.reduceLT, Nat.reduceEqDiff]
  · by_cases h1 : k = 1
    · have hv : fmE (.mk k ⟨az, el⟩ x2 x3 x4 x5 b) = unl (x5 = 0 ∧ (b.length : Int) = 0) 3 := by
        simp only [fmE, Sp.k, h0, h1, if_true, if_false]; exact unl_c Iff.rfl _
      rw [hv]
      refine c131.fok (by simp only [eSp, subs, sub1, free_Sps]) (Cor.run (addC_good g_unless (noC_good _)) (noHx_good _) hm ?_)
      simp +contextual -implicitDefEqProofs (maxSteps := 2000000) only [bg_eq, a131, eSp, h0, h1, x_unless, eSps_len, ruB, rh_no, Int.reduceLT, Int.reduceLE, Int.reduceAdd, Int.reduceSub, Int.reduceMul, Int.reduceNeg, Int.reduceToNat, Int.reduceEq, Int.reduceNe, Int.reduceTDiv, Int.reduceTMod, implies_true, putL, appN, appX, appC, Eng.Fi, reduceCtorEq, exists_eq_left', exists_eq_left, if_true, if_false, List.replicate, Nat.reduceAdd, Nat.reduceSub, Nat.reduceMul, Nat.reduceLeDiff, Nat.reduceLT, Nat.reduceEqDiff]
    · have hv : fmE (.mk k ⟨az, el⟩ x2 x3 x4 x5 b) = unl ((((az = 0 ∧ el = 0) ∧ x2 = 0) ∧ x3 = 0) ∧ x4 = 0) 3 := by
        simp only [fmE, Sp.k, h0, h1, if_false]
        exact unl_c (by simp [Sp.at', Sp.x2, Sp.x3, Sp.x4]) _
      rw [hv]
      refine c131.fok (by simp only [eSp, subs, sub1, free_Sps]) (Cor.run (addC_good g_unless (noC_good _)) (noHx_good _) hm ?_)
      simp +contextual -implicitDefEqProofs (maxSteps := 2000000) only [bg_eq, a131, eSp, h0, h1, x_unless, eSps_len, ruB, rh_no, Int.reduceLT, Int.reduceLE, Int.reduceAdd, Int.reduceSub, Int.reduceMul, Int.reduceNeg, Int.reduceToNat, Int.reduceEq, Int.reduceNe, Int.reduceTDiv, Int.reduceTMod, implies_true, putL, appN, appX, appC, Eng.Fi, reduceCtorEq, exists_eq_left', exists_eq_left, if_true, if_false, List.replicate, Nat.reduceAdd, Nat.reduceSub, Nat.reduceMul, Nat.reduceLeDiff, Nat.reduceLT, Nat.reduceEqDiff]
noncomputable def cf_formErr : List AV → Option AV
  | [s_v] => onSp s_v fun s => some (I (fmE s))
  | _ => none
theorem g_formErr : Fn P 131 cf_formErr := fun args v hh => by
  unfold cf_formErr at hh; split at hh
  · obtain ⟨s, rfl, hh1⟩ := onSp_inv hh
    have hk := Option.some.inj hh1; subst hk; exact k_formErr _
  · cases hh
theorem x_formErr (s : Sp) : cf_formErr [eSp s] = some (I (fmE s)) := by
  simp only [cf_formErr, onSp_e]
theorem k_rangeErr (s : Sp) : FOk P 132 [eSp s] (I (rgE s)) := by
  obtain ⟨k, ⟨az, el⟩, x2, x3, x4, x5, b⟩ := s
  by_cases h2 : k = 2
  · have hv : rgE (.mk k ⟨az, el⟩ x2 x3 x4 x5 b) = unl (1 ≤ x5 ∧ x5 ≤ 10) 2 := by
      simp only [rgE, Sp.k, h2, if_true]; exact unl_c Iff.rfl _
    rw [hv]
    refine c132.fok (by simp only [eSp, subs, sub1, free_Sps]) (Cor.run (addC_good g_isAzimuth (addC_good g_directionErr (addC_good g_within (addC_good g_unless (noC_good _))))) (noHx_good _) hm ?_)
    simp +contextual -implicitDefEqProofs (maxSteps := 2000000) only [bg_eq, a132, eSp, h2, x_unless, x_within, x_directionErr, x_isAzimuth, ruB, rh_no, Int.reduceLT, Int.reduceLE, Int.reduceAdd, Int.reduceSub, Int.reduceMul, Int.reduceNeg, Int.reduceToNat, Int.reduceEq, Int.reduceNe, Int.reduceTDiv, Int.reduceTMod, implies_true, putL, appN, appX, appC, Eng.Fi, reduceCtorEq, exists_eq_left', exists_eq_left, if_true, if_false, List.replicate, Nat.reduceAdd, Nat.reduceSub, Nat.reduceMul, Nat.reduceLeDiff, Nat.reduceLT, Nat.reduceEqDiff]
  · by_cases h1 : k = 1
    · have hv : rgE (.mk k ⟨az, el⟩ x2 x3 x4 x5 b) = unl (((drE ⟨az, el⟩ = 0 ∧ (0 ≤ x4 ∧ x4 ≤ 1000)) ∧ azR x2) ∧ (1 ≤ x3 ∧ x3 ≤ 360)) 2 := by
        simp only [rgE, Sp.k, h1, if_true]; exact unl_c Iff.rfl _
      rw [hv]
      refine c132.fok (by simp only [eSp, subs, sub1, free_Sps]) (Cor.run (addC_good g_isAzimuth (addC_good g_directionErr (addC_good g_within (addC_good g_unless (noC_good _))))) (noHx_good _) hm ?_)
      simp +contextual -implicitDefEqProofs (maxSteps := 2000000) only [bg_eq, a132, eSp, h1, x_unless, x_within, x_directionErr, x_isAzimuth, ruB, rh_no, Int.reduceLT, Int.reduceLE, Int.reduceAdd, Int.reduceSub, Int.reduceMul, Int.reduceNeg, Int.reduceToNat, Int.reduceEq, Int.reduceNe, Int.reduceTDiv, Int.reduceTMod, implies_true, putL, appN, appX, appC, Eng.Fi, reduceCtorEq, exists_eq_left', exists_eq_left, if_true, if_false, List.replicate, Nat.reduceAdd, Nat.reduceSub, Nat.reduceMul, Nat.reduceLeDiff, Nat.reduceLT, Nat.reduceEqDiff]
    · have hv : rgE (.mk k ⟨az, el⟩ x2 x3 x4 x5 b) = unl (drE ⟨az, el⟩ = 0 ∧ (0 ≤ x4 ∧ x4 ≤ 1000)) 2 := by
        simp only [rgE, Sp.k, h2, h1, if_false]; exact unl_c Iff.rfl _
      rw [hv]
      refine c132.fok (by simp only [eSp, subs, sub1, free_Sps]) (Cor.run (addC_good g_isAzimuth (addC_good g_directionErr (addC_good g_within (addC_good g_unless (noC_good _))))) (noHx_good _) hm ?_)
      simp +contextual -implicitDefEqProofs (maxSteps := 2000000) only [bg_eq, a132, eSp, h1, h2, x_unless, x_within, x_directionErr, x_isAzimuth, ruB, rh_no, Int.reduceLT, Int.reduceLE, Int.reduceAdd, Int.reduceSub, Int.reduceMul, Int.reduceNeg, Int.reduceToNat, Int.reduceEq, Int.reduceNe, Int.reduceTDiv, Int.reduceTMod, implies_true, putL, appN, appX, appC, Eng.Fi, reduceCtorEq, exists_eq_left', exists_eq_left, if_true, if_false, List.replicate, Nat.reduceAdd, Nat.reduceSub, Nat.reduceMul, Nat.reduceLeDiff, Nat.reduceLT, Nat.reduceEqDiff]
noncomputable def cf_rangeErr : List AV → Option AV
  | [s_v] => onSp s_v fun s => some (I (rgE s))
  | _ => none
theorem g_rangeErr : Fn P 132 cf_rangeErr := fun args v hh => by
  unfold cf_rangeErr at hh; split at hh
  · obtain ⟨s, rfl, hh1⟩ := onSp_inv hh
    have hk := Option.some.inj hh1; subst hk; exact k_rangeErr _
  · cases hh
theorem x_rangeErr (s : Sp) : cf_rangeErr [eSp s] = some (I (rgE s)) := by
  simp only [cf_rangeErr, onSp_e]
def stCg (f : Sp → Int) : Nat → List Sp → Int × Int
  | _, [] => (0, 0)
  | i, s :: r => if f s = 0 then stCg f (i + 1) r else (i, f s)
def stCe (l : Sps) : Int := firstE [unl (0 < (l.length : Int)) 10, unl ((l.length : Int) ≤ 10) 8]
def stCh (f : Sp → Int) (l : Sps) : Int × Int := if stCe l = 0 then stCg f 0 l else (0, stCe l)
def frE (s : Sp) : Int := firstE [fmE s, rgE s]
def stE : Nat → Sp → Int
  | 0, s => if 0 ≤ s.k ∧ s.k ≤ 2 then (if frE s = 0 ∧ s.k = 2 then 15 else frE s) else 14
  | n + 1, s => if 0 ≤ s.k ∧ s.k ≤ 2 then (if frE s = 0 ∧ s.k = 2 then (stCh (stE n) s.body).2 else frE s) else 14
noncomputable def cf_stepErr (n : Nat) : List AV → Option AV
  | [v, .int .i64 d] => if d + n = 2 then onSp v fun s => some (I (stE n s)) else none
  | _ => none
noncomputable def cf_stepsErr (n : Nat) : List AV → Option AV
  | [v, .int .i64 d] => if d + n = 2 then onSps v fun s => some (.tup [I (stCh (stE n) s).1, I (stCh (stE n) s).2]) else none
  | _ => none
theorem x_stepErr (n : Nat) (s : Sp) (d : Int) (h : (d + n = 2) = True) : cf_stepErr n [eSp s, .int .i64 d] = some (I (stE n s)) := by
  simp only [cf_stepErr, h, if_true, onSp_e]
theorem x_stepsErr (n : Nat) (l : Sps) (d : Int) (h : (d + n = 2) = True) : cf_stepsErr n [.vs (eSps l), .int .i64 d] = some (.tup [I (stCh (stE n) l).1, I (stCh (stE n) l).2]) := by
  simp only [cf_stepsErr, h, if_true]
  exact onSps_e l _
theorem k_stepErr0 (s : Sp) : FOk P 117 [eSp s, I 2] (I (stE 0 s)) := by
  have yf := x_formErr s
  have yr := x_rangeErr s
  have hv : stE 0 s = if 0 ≤ s.k ∧ s.k ≤ 2 then (if frE s = 0 ∧ s.k = 2 then 15 else frE s) else 14 := rfl
  have hfr : frE s = firstE [fmE s, rgE s] := rfl
  rw [hv, hfr]
  obtain ⟨k, ⟨az, el⟩, x2, x3, x4, x5, b⟩ := s
  generalize fmE (.mk k ⟨az, el⟩ x2 x3 x4 x5 b) = e1 at *
  generalize rgE (.mk k ⟨az, el⟩ x2 x3 x4 x5 b) = e2 at *
  simp only [eSp, Sp.k] at *
  by_cases h0 : 0 ≤ k ∧ k ≤ 2
  · by_cases h1 : firstE [e1, e2] = 0
    · by_cases h2 : k = 2
      · subst h2
        refine c117.fok (by simp only [subs, sub1, free_Sps]) (Cor.run (addC_good g_first (addC_good g_rangeErr (addC_good g_formErr (addC_good g_within (addC_good g_unless (noC_good _)))))) (noHx_good _) hm ?_)
        simp +contextual -implicitDefEqProofs (maxSteps := 2000000) only [bg_eq, a117, x_unless, x_within, yf, yr, x_first, y_first, h1, ruB, rh_no, Int.reduceLT, Int.reduceLE, Int.reduceAdd, Int.reduceSub, Int.reduceMul, Int.reduceNeg, Int.reduceToNat, Int.reduceEq, Int.reduceNe, Int.reduceTDiv, Int.reduceTMod, implies_true, putL, appN, appX, appC, Eng.Fi, reduceCtorEq, exists_eq_left', exists_eq_left, if_true, if_false, List.replicate, Nat.reduceAdd, Nat.reduceSub, Nat.reduceMul, Nat.reduceLeDiff, Nat.reduceLT, Nat.reduceEqDiff]
      · refine c117.fok (by simp only [subs, sub1, free_Sps]) (Cor.run (addC_good g_first (addC_good g_rangeErr (addC_good g_formErr (addC_good g_within (addC_good g_unless (noC_good _)))))) (noHx_good _) hm ?_)
        simp +contextual -implicitDefEqProofs (maxSteps := 2000000) only [bg_eq, a117, x_unless, x_within, yf, yr, x_first, y_first, h0, h1, h2, ruB, rh_no, Int.reduceLT, Int.reduceLE, Int.reduceAdd, Int.reduceSub, Int.reduceMul, Int.reduceNeg, Int.reduceToNat, Int.reduceEq, Int.reduceNe, Int.reduceTDiv, Int.reduceTMod, implies_true, putL, appN, appX, appC, Eng.Fi, reduceCtorEq, exists_eq_left', exists_eq_left, if_true, if_false, List.replicate, Nat.reduceAdd, Nat.reduceSub, Nat.reduceMul, Nat.reduceLeDiff, Nat.reduceLT, Nat.reduceEqDiff]
    · refine c117.fok (by simp only [subs, sub1, free_Sps]) (Cor.run (addC_good g_first (addC_good g_rangeErr (addC_good g_formErr (addC_good g_within (addC_good g_unless (noC_good _)))))) (noHx_good _) hm ?_)
      simp +contextual -implicitDefEqProofs (maxSteps := 2000000) only [bg_eq, a117, x_unless, x_within, yf, yr, x_first, y_first, h0, h1, ruB, rh_no, Int.reduceLT, Int.reduceLE, Int.reduceAdd, Int.reduceSub, Int.reduceMul, Int.reduceNeg, Int.reduceToNat, Int.reduceEq, Int.reduceNe, Int.reduceTDiv, Int.reduceTMod, implies_true, putL, appN, appX, appC, Eng.Fi, reduceCtorEq, exists_eq_left', exists_eq_left, if_true, if_false, List.replicate, Nat.reduceAdd, Nat.reduceSub, Nat.reduceMul, Nat.reduceLeDiff, Nat.reduceLT, Nat.reduceEqDiff]
  · refine c117.fok (by simp only [subs, sub1, free_Sps]) (Cor.run (addC_good g_first (addC_good g_rangeErr (addC_good g_formErr (addC_good g_within (addC_good g_unless (noC_good _)))))) (noHx_good _) hm ?_)
    simp +contextual -implicitDefEqProofs (maxSteps := 2000000) only [bg_eq, a117, x_unless, x_within, h0, ruB, rh_no, Int.reduceLT, Int.reduceLE, Int.reduceAdd, Int.reduceSub, Int.reduceMul, Int.reduceNeg, Int.reduceToNat, Int.reduceEq, Int.reduceNe, Int.reduceTDiv, Int.reduceTMod, implies_true, putL, appN, appX, appC, Eng.Fi, reduceCtorEq, exists_eq_left', exists_eq_left, if_true, if_false, List.replicate, Nat.reduceAdd, Nat.reduceSub, Nat.reduceMul, Nat.reduceLeDiff, Nat.reduceLT, Nat.reduceEqDiff]
theorem k_stepErr1 (n : Nat) (hn : n ≤ 1) (g : Fn P 76 (cf_stepsErr n)) (s : Sp) : FOk P 117 [eSp s, I (1 - n)] (I (stE (n + 1) s)) := by
  have yf := x_formErr s
  have yr := x_rangeErr s
  have y := x_stepsErr n s.body (1 - (n : Int) + 1) (by simp only [eq_iff_iff, iff_true]; omega)
  have hv : stE (n + 1) s = if 0 ≤ s.k ∧ s.k ≤ 2 then (if frE s = 0 ∧ s.k = 2 then (stCh (stE n) s.body).2 else frE s) else 14 := rfl
  have hfr : frE s = firstE [fmE s, rgE s] := rfl
  have w : IntKind.wrap .i64 (1 - (n : Int) + 1) = 1 - (n : Int) + 1 := wrap64 (by omega) (by omega)
  have d2 : ((1 - (n : Int)) = 2) = False := by simp only [eq_iff_iff, iff_false]; omega
  rw [hv, hfr]
  obtain ⟨k, ⟨az, el⟩, x2, x3, x4, x5, b⟩ := s
  generalize fmE (.mk k ⟨az, el⟩ x2 x3 x4 x5 b) = e1 at *
  generalize rgE (.mk k ⟨az, el⟩ x2 x3 x4 x5 b) = e2 at *
  simp only [eSp, Sp.k, Sp.body] at *
  by_cases h0 : 0 ≤ k ∧ k ≤ 2
  · by_cases h1 : firstE [e1, e2] = 0
    · by_cases h2 : k = 2
      · subst h2
        refine c117.fok (by simp only [subs, sub1, free_Sps]) (Cor.run (addC_good g (addC_good g_first (addC_good g_rangeErr (addC_good g_formErr (addC_good g_within (addC_good g_unless (noC_good _))))))) (noHx_good _) hm ?_)
        simp +contextual -implicitDefEqProofs (maxSteps := 2000000) only [bg_eq, a117, x_unless, x_within, yf, yr, x_first, y_first, h1, d2, w, y, ruB, rh_no, Int.reduceLT, Int.reduceLE, Int.reduceAdd, Int.reduceSub, Int.reduceMul, Int.reduceNeg, Int.reduceToNat, Int.reduceEq, Int.reduceNe, Int.reduceTDiv, Int.reduceTMod, implies_true, putL, appN, appX, appC, Eng.Fi, reduceCtorEq, exists_eq_left', exists_eq_left, if_true, if_false, List.replicate, Nat.reduceAdd, Nat.reduceSub, Nat.reduceMul, Nat.reduceLeDiff, Nat.reduceLT, Nat.reduceEqDiff]
      · refine c117.fok (by simp only [subs, sub1, free_Sps]) (Cor.run (addC_good g (addC_good g_first (addC_good g_rangeErr (addC_good g_formErr (addC_good g_within (addC_good g_unless (noC_good _))))))) (noHx_good _) hm ?_)
        simp +contextual -implicitDefEqProofs (maxSteps := 2000000) only [bg_eq, a117, x_unless, x_within, yf, yr, x_first, y_first, h0, h1, h2, ruB, rh_no, Int.reduceLT, Int.reduceLE, Int.reduceAdd, Int.reduceSub, Int.reduceMul, Int.reduceNeg, Int.reduceToNat, Int.reduceEq, Int.reduceNe, Int.reduceTDiv, Int.reduceTMod, implies_true, putL, appN, appX, appC, Eng.Fi, reduceCtorEq, exists_eq_left', exists_eq_left, if_true, if_false, List.replicate, Nat.reduceAdd, Nat.reduceSub, Nat.reduceMul, Nat.reduceLeDiff, Nat.reduceLT, Nat.reduceEqDiff]
    · refine c117.fok (by simp only [subs, sub1, free_Sps]) (Cor.run (addC_good g (addC_good g_first (addC_good g_rangeErr (addC_good g_formErr (addC_good g_within (addC_good g_unless (noC_good _))))))) (noHx_good _) hm ?_)
      simp +contextual -implicitDefEqProofs (maxSteps := 2000000) only [bg_eq, a117, x_unless, x_within, yf, yr, x_first, y_first, h0, h1, ruB, rh_no, Int.reduceLT, Int.reduceLE, Int.reduceAdd, Int.reduceSub, Int.reduceMul, Int.reduceNeg, Int.reduceToNat, Int.reduceEq, Int.reduceNe, Int.reduceTDiv, Int.reduceTMod, implies_true, putL, appN, appX, appC, Eng.Fi, reduceCtorEq, exists_eq_left', exists_eq_left, if_true, if_false, List.replicate, Nat.reduceAdd, Nat.reduceSub, Nat.reduceMul, Nat.reduceLeDiff, Nat.reduceLT, Nat.reduceEqDiff]
  · refine c117.fok (by simp only [subs, sub1, free_Sps]) (Cor.run (addC_good g (addC_good g_first (addC_good g_rangeErr (addC_good g_formErr (addC_good g_within (addC_good g_unless (noC_good _))))))) (noHx_good _) hm ?_)
    simp +contextual -implicitDefEqProofs (maxSteps := 2000000) only [bg_eq, a117, x_unless, x_within, h0, ruB, rh_no, Int.reduceLT, Int.reduceLE, Int.reduceAdd, Int.reduceSub, Int.reduceMul, Int.reduceNeg, Int.reduceToNat, Int.reduceEq, Int.reduceNe, Int.reduceTDiv, Int.reduceTMod, implies_true, putL, appN, appX, appC, Eng.Fi, reduceCtorEq, exists_eq_left', exists_eq_left, if_true, if_false, List.replicate, Nat.reduceAdd, Nat.reduceSub, Nat.reduceMul, Nat.reduceLeDiff, Nat.reduceLT, Nat.reduceEqDiff]
def S76 (l : Sps) (d : Int) (n : Nat) : AState := ⟨[.any, I d, .any, .any, .any, .any, .any, .any, .any, .any, .any, .any, .any, .any, .any, .any, .any, .any, .any, .any, .any, .any, .any, .vs (eSps l), I l.length, I n, .any, .any, .any, .any, .any, .any, .any, .any, .any, .any, .any, .any], [], 0⟩
theorem k_stepsErr (n : Nat) (g : Fn P 117 (cf_stepErr n)) (l : Sps) (d : Int) (hd : d + n = 2) : FOk P 76 [.vs (eSps l), I d] (.tup [I (stCh (stE n) l).1, I (stCh (stE n) l).2]) := by
  by_cases h0 : stCe l = 0
  · have h0' := h0
    unfold stCe at h0'
    have h10 := unl_zero (firstE_zero h0' (unl ((l.length : Int) ≤ 10) 8) (by simp)) (by decide)
    refine c76.fok (by simp only [subs, sub1, free_Sps]) (Cor.run (addC_good g (addC_good g_first (addC_good g_unless (noC_good _)))) (noHx_good _) hm ?_)
    simp +contextual -implicitDefEqProofs (maxSteps := 2000000) only [bg_eq, a76, x_unless, x_first, y_first, h0', eSps_len, ruB, rh_no, Int.reduceLT, Int.reduceLE, Int.reduceAdd, Int.reduceSub, Int.reduceMul, Int.reduceNeg, Int.reduceToNat, Int.reduceEq, Int.reduceNe, Int.reduceTDiv, Int.reduceTMod, implies_true, putL, appN, appX, appC, Eng.Fi, reduceCtorEq, exists_eq_left', exists_eq_left, if_true, if_false, List.replicate, Nat.reduceAdd, Nat.reduceSub, Nat.reduceMul, Nat.reduceLeDiff, Nat.reduceLT, Nat.reduceEqDiff]
    refine Cor.lp (addC_good g (addC_good g_first (addC_good g_unless (noC_good _)))) (noHx_good _) hm (S76 l d) (fun m => m ≤ l.length ∧ stCh (stE n) l = stCg (stE n) m (l.drop m)) (fun m => l.length - m) (a := 0) ⟨Nat.zero_le _, by rw [stCh, if_pos h0]; rfl⟩ (Wkn.keep [1, 23, 24, 25] rfl) ?_
    intro f m ⟨hm', hf⟩ go
    rcases Nat.lt_or_ge m l.length with h | h
    · have e1 : decide ((m : Int) < (l.length : Int)) = true := lt_t h
      have e2 := eSps_get l h
      have e3 : IntKind.wrap .i64 ((m : Int) + 1) = ((m + 1 : Nat) : Int) := suc_w (by omega)
      have y := x_stepErr n l[m] d (by simp only [hd])
      rw [List.drop_eq_getElem_cons h, stCg] at hf
      generalize l[m] = s at *
      obtain ⟨k, ⟨az, el⟩, x2, x3, x4, x5, b⟩ := s
      simp only [eSp] at e2 y
      by_cases hz : stE n (.mk k ⟨az, el⟩ x2 x3 x4 x5 b) = 0
      · rw [if_pos hz] at hf
        simp +contextual -implicitDefEqProofs (maxSteps := 2000000) only [S76, e1, e2, e3, y, hz, ruB, rh_no, Int.reduceLT, Int.reduceLE, Int.reduceAdd, Int.reduceSub, Int.reduceMul, Int.reduceNeg, Int.reduceToNat, Int.reduceEq, Int.reduceNe, Int.reduceTDiv, Int.reduceTMod, implies_true, putL, appN, appX, appC, Eng.Fi, reduceCtorEq, exists_eq_left', exists_eq_left, if_true, if_false, List.replicate, Nat.reduceAdd, Nat.reduceSub, Nat.reduceMul, Nat.reduceLeDiff, Nat.reduceLT, Nat.reduceEqDiff]
        exact go _ (m + 1) ⟨h, hf⟩ (by omega) (Wkn.to ⟨0, [], [], 0, [1, 23, 24, 25]⟩ rfl rfl (by simp only [Wk.st, keepT, sub1, subs, Wk.hp, ABlk.sub, S76, free_Sps]; try rfl))
      · rw [if_neg hz] at hf
        rw [hf]
        simp +contextual -implicitDefEqProofs (maxSteps := 2000000) only [S76, e1, e2, e3, y, hz, not_false_eq_true, ruB, rh_no, Int.reduceLT, Int.reduceLE, Int.reduceAdd, Int.reduceSub, Int.reduceMul, Int.reduceNeg, Int.reduceToNat, Int.reduceEq, Int.reduceNe, Int.reduceTDiv, Int.reduceTMod, implies_true, putL, appN, appX, appC, Eng.Fi, reduceCtorEq, exists_eq_left', exists_eq_left, if_true, if_false, List.replicate, Nat.reduceAdd, Nat.reduceSub, Nat.reduceMul, Nat.reduceLeDiff, Nat.reduceLT, Nat.reduceEqDiff]
    · have e1 : decide ((m : Int) < (l.length : Int)) = false := lt_f h
      rw [List.drop_eq_nil_of_le h] at hf
      rw [hf]
      simp +contextual -implicitDefEqProofs (maxSteps := 2000000) only [S76, e1, stCg, ruB, rh_no, Int.reduceLT, Int.reduceLE, Int.reduceAdd, Int.reduceSub, Int.reduceMul, Int.reduceNeg, Int.reduceToNat, Int.reduceEq, Int.reduceNe, Int.reduceTDiv, Int.reduceTMod, implies_true, putL, appN, appX, appC, Eng.Fi, reduceCtorEq, exists_eq_left', exists_eq_left, if_true, if_false, List.replicate, Nat.reduceAdd, Nat.reduceSub, Nat.reduceMul, Nat.reduceLeDiff, Nat.reduceLT, Nat.reduceEqDiff]
  · have hv : stCh (stE n) l = (0, stCe l) := by rw [stCh, if_neg h0]
    rw [hv]
    have h0' := h0
    unfold stCe at h0'
    refine c76.fok (by simp only [subs, sub1, free_Sps]) (Cor.run (addC_good g (addC_good g_first (addC_good g_unless (noC_good _)))) (noHx_good _) hm ?_)
    simp +contextual -implicitDefEqProofs (maxSteps := 2000000) only [bg_eq, a76, x_unless, x_first, y_first, h0', eSps_len, stCe, not_false_eq_true, ruB, rh_no, Int.reduceLT, Int.reduceLE, Int.reduceAdd, Int.reduceSub, Int.reduceMul, Int.reduceNeg, Int.reduceToNat, Int.reduceEq, Int.reduceNe, Int.reduceTDiv, Int.reduceTMod, implies_true, putL, appN, appX, appC, Eng.Fi, reduceCtorEq, exists_eq_left', exists_eq_left, if_true, if_false, List.replicate, Nat.reduceAdd, Nat.reduceSub, Nat.reduceMul, Nat.reduceLeDiff, Nat.reduceLT, Nat.reduceEqDiff]
theorem g_stepsErr_of (n : Nat) (g : Fn P 117 (cf_stepErr n)) : Fn P 76 (cf_stepsErr n) := fun args v h => by
  unfold cf_stepsErr at h; split at h
  · split at h
    · rename_i hd
      obtain ⟨l, rfl, h2⟩ := onSps_inv h
      cases h2; exact k_stepsErr n g l _ hd
    · cases h
  · cases h
theorem g_stepErr : ∀ (n : Nat), n ≤ 2 → Fn P 117 (cf_stepErr n)
  | 0, _ => fun args v h => by
    unfold cf_stepErr at h; split at h
    · split at h
      · rename_i d hd
        obtain ⟨s, rfl, h2⟩ := onSp_inv h
        cases h2
        obtain rfl : d = 2 := by omega
        exact k_stepErr0 s
      · cases h
    · cases h
  | n + 1, hn => fun args v h => by
    have g := g_stepsErr_of n (g_stepErr n (by omega))
    unfold cf_stepErr at h; split at h
    · split at h
      · rename_i d hd
        obtain ⟨s, rfl, h2⟩ := onSp_inv h
        cases h2
        obtain rfl : d = 1 - n := by omega
        exact k_stepErr1 n (by omega) g s
      · cases h
    · cases h
theorem g_stepsErr (n : Nat) (hn : n ≤ 2) : Fn P 76 (cf_stepsErr n) := g_stepsErr_of n (g_stepErr n hn)
end Sc
