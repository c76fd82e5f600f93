import Derived.Test.YtjkhnmhbbjgenaaEngS9
import Derived.Test.YtjkhnmhbbjgenaaS41
open Go Go.Proofs Eng
set_option maxRecDepth 100000
set_option linter.unusedSimpArgs false
set_option linter.unusedVariables false
def a12 : AC := .seq (.ops false [] [⟨some 3, .box 42 7 1 true, [.t 0], none⟩, ⟨some 6, .p (.mov), [.c (.bool false)], none⟩]) (.seq (.seq (.ops false [] [⟨some 19, .call 15, [], none⟩, ⟨some 20, .p (.notB), [.t 19], none⟩]) (.cond (.t 20) (.seq (.ops false [] [⟨some 6, .p (.mov), [.c (.bool false)], none⟩]) (.ret)) (.skip))) (.seq (.seq (.ops false [] [⟨some 21, .load 7 true, [.t 3], none⟩, ⟨some 22, .call 23, [.t 21], none⟩, ⟨some 23, .p (.notB), [.t 22], none⟩, ⟨some 24, .p (.mov), [.t 23], none⟩, ⟨some 25, .p (.mov), [.t 1], some (24, false)⟩, ⟨some 26, .p (.lenS), [.t 25], some (24, false)⟩, ⟨some 27, .p (.binI .gtr), [.t 26, .c (.int .i64 6)], some (24, false)⟩, ⟨some 28, .p (.pick), [.t 24, .c (.bool true), .t 27], none⟩, ⟨some 29, .p (.mov), [.t 28], none⟩, ⟨some 30, .p (.mov), [.t 2], some (29, false)⟩, ⟨some 31, .p (.lenS), [.t 30], some (29, false)⟩, ⟨some 32, .p (.mov), [.t 1], some (29, false)⟩, ⟨some 33, .p (.lenS), [.t 32], some (29, false)⟩, ⟨some 34, .p (.binI .neq), [.t 31, .t 33], some (29, false)⟩, ⟨some 35, .p (.pick), [.t 29, .c (.bool true), .t 34], none⟩, ⟨some 36, .p (.mov), [.t 35], none⟩, ⟨some 37, .load 7 true, [.t 3], some (36, false)⟩, ⟨some 38, .call 28, [.t 37], some (36, false)⟩, ⟨some 39, .p (.binI .neq), [.t 38, .c (.int .i64 0)], some (36, false)⟩, ⟨some 40, .p (.pick), [.t 36, .c (.bool true), .t 39], none⟩, ⟨some 41, .p (.mov), [.t 40], none⟩, ⟨some 42, .p (.mov), [.t 1], some (41, false)⟩, ⟨some 43, .call 62, [.t 42], some (41, false)⟩, ⟨some 44, .p (.binI .neq), [.t 43, .c (.int .i64 0)], some (41, false)⟩, ⟨some 45, .p (.pick), [.t 41, .c (.bool true), .t 44], none⟩]) (.cond (.t 45) (.seq (.ops false [] [⟨some 6, .p (.mov), [.c (.bool true)], none⟩]) (.ret)) (.skip))) (.seq (.ops false [] [⟨some 47, .load 7 true, [.t 3], none⟩, ⟨some 48, .call 25, [.t 47], none⟩, ⟨some 49, .p (.mov), [.t 1], none⟩, ⟨some 50, .call 58, [.t 49], none⟩, ⟨some 51, .call 57, [.t 48, .t 50], none⟩, ⟨some 46, .p (.mov), [.t 51], none⟩, ⟨some 52, .p (.ext 0), [.t 46], none⟩, ⟨some 53, .p (.ext 1), [.t 46], none⟩, ⟨some 54, .p (.ext 2), [.t 46], none⟩, ⟨some 7, .p (.mov), [.t 52], none⟩, ⟨some 8, .p (.mov), [.t 53], none⟩, ⟨some 9, .p (.mov), [.t 54], none⟩]) (.seq (.ops false [] [⟨some 56, .load 7 true, [.t 3], none⟩, ⟨some 57, .call 25, [.t 56], none⟩, ⟨some 58, .p (.mov), [.t 1], none⟩, ⟨some 59, .call 58, [.t 58], none⟩, ⟨some 60, .p (.mov), [.t 2], none⟩, ⟨some 61, .call 60, [.t 60], none⟩, ⟨some 62, .call 59, [.t 57, .t 59, .t 61], none⟩, ⟨some 55, .p (.mov), [.t 62], none⟩, ⟨some 63, .p (.ext 0), [.t 55], none⟩, ⟨some 64, .p (.ext 1), [.t 55], none⟩, ⟨some 10, .p (.mov), [.t 63], none⟩, ⟨some 11, .p (.mov), [.t 64], none⟩]) (.seq (.ops false [] [⟨some 66, .load 7 true, [.t 3], none⟩, ⟨some 67, .call 25, [.t 66], none⟩, ⟨some 68, .p (.mov), [.t 1], none⟩, ⟨some 69, .call 58, [.t 68], none⟩, ⟨some 70, .call 61, [.t 67, .t 69], none⟩, ⟨some 65, .p (.mov), [.t 70], none⟩, ⟨some 71, .p (.ext 0), [.t 65], none⟩, ⟨some 72, .p (.ext 1), [.t 65], none⟩, ⟨some 12, .p (.mov), [.t 71], none⟩, ⟨some 13, .p (.mov), [.t 72], none⟩]) (.seq (.seq (.ops false [] [⟨some 73, .p (.mov), [.t 13], none⟩, ⟨some 74, .p (.binI .neq), [.t 73, .c (.int .i64 0)], none⟩, ⟨some 75, .p (.mov), [.t 74], none⟩, ⟨some 76, .p (.mov), [.t 9], some (75, false)⟩, ⟨some 77, .p (.binI .neq), [.t 76, .c (.int .i64 0)], some (75, false)⟩, ⟨some 78, .p (.mov), [.t 77], some (75, false)⟩, ⟨some 79, .p (.mov), [.t 9], some (78, true)⟩, ⟨some 80, .p (.binI .neq), [.t 79, .c (.int .i64 12)], some (78, true)⟩, ⟨some 81, .p (.pick), [.t 78, .t 80, .c (.bool false)], some (75, false)⟩, ⟨some 82, .p (.pick), [.t 75, .c (.bool true), .t 81], none⟩, ⟨some 83, .p (.mov), [.t 82], none⟩, ⟨some 84, .p (.mov), [.t 9], some (83, false)⟩, ⟨some 85, .p (.binI .eql), [.t 84, .c (.int .i64 12)], some (83, false)⟩, ⟨some 86, .p (.mov), [.t 85], some (83, false)⟩, ⟨some 87, .p (.mov), [.t 11], some (86, true)⟩, ⟨some 88, .p (.binI .eql), [.t 87, .c (.int .i64 0)], some (86, true)⟩, ⟨some 89, .p (.pick), [.t 86, .t 88, .c (.bool false)], some (83, false)⟩, ⟨some 90, .p (.pick), [.t 83, .c (.bool true), .t 89], none⟩]) (.cond (.t 90) (.seq (.ops false [] [⟨some 6, .p (.mov), [.c (.bool false)], none⟩]) (.ret)) (.skip))) (.seq (.seq (.ops false [] [⟨some 91, .p (.mov), [.t 9], none⟩, ⟨some 92, .p (.binI .eql), [.t 91, .c (.int .i64 0)], none⟩]) (.cond (.t 92) (.seq (.ops false [] [⟨some 94, .load 7 true, [.t 3], none⟩, ⟨some 95, .call 25, [.t 94], none⟩, ⟨some 96, .p (.mov), [.t 1], none⟩, ⟨some 97, .call 58, [.t 96], none⟩, ⟨some 98, .p (.mov), [.t 7], none⟩, ⟨some 99, .call 60, [.t 98], none⟩, ⟨some 100, .call 59, [.t 95, .t 97, .t 99], none⟩, ⟨some 93, .p (.mov), [.t 100], none⟩, ⟨some 101, .p (.ext 0), [.t 93], none⟩, ⟨some 102, .p (.ext 1), [.t 93], none⟩, ⟨some 14, .p (.mov), [.t 101], none⟩, ⟨some 15, .p (.mov), [.t 102], none⟩]) (.seq (.ops false [] [⟨some 103, .p (.mov), [.t 7], none⟩, ⟨some 104, .p (.lenS), [.t 103], none⟩, ⟨some 105, .p (.mov), [.t 1], none⟩, ⟨some 106, .p (.lenS), [.t 105], none⟩, ⟨some 107, .p (.binI .neq), [.t 104, .t 106], none⟩, ⟨some 108, .p (.mov), [.t 107], none⟩, ⟨some 109, .p (.mov), [.t 15], some (108, false)⟩, ⟨some 110, .p (.binI .neq), [.t 109, .c (.int .i64 0)], some (108, false)⟩, ⟨some 111, .p (.pick), [.t 108, .c (.bool true), .t 110], none⟩, ⟨some 112, .p (.mov), [.t 111], none⟩, ⟨some 113, .p (.mov), [.t 14], some (112, false)⟩, ⟨some 114, .p (.mov), [.t 8], some (112, false)⟩, ⟨some 115, .p (.binI .neq), [.t 113, .t 114], some (112, false)⟩, ⟨some 116, .p (.pick), [.t 112, .c (.bool true), .t 115], none⟩, ⟨some 117, .p (.mov), [.t 116], none⟩, ⟨some 118, .p (.mov), [.t 8], some (117, false)⟩, ⟨some 119, .p (.mov), [.t 12], some (117, false)⟩, ⟨some 120, .p (.binI .lss), [.t 118, .t 119], some (117, false)⟩, ⟨some 121, .p (.pick), [.t 117, .c (.bool true), .t 120], none⟩, ⟨some 122, .p (.mov), [.t 121], none⟩, ⟨some 123, .p (.mov), [.t 11], some (122, false)⟩, ⟨some 124, .p (.binI .eql), [.t 123, .c (.int .i64 0)], some (122, false)⟩, ⟨some 125, .p (.mov), [.t 124], some (122, false)⟩, ⟨some 126, .p (.mov), [.t 10], some (125, true)⟩, ⟨some 127, .p (.mov), [.t 8], some (125, true)⟩, ⟨some 128, .p (.binI .lss), [.t 126, .t 127], some (125, true)⟩, ⟨some 129, .p (.mov), [.t 128], some (125, true)⟩, ⟨some 130, .p (.mov), [.t 10], some (129, false)⟩, ⟨some 131, .p (.mov), [.t 8], some (129, false)⟩, ⟨some 132, .p (.binI .eql), [.t 130, .t 131], some (129, false)⟩, ⟨some 133, .p (.mov), [.t 132], some (129, false)⟩, ⟨some 134, .p (.mov), [.t 2], some (133, true)⟩, ⟨some 135, .p (.mov), [.t 7], some (133, true)⟩, ⟨some 136, .call 66, [.t 134, .t 135], some (133, true)⟩, ⟨some 137, .p (.pick), [.t 133, .t 136, .c (.bool false)], some (129, false)⟩, ⟨some 138, .p (.pick), [.t 129, .c (.bool true), .t 137], some (125, true)⟩, ⟨some 139, .p (.pick), [.t 125, .t 138, .c (.bool false)], some (122, false)⟩, ⟨some 140, .p (.pick), [.t 122, .c (.bool true), .t 139], none⟩]) (.cond (.t 140) (.seq (.ops false [] [⟨some 6, .p (.mov), [.c (.bool false)], none⟩]) (.ret)) (.skip)))) (.skip))) (.seq (.ops false [] [⟨some 141, .load 7 true, [.t 3], none⟩, ⟨some 142, .call 25, [.t 141], none⟩, ⟨some 16, .alloc 42 7 [.agg [.int .i64 0, .int .i64 0, .int .i64 0, .int .i64 0, .int .i64 0, .int .i64 0, .nilslice]], [], none⟩, ⟨none, .store 7 true, [.t 16, .t 142], none⟩]) (.seq (.ops false [] [⟨some 143, .p (.faddr 6), [.t 16], none⟩, ⟨none, .store 1 false, [.t 143, .c (.nilslice)], none⟩]) (.seq (.ops true [] [⟨some 145, .load 7 true, [.t 16], none⟩, ⟨some 146, .p (.mov), [.t 1], none⟩, ⟨some 147, .call 58, [.t 146], none⟩, ⟨some 148, .p (.mov), [.t 2], none⟩, ⟨some 149, .call 60, [.t 148], none⟩, ⟨some 150, .call 59, [.t 145, .t 147, .t 149], none⟩, ⟨some 144, .p (.mov), [.t 150], none⟩, ⟨some 151, .p (.ext 0), [.t 144], none⟩, ⟨some 152, .p (.ext 1), [.t 144], none⟩, ⟨some 17, .p (.mov), [.t 151], none⟩, ⟨some 18, .p (.mov), [.t 152], none⟩]) (.seq (.ops false [] [⟨some 153, .p (.mov), [.t 18], none⟩, ⟨some 154, .p (.binI .eql), [.t 153, .c (.int .i64 0)], none⟩, ⟨some 155, .p (.mov), [.t 154], none⟩, ⟨some 156, .p (.mov), [.t 18], some (155, false)⟩, ⟨some 157, .p (.binI .eql), [.t 156, .c (.int .i64 6)], some (155, false)⟩, ⟨some 158, .p (.pick), [.t 155, .c (.bool true), .t 157], none⟩, ⟨some 159, .p (.mov), [.t 158], none⟩, ⟨some 160, .p (.mov), [.t 18], some (159, false)⟩, ⟨some 161, .p (.binI .eql), [.t 160, .c (.int .i64 21)], some (159, false)⟩, ⟨some 162, .p (.pick), [.t 159, .c (.bool true), .t 161], none⟩, ⟨some 6, .p (.mov), [.t 162], none⟩]) (.ret))))))))))))
theorem c12 : FnC Try.prog 12 163 a12 [.tmp 6] := ⟨Try.call12, _, _, Try.func12, rfl, by kernel_rfl, by kernel_rfl, rfl⟩
namespace Sc
theorem FOk.na1b {P : Program} {f : Nat} {a a' v : AV} {r : List AV} (he : Eng.nv a = a') (h : FOk P f (a' :: r) v) : FOk P f (a :: r) v := by
  refine ⟨h.1, fun G w cargs hG hr => h.2 G w cargs hG ?_⟩
  subst he
  simp only [VRels] at hr ⊢
  obtain ⟨c, cs, h0, h1, h2⟩ := hr
  exact ⟨c, cs, h0, nv_rel a h1, h2⟩
def cf_CO : List AV → Option AV
  | [.agg [.int .i64 a, .int .i64 b, .int .i64 c, .int .i64 d, .int .i64 e, .int .i64 f, .nilslice], w, x] => cf_CheckOrder [.agg [.int .i64 a, .int .i64 b, .int .i64 c, .int .i64 d, .int .i64 e, .int .i64 f, .vs []], w, x]
  | args => cf_CheckOrder args
theorem g_CO : Fn P 59 cf_CO := fun args v hh => by
  unfold cf_CO at hh; split at hh
  · exact FOk.na1b (by simp only [Eng.nv, nvs]) (g_CheckOrder _ _ hh)
  · exact g_CheckOrder _ _ hh
theorem x_CO0 (a b c d e f : Int) (w x : AV) : cf_CO [.agg [.int .i64 a, .int .i64 b, .int .i64 c, .int .i64 d, .int .i64 e, .int .i64 f, .nilslice], w, x] = cf_CheckOrder [.agg [.int .i64 a, .int .i64 b, .int .i64 c, .int .i64 d, .int .i64 e, .int .i64 f, .vs []], w, x] := rfl
theorem x_CO1 (a b c d e f : Int) (l : List AV) (w x : AV) : cf_CO [.agg [.int .i64 a, .int .i64 b, .int .i64 c, .int .i64 d, .int .i64 e, .int .i64 f, .vs l], w, x] = cf_CheckOrder [.agg [.int .i64 a, .int .i64 b, .int .i64 c, .int .i64 d, .int .i64 e, .int .i64 f, .vs l], w, x] := rfl
def hdN (h : Hd) : Hd := { h with res := [] }
theorem hdN_ok {h : Hd} (hh : hdE h = 0) : hdE (hdN h) = 0 := by
  have hz := hdE_zero hh
  have h1 : hd1 (hdN h) = 0 := by
    have a1 : drE (hdN h).home = 0 := unl_t 2 hz.1.1.1
    have a2 : axE (hdN h).ra (hdN h).aa = 0 := unl_t 2 hz.1.1.2.1
    have a3 : axE (hdN h).re (hdN h).ae = 0 := unl_t 2 hz.1.1.2.2
    rw [hd1_val, if_pos a1, if_pos a2, if_pos a3]; rfl
  unfold hdE hdC
  rw [if_pos h1]; rfl
theorem tcG_open {h : Hd} {l : List Dr} (hr : h.res = []) : ∀ (o : List Int) (t : Int) (d : Dr), (∀ i ∈ o, 0 ≤ i ∧ i ≤ (l.length : Int) - 1) → ∃ t', tcG ⟨h, l⟩ t d o = some t'
  | [], t, d, _ => ⟨t, rfl⟩
  | k :: r, t, d, ho => by
    have hk := ho k (by simp)
    have hx : l[k.toNat]? = some (l[k.toNat]'(by omega)) := List.getElem?_eq_getElem (by omega)
    rw [tcG]
    simp only
    rw [hx]
    have : litL h d (l[k.toNat]'(by omega)) = none := by
      unfold litL
      rw [hr]
      exact List.find?_eq_none.2 (fun x _ => by simp [resv])
    simp only [this]
    exact tcG_open hr r _ _ fun i hi => ho i (by simp [hi])
theorem coF_vals {N : Int} : ∀ (r : List Int) (e : Int) (s : List Int), (e = 0 ∨ e = 6 ∨ e = 21) → (coF N e s r = 0 ∨ coF N e s r = 6 ∨ coF N e s r = 21)
  | [], e, s, h => h
  | i :: r, e, s, h => by
    rw [coF]
    refine coF_vals r _ _ ?_
    rw [fE3, fE2']
    by_cases h0 : e = 0
    · rw [if_pos h0]
      by_cases h1 : 0 ≤ i ∧ i ≤ N - 1
      · rw [unl_t 6 h1, if_pos rfl]
        by_cases h2 : ¬ i ∈ s
        · rw [unl_t 21 h2]; exact .inl rfl
        · rw [unl_f 21 h2]; exact .inr (.inr rfl)
      · rw [unl_f 6 h1, if_neg (by decide)]; exact .inr (.inl rfl)
    · rw [if_neg h0]; exact h
theorem coF_of {N : Int} : ∀ (r s : List Int), (∀ i ∈ r, 0 ≤ i ∧ i ≤ N - 1) → (∀ i ∈ r, ¬ i ∈ s) → r.Nodup → coF N 0 s r = 0
  | [], s, _, _, _ => rfl
  | i :: r, s, h1, h2, h3 => by
    obtain ⟨n1, n2⟩ := List.nodup_cons.1 h3
    have hi := h2 i (by simp)
    rw [coF, unl_t 6 (h1 i (by simp)), unl_t 21 hi]
    exact coF_of r (s ++ [i]) (fun j hj => h1 j (by simp [hj])) (fun j hj hm => by
      rcases List.mem_append.1 hm with hm | hm
      · exact h2 j (by simp [hj]) hm
      · rw [List.mem_singleton.1 hm] at hj; exact n1 hj) n2
set_option maxHeartbeats 4000000 in
theorem k_ScanBest (h : Hd) (l : List Dr) (o : List Int) : FOk P 12 [eHd h, .vs (l.map eDr), .vs (o.map eI)] (.bool true) := by
  by_cases h8 : (h.res.length : Int) ≤ 8
  · by_cases h6 : (l.length : Int) ≤ 6
    · have h6' : (6 < (l.length : Int)) = False := by simp only [eq_iff_iff, iff_false]; omega
      by_cases hlo : (o.length : Int) = (l.length : Int)
      · have hlo' := eq_true hlo
        have hl : h.res.length ≤ 1000 := by omega
        have hl' : h.res.length ≤ 1099511627776 := by omega
        have y4 := x_rHeadErr h (by simp only [hl])
        have y5 := x_rDirectionsErr l (by simp only [eq_iff_iff, iff_true]; omega)
        by_cases c2 : hdE h = 0
        · by_cases c1 : dsE l = 0
          · have h0 : opE h l = 0 := by rw [opE_val, if_pos c2]; exact c1
            have h00 : opE (hdN h) l = 0 := by rw [opE_val, if_pos (hdN_ok c2)]; exact c1
            obtain ⟨hod, hpos⟩ := opE_z h0
            have yh := x_CopyHead h (by simp only [hl])
            have yd := x_CopyDirections l (by simp only [eq_iff_iff, iff_true]; omega)
            have yi := x_CopyInts o (by simp only [eq_iff_iff, iff_true]; omega)
            have y1 := x_OrderOfF h l (by simp only [eq_iff_iff, iff_true]; exact ⟨hl', by omega⟩)
            have y2 := x_CheckOrder h l o (by simp only [eq_iff_iff, iff_true]; exact ⟨⟨hl', by omega⟩, by omega⟩)
            have y3 := x_BoundOf h l (by simp only [eq_iff_iff, iff_true]; exact ⟨hl', by omega⟩)
            have y6 : cf_CheckOrder [.agg [.int .i64 h.home.az, .int .i64 h.home.el, .int .i64 h.ra, .int .i64 h.aa, .int .i64 h.re, .int .i64 h.ae, .vs []], .vs (l.map eDr), .vs (o.map eI)] = some (coV (hdN h) l o) := x_CheckOrder (hdN h) l o (by simp only [eq_iff_iff, iff_true]; exact ⟨⟨by simp [hdN], by omega⟩, by omega⟩)
            rw [ooV, if_pos h0] at y1
            rw [bdV, if_pos h0] at y3
            -- without sectors
            have hco : ∀ h', opE h' l = 0 → coE h' l o = coF l.length 0 [] o := fun h' hh => by
              unfold coE
              rw [hh, unl_t 10 hlo, fE2', if_pos rfl]
            have hv6 : ∃ m c : Int, coV (hdN h) l o = .tup [I m, I c] ∧ (c = 0 ∨ c = 6 ∨ c = 21) := by
              have hvals := coF_vals (N := l.length) o 0 [] (.inl rfl)
              rw [← hco _ h00] at hvals
              by_cases hz : coE (hdN h) l o = 0
              · have hz' := hz
                rw [hco _ h00] at hz'
                obtain ⟨_, z2, _, _⟩ := coF_zero hz'
                obtain ⟨t', ht'⟩ := tcG_open (h := hdN h) (l := l) rfl o 0 (hdN h).home z2
                exact ⟨t', 0, by rw [coV, if_pos hz, ht'], .inl rfl⟩
              · exact ⟨0, _, by rw [coV, if_neg hz], hvals⟩
            obtain ⟨m6, c6, e6, v6⟩ := hv6
            rw [e6] at y6
            have u6 : ((c6 = 0 ∨ c6 = 6) ∨ c6 = 21) = True := by simp only [eq_iff_iff, iff_true]; omega
            have hbest := ooB_best ⟨h, l⟩
            -- the given order
            have hv2 : ∃ m c : Int, coV h l o = .tup [I m, I c] ∧ (c = 0 → tcG ⟨h, l⟩ 0 h.home o = some m ∧ o ∈ permG l.length l.length []) := by
              by_cases hz : coE h l o = 0
              · have hz' := hz
                rw [hco _ h0] at hz'
                obtain ⟨_, z2, z3, z4⟩ := coF_zero hz'
                have hmem : o ∈ permG l.length l.length [] := perm_all (N := l.length) l.length [] o (by omega) (fun i hi => by have := z2 i hi; omega) z3 z4
                cases ht : tcG ⟨h, l⟩ 0 h.home o with
                | some t => exact ⟨t, 0, by rw [coV, if_pos hz, ht], fun _ => ⟨rfl, hmem⟩⟩
                | none => exact ⟨0, 22, by rw [coV, if_pos hz, ht], fun e => by cases e⟩
              · exact ⟨0, _, by rw [coV, if_neg hz], fun e => absurd e hz⟩
            obtain ⟨m2, c2', e2, v2⟩ := hv2
            rw [e2] at y2
            cases hob : ooB ⟨h, l⟩ with
            | none =>
              rw [hob] at y1 hbest
              simp only at y1
              have u2 : (c2' = 0) = False := by
                simp only [eq_iff_iff, iff_false]
                intro e
                obtain ⟨w1, w2⟩ := v2 e
                have := hbest o w2
                rw [w1] at this; cases this
              refine c12.fok (by simp only [free_Hs, subs, sub1, free_Se, free_Dr, free_I]) (Cor.run (addC_good g_CO (addC_good g_Before (addC_good g_rDirectionsErr (addC_good g_rHeadErr (addC_good g_BoundOf (addC_good g_OrderOfF (addC_good g_CopyInts (addC_good g_CopyDirections (addC_good g_CopyHead (addC_good g_few (addC_good g_awake (noC_good _)))))))))))) (noHx_good _) hm ?_)
              simp +contextual -implicitDefEqProofs (maxSteps := 2000000) only [bg_eq, a12, nz0, x_awake, x_few, yh, yd, yi, x_CO0, x_CO1, y1, y2, y3, y4, y5, y6, h8, h6', hlo', c1, c2, u2, u6, free_Dr, free_I, List.length_map, not_true_eq_false, not_false_eq_true, ne_eq, ruB, rh_no, Int.reduceLT, Int.reduceLE, Int.reduceAdd, Int.reduceSub, Int.reduceMul, Int.reduceNeg, Int.reduceToNat, Int.reduceEq, Int.reduceNe, Int.reduceTDiv, Int.reduceTMod, implies_true, putL, appN, appX, appC, Eng.Fi, reduceCtorEq, exists_eq_left', exists_eq_left, if_true, if_false, List.replicate, Nat.reduceAdd, Nat.reduceSub, Nat.reduceMul, Nat.reduceLeDiff, Nat.reduceLT, Nat.reduceEqDiff]
            | some q =>
              obtain ⟨p, t⟩ := q
              rw [hob] at y1 hbest
              simp only at y1
              obtain ⟨b1, b2, b3⟩ := hbest
              have b1' : p ∈ permG l.length l.length [] := b1
              have hpm := perm_mem (N := l.length) l.length [] (by simp) (by simp) p b1'
              have hpn := perm_nodup (N := l.length) _ [] p List.nodup_nil b1'
              have yp := x_CheckOrder h l p (by simp only [eq_iff_iff, iff_true]; exact ⟨⟨hl', by omega⟩, by omega⟩)
              have hcp : coE h l p = 0 := by
                unfold coE
                rw [h0, unl_t 10 (by rw [hpm.1]), fE2', if_pos rfl]
                exact coF_of p [] (fun i hi => by have := hpm.2 i hi; omega) (by simp) hpn
              have b2' : tcG ⟨h, l⟩ 0 h.home p = some t := b2
              rw [coV, if_pos hcp, b2'] at yp
              simp only at yp
              have ypi := x_CopyInts p (by simp only [eq_iff_iff, iff_true]; omega)
              have u1 : ((p.length : Int) = (l.length : Int)) = True := by simp only [eq_iff_iff, iff_true]; omega
              have u3 : (t < bdG h l 0 0 l) = False := by
                simp only [eq_iff_iff, iff_false]
                have := bound_le b1' b2'
                omega
              by_cases hc0 : c2' = 0
              · obtain ⟨w1, w2⟩ := v2 hc0
                obtain ⟨z1, z2⟩ := b3 o w2 m2 w1
                have u4 : (m2 < t) = False := by simp only [eq_iff_iff, iff_false]; omega
                have yb := x_Before o p (by simp only [eq_iff_iff, iff_true]; omega)
                by_cases hmt : m2 = t
                · have hbf : bef o p = false := by
                    rcases z2 hmt with e | e
                    · rw [e]; exact bef_irr p
                    · exact bef_asym p o e
                  rw [hbf] at yb
                  have hmt' := eq_true hmt
                  refine c12.fok (by simp only [free_Hs, subs, sub1, free_Se, free_Dr, free_I]) (Cor.run (addC_good g_CO (addC_good g_Before (addC_good g_rDirectionsErr (addC_good g_rHeadErr (addC_good g_BoundOf (addC_good g_OrderOfF (addC_good g_CopyInts (addC_good g_CopyDirections (addC_good g_CopyHead (addC_good g_few (addC_good g_awake (noC_good _)))))))))))) (noHx_good _) hm ?_)
                  simp +contextual -implicitDefEqProofs (maxSteps := 2000000) only [bg_eq, a12, nz0, x_awake, x_few, yh, yd, yi, ypi, yp, x_CO0, x_CO1, y1, y2, y3, y4, y5, y6, yb, h8, h6', hlo', c1, c2, hc0, u1, u3, u4, hmt', u6, free_Dr, free_I, List.length_map, not_true_eq_false, not_false_eq_true, ne_eq, ruB, rh_no, Int.reduceLT, Int.reduceLE, Int.reduceAdd, Int.reduceSub, Int.reduceMul, Int.reduceNeg, Int.reduceToNat, Int.reduceEq, Int.reduceNe, Int.reduceTDiv, Int.reduceTMod, implies_true, putL, appN, appX, appC, Eng.Fi, reduceCtorEq, exists_eq_left', exists_eq_left, if_true, if_false, List.replicate, Nat.reduceAdd, Nat.reduceSub, Nat.reduceMul, Nat.reduceLeDiff, Nat.reduceLT, Nat.reduceEqDiff]
                · refine c12.fok (by simp only [free_Hs, subs, sub1, free_Se, free_Dr, free_I]) (Cor.run (addC_good g_CO (addC_good g_Before (addC_good g_rDirectionsErr (addC_good g_rHeadErr (addC_good g_BoundOf (addC_good g_OrderOfF (addC_good g_CopyInts (addC_good g_CopyDirections (addC_good g_CopyHead (addC_good g_few (addC_good g_awake (noC_good _)))))))))))) (noHx_good _) hm ?_)
                  simp +contextual -implicitDefEqProofs (maxSteps := 2000000) only [bg_eq, a12, nz0, x_awake, x_few, yh, yd, yi, ypi, yp, x_CO0, x_CO1, y1, y2, y3, y4, y5, y6, yb, h8, h6', hlo', c1, c2, hc0, u1, u3, u4, hmt, u6, free_Dr, free_I, List.length_map, not_true_eq_false, not_false_eq_true, ne_eq, ruB, rh_no, Int.reduceLT, Int.reduceLE, Int.reduceAdd, Int.reduceSub, Int.reduceMul, Int.reduceNeg, Int.reduceToNat, Int.reduceEq, Int.reduceNe, Int.reduceTDiv, Int.reduceTMod, implies_true, putL, appN, appX, appC, Eng.Fi, reduceCtorEq, exists_eq_left', exists_eq_left, if_true, if_false, List.replicate, Nat.reduceAdd, Nat.reduceSub, Nat.reduceMul, Nat.reduceLeDiff, Nat.reduceLT, Nat.reduceEqDiff]
              · refine c12.fok (by simp only [free_Hs, subs, sub1, free_Se, free_Dr, free_I]) (Cor.run (addC_good g_CO (addC_good g_Before (addC_good g_rDirectionsErr (addC_good g_rHeadErr (addC_good g_BoundOf (addC_good g_OrderOfF (addC_good g_CopyInts (addC_good g_CopyDirections (addC_good g_CopyHead (addC_good g_few (addC_good g_awake (noC_good _)))))))))))) (noHx_good _) hm ?_)
                simp +contextual -implicitDefEqProofs (maxSteps := 2000000) only [bg_eq, a12, nz0, x_awake, x_few, yh, yd, yi, ypi, yp, x_CO0, x_CO1, y1, y2, y3, y4, y5, y6, h8, h6', hlo', c1, c2, hc0, u1, u3, u6, free_Dr, free_I, List.length_map, not_true_eq_false, not_false_eq_true, ne_eq, ruB, rh_no, Int.reduceLT, Int.reduceLE, Int.reduceAdd, Int.reduceSub, Int.reduceMul, Int.reduceNeg, Int.reduceToNat, Int.reduceEq, Int.reduceNe, Int.reduceTDiv, Int.reduceTMod, implies_true, putL, appN, appX, appC, Eng.Fi, reduceCtorEq, exists_eq_left', exists_eq_left, if_true, if_false, List.replicate, Nat.reduceAdd, Nat.reduceSub, Nat.reduceMul, Nat.reduceLeDiff, Nat.reduceLT, Nat.reduceEqDiff]
          · refine c12.fok (by simp only [free_Hs, subs, sub1, free_Se, free_Dr, free_I]) (Cor.run (addC_good g_rDirectionsErr (addC_good g_rHeadErr (addC_good g_few (addC_good g_awake (noC_good _))))) (noHx_good _) hm ?_)
            simp +contextual -implicitDefEqProofs (maxSteps := 2000000) only [bg_eq, a12, nz0, x_awake, x_few, y4, y5, h8, h6', hlo', c1, c2, List.length_map, not_true_eq_false, not_false_eq_true, ne_eq, ruB, rh_no, Int.reduceLT, Int.reduceLE, Int.reduceAdd, Int.reduceSub, Int.reduceMul, Int.reduceNeg, Int.reduceToNat, Int.reduceEq, Int.reduceNe, Int.reduceTDiv, Int.reduceTMod, implies_true, putL, appN, appX, appC, Eng.Fi, reduceCtorEq, exists_eq_left', exists_eq_left, if_true, if_false, List.replicate, Nat.reduceAdd, Nat.reduceSub, Nat.reduceMul, Nat.reduceLeDiff, Nat.reduceLT, Nat.reduceEqDiff]
        · refine c12.fok (by simp only [free_Hs, subs, sub1, free_Se, free_Dr, free_I]) (Cor.run (addC_good g_rDirectionsErr (addC_good g_rHeadErr (addC_good g_few (addC_good g_awake (noC_good _))))) (noHx_good _) hm ?_)
          simp +contextual -implicitDefEqProofs (maxSteps := 2000000) only [bg_eq, a12, nz0, x_awake, x_few, y4, h8, h6', hlo', c2, List.length_map, not_true_eq_false, not_false_eq_true, ne_eq, ruB, rh_no, Int.reduceLT, Int.reduceLE, Int.reduceAdd, Int.reduceSub, Int.reduceMul, Int.reduceNeg, Int.reduceToNat, Int.reduceEq, Int.reduceNe, Int.reduceTDiv, Int.reduceTMod, implies_true, putL, appN, appX, appC, Eng.Fi, reduceCtorEq, exists_eq_left', exists_eq_left, if_true, if_false, List.replicate, Nat.reduceAdd, Nat.reduceSub, Nat.reduceMul, Nat.reduceLeDiff, Nat.reduceLT, Nat.reduceEqDiff]
      · refine c12.fok (by simp only [free_Hs, subs, sub1, free_Se, free_Dr, free_I]) (Cor.run (addC_good g_rDirectionsErr (addC_good g_rHeadErr (addC_good g_few (addC_good g_awake (noC_good _))))) (noHx_good _) hm ?_)
        simp +contextual -implicitDefEqProofs (maxSteps := 2000000) only [bg_eq, a12, nz0, x_awake, x_few, h8, h6', hlo, List.length_map, not_true_eq_false, not_false_eq_true, ne_eq, ruB, rh_no, Int.reduceLT, Int.reduceLE, Int.reduceAdd, Int.reduceSub, Int.reduceMul, Int.reduceNeg, Int.reduceToNat, Int.reduceEq, Int.reduceNe, Int.reduceTDiv, Int.reduceTMod, implies_true, putL, appN, appX, appC, Eng.Fi, reduceCtorEq, exists_eq_left', exists_eq_left, if_true, if_false, List.replicate, Nat.reduceAdd, Nat.reduceSub, Nat.reduceMul, Nat.reduceLeDiff, Nat.reduceLT, Nat.reduceEqDiff]
    · have h6' : (6 < (l.length : Int)) = True := by simp only [eq_iff_iff, iff_true]; omega
      refine c12.fok (by simp only [free_Hs, subs, sub1, free_Se, free_Dr, free_I]) (Cor.run (addC_good g_rDirectionsErr (addC_good g_rHeadErr (addC_good g_few (addC_good g_awake (noC_good _))))) (noHx_good _) hm ?_)
      simp +contextual -implicitDefEqProofs (maxSteps := 2000000) only [bg_eq, a12, nz0, x_awake, x_few, h8, h6', List.length_map, not_true_eq_false, not_false_eq_true, ne_eq, ruB, rh_no, Int.reduceLT, Int.reduceLE, Int.reduceAdd, Int.reduceSub, Int.reduceMul, Int.reduceNeg, Int.reduceToNat, Int.reduceEq, Int.reduceNe, Int.reduceTDiv, Int.reduceTMod, implies_true, putL, appN, appX, appC, Eng.Fi, reduceCtorEq, exists_eq_left', exists_eq_left, if_true, if_false, List.replicate, Nat.reduceAdd, Nat.reduceSub, Nat.reduceMul, Nat.reduceLeDiff, Nat.reduceLT, Nat.reduceEqDiff]
  · refine c12.fok (by simp only [free_Hs, subs, sub1, free_Se, free_Dr, free_I]) (Cor.run (addC_good g_rDirectionsErr (addC_good g_rHeadErr (addC_good g_few (addC_good g_awake (noC_good _))))) (noHx_good _) hm ?_)
    simp +contextual -implicitDefEqProofs (maxSteps := 2000000) only [bg_eq, a12, nz0, x_awake, x_few, h8, not_true_eq_false, not_false_eq_true, ne_eq, ruB, rh_no, Int.reduceLT, Int.reduceLE, Int.reduceAdd, Int.reduceSub, Int.reduceMul, Int.reduceNeg, Int.reduceToNat, Int.reduceEq, Int.reduceNe, Int.reduceTDiv, Int.reduceTMod, implies_true, putL, appN, appX, appC, Eng.Fi, reduceCtorEq, exists_eq_left', exists_eq_left, if_true, if_false, List.replicate, Nat.reduceAdd, Nat.reduceSub, Nat.reduceMul, Nat.reduceLeDiff, Nat.reduceLT, Nat.reduceEqDiff]
theorem arDirs {n : Nat} {u : AV} (h : ArG P n 98 u) : ∃ l : List Dr, u = .vs (l.map eDr) := by
  have := h.one 5 (k := .sl true [.i, .i]) (by kernel_rfl) (by kernel_rfl)
  simp only [ShV1] at this
  obtain ⟨l, rfl, hl, _⟩ := this
  obtain ⟨gs, e1, _⟩ := sl_enc (α := Dr) eDr (ag := true) (fun p hp => by
    simp only [ShV, ShV1] at hp
    obtain ⟨_, _, rfl, ⟨a, rfl, _⟩, _, _, rfl, ⟨b, rfl, _⟩, rfl⟩ := hp
    exact ⟨⟨a, b⟩, rfl⟩) hl
  rw [e1]
  exact ⟨gs, rfl⟩
theorem arInts {n : Nat} {u : AV} (h : ArG P n 84 u) : ∃ l : List Int, u = .vs (l.map eI) := by
  have := h.one 5 (k := .sl false [.i]) (by kernel_rfl) (by kernel_rfl)
  simp only [ShV1] at this
  obtain ⟨l, rfl, hl, _⟩ := this
  obtain ⟨gs, e1, _⟩ := sl_enc (α := Int) eI (ag := false) (fun p hp => by
    simp only [ShV, ShV1] at hp
    obtain ⟨_, _, rfl, ⟨a, rfl, _⟩, rfl⟩ := hp
    exact ⟨a, rfl⟩) hl
  rw [e1]
  exact ⟨gs, rfl⟩
theorem law12 (n0 : Nat) (u0 : AV) (a0 : ArG P n0 42 u0) (n1 : Nat) (u1 : AV) (a1 : ArG P n1 98 u1) (n2 : Nat) (u2 : AV) (a2 : ArG P n2 84 u2) : FOk P 12 [u0, u1, u2] (.bool true) := by
  obtain ⟨h, rfl, _⟩ := arHead a0
  obtain ⟨l, rfl⟩ := arDirs a1
  obtain ⟨o, rfl⟩ := arInts a2
  exact k_ScanBest h l o
end Sc
