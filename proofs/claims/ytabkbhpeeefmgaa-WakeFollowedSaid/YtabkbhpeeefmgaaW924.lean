import Derived.Test.YtabkbhpeeefmgaaEngS9
import Derived.Test.YtabkbhpeeefmgaaW923
import Derived.Test.YtabkbhpeeefmgaaW922
open Go Go.Proofs Eng
set_option maxRecDepth 100000
set_option linter.unusedSimpArgs false
set_option linter.unusedVariables false
def a14 : AC := .seq (.ops false [] [⟨some 2, .p (.mov), [.c (.bool false)], none⟩]) (.seq (.seq (.ops false [] [⟨some 4, .p (.mov), [.t 0], none⟩, ⟨some 5, .p (.lenS), [.t 4], none⟩, ⟨some 6, .p (.binI .gtr), [.t 5, .c (.int .i64 8)], none⟩]) (.cond (.t 6) (.seq (.ops false [] [⟨some 2, .p (.mov), [.c (.bool false)], none⟩]) (.ret)) (.skip))) (.seq (.seq (.ops false [] [⟨some 3, .p (.mov), [.c (.int .i64 0)], none⟩]) (.block 0 (.loop (.seq (.seq (.ops false [] [⟨some 7, .p (.mov), [.t 3], none⟩, ⟨some 8, .p (.mov), [.t 0], none⟩, ⟨some 9, .p (.lenS), [.t 8], none⟩, ⟨some 10, .p (.binI .lss), [.t 7, .t 9], none⟩]) (.cond (.t 10) (.skip) (.exit 0))) (.seq (.block 1 (.seq (.ops true [] [⟨some 13, .p (.mov), [.t 0], none⟩, ⟨some 14, .p (.mov), [.t 3], none⟩, ⟨some 15, .p (.iaddrS 1), [.t 13, .t 14], none⟩, ⟨some 16, .load 1 false, [.t 15], none⟩, ⟨some 17, .call 41, [.t 16], none⟩, ⟨some 18, .p (.notB), [.t 17], none⟩, ⟨some 19, .p (.mov), [.t 18], none⟩, ⟨some 20, .p (.mov), [.t 3], some (19, false)⟩, ⟨some 21, .p (.binI .gtr), [.t 20, .c (.int .i64 0)], some (19, false)⟩, ⟨some 22, .p (.mov), [.t 21], some (19, false)⟩, ⟨some 23, .p (.mov), [.t 0], some (22, true)⟩, ⟨some 24, .p (.mov), [.t 3], some (22, true)⟩, ⟨some 25, .p (.iaddrS 1), [.t 23, .t 24], some (22, true)⟩, ⟨some 26, .load 1 false, [.t 25], some (22, true)⟩, ⟨some 27, .p (.lenS), [.t 26], some (22, true)⟩, ⟨some 28, .p (.mov), [.t 0], some (22, true)⟩, ⟨some 29, .p (.mov), [.t 3], some (22, true)⟩, ⟨some 30, .p (.binI .sub), [.t 29, .c (.int .i64 1)], some (22, true)⟩, ⟨some 31, .p (.iaddrS 1), [.t 28, .t 30], some (22, true)⟩, ⟨some 32, .load 1 false, [.t 31], some (22, true)⟩, ⟨some 33, .p (.lenS), [.t 32], some (22, true)⟩, ⟨some 34, .p (.binI .add), [.t 27, .t 33], some (22, true)⟩, ⟨some 35, .p (.binI .gtr), [.t 34, .c (.int .i64 5)], some (22, true)⟩, ⟨some 36, .p (.pick), [.t 22, .t 35, .c (.bool false)], some (19, false)⟩, ⟨some 37, .p (.mov), [.t 36], some (19, false)⟩, ⟨some 38, .p (.mov), [.t 0], some (37, true)⟩, ⟨some 39, .call 17, [.t 38, .c (.int .i64 0)], some (37, true)⟩, ⟨some 40, .p (.binI .eql), [.t 39, .c (.int .i64 0)], some (37, true)⟩, ⟨some 41, .p (.pick), [.t 37, .t 40, .c (.bool false)], some (19, false)⟩, ⟨some 42, .p (.pick), [.t 19, .c (.bool true), .t 41], none⟩]) (.cond (.t 42) (.seq (.ops false [] [⟨some 2, .p (.mov), [.c (.bool false)], none⟩]) (.ret)) (.skip)))) (.ops false [] [⟨some 11, .p (.mov), [.t 3], none⟩, ⟨some 12, .p (.binI .add), [.t 11, .c (.int .i64 1)], none⟩, ⟨some 3, .p (.mov), [.t 12], none⟩])))))) (.seq (.ops false [] [⟨some 2, .p (.mov), [.c (.bool true)], none⟩]) (.ret))))
theorem c14 : FnC Try.prog 14 43 a14 [.tmp 2] := ⟨Try.call14, _, _, Try.func14, rfl, by kernel_rfl, by kernel_rfl, rfl⟩
namespace Wa
end Wa
open Go Go.Proofs Eng
set_option maxRecDepth 100000
set_option linter.unusedSimpArgs false
set_option linter.unusedVariables false
namespace Wa
def lkS (l : List Vs) (n : Int) (t : Nat) : L := liV (pvS l t) ((l[t]?).getD []) n
def inR2 (l : List Vs) (t m : Nat) (x : Int × Int) : Prop := ∃ a b : Nat, x = ((a : Int), (b : Int)) ∧ b < ((l[a]?).getD []).length ∧ (a < t ∨ (a = t ∧ b < m))
def stp (l : List Vs) (n : Int) (p q : Int × Int) : Prop := ∃ a i k : Nat, p = ((a : Int), (i : Int)) ∧ q = (((a + 1 : Nat) : Int), (k : Int)) ∧ (lkS l n (a + 1))[i]? = some (k : Int)
def cnt (l : List Vs) : Nat → Nat
  | 0 => 0
  | t + 1 => cnt l t + ((l[t]?).getD []).length
structure fT (l : List Vs) (n : Int) (t m : Nat) (tr : List Tr) : Prop where
  ne : ∀ x ∈ tr, x ≠ []
  rg : ∀ x ∈ tr, ∀ p ∈ x, inR2 l t m p
  ch : ∀ x ∈ tr, ∀ i, ∀ h : i + 1 < x.length, stp l n x[i] x[i + 1]
  nd : tr.flatten.Nodup
  ct : tr.flatten.length = cnt l t + m
structure fI (l : List Vs) (n : Int) (t m : Nat) (tr : List Tr) (now : L) : Prop where
  T : fT l n t m tr
  nw : ∀ k j : Nat, now[k]? = some (j : Int) → ∃ x, tr[j]? = some x ∧ (k < m → x.getLast? = some ((t : Int), (k : Int))) ∧ (m ≤ k → ∃ i : Nat, 0 < t ∧ x.getLast? = some (((t - 1 : Nat) : Int), (i : Int)) ∧ (lkS l n t)[i]? = some (k : Int))
  al : ∀ k, k < m → ∃ j : Nat, now[k]? = some (j : Int)
structure fQ (l : List Vs) (n : Int) (t : Nat) (tr : List Tr) (prev : L) : Prop where
  T : fT l n t 0 tr
  nw : 0 < t → prev.length = (pvS l t).length ∧ ∀ i, i < prev.length → ∃ j : Nat, prev[i]? = some (j : Int) ∧ ∃ x, tr[j]? = some x ∧ x.getLast? = some (((t - 1 : Nat) : Int), (i : Int))
theorem flat_set {α : Type} (e : α) : ∀ (tr : List (List α)) (j : Nat) (x : List α), tr[j]? = some x → ((tr.set j (x ++ [e])).flatten).Perm (e :: tr.flatten)
  | [], j, x, h => by simp at h
  | y :: tr, 0, x, h => by
    simp only [List.getElem?_cons_zero, Option.some.injEq] at h
    subst h
    rw [List.set_cons_zero, List.flatten_cons, List.flatten_cons, List.append_assoc]
    exact List.perm_middle
  | y :: tr, j + 1, x, h => by
    rw [List.getElem?_cons_succ] at h
    rw [List.set_cons_succ, List.flatten_cons, List.flatten_cons]
    exact ((flat_set e tr j x h).append_left y).trans List.perm_middle
theorem inR2_mono {l : List Vs} {t m : Nat} {x : Int × Int} (h : inR2 l t m x) : inR2 l t (m + 1) x := by
  obtain ⟨a, b, h1, h2, h3⟩ := h
  exact ⟨a, b, h1, h2, by omega⟩
theorem fresh_x {l : List Vs} {n : Int} {t m : Nat} {tr : List Tr} (h : fT l n t m tr) : ¬ ((t : Int), (m : Int)) ∈ tr.flatten := fun hm => by
  obtain ⟨x, hx, hp⟩ := List.mem_flatten.1 hm
  obtain ⟨a, b, e, _, h3⟩ := h.rg x hx _ hp
  simp only [Prod.mk.injEq] at e
  omega
theorem ch_snoc {l : List Vs} {n : Int} {x : Tr} {q : Int × Int} (h : ∀ i, ∀ h : i + 1 < x.length, stp l n x[i] x[i + 1]) {p : Int × Int} (hp : x.getLast? = some p) (hq : stp l n p q) :
    ∀ i, ∀ h : i + 1 < (x ++ [q]).length, stp l n (x ++ [q])[i] (x ++ [q])[i + 1] := fun i hi => by
  rw [List.length_append, List.length_singleton] at hi
  by_cases e : i + 1 < x.length
  · rw [List.getElem_append_left (by omega), List.getElem_append_left e]
    exact h i e
  · have ei : i + 1 = x.length := by omega
    rw [List.getElem_append_left (by omega), List.getElem_append_right (by omega)]
    have h1 : x[i]'(by omega) = p := by
      rw [List.getLast?_eq_getElem?] at hp
      rw [show x.length - 1 = i by omega, List.getElem?_eq_getElem (by omega)] at hp
      exact Option.some.inj hp
    rw [h1]
    simp only [ei, Nat.sub_self, List.getElem_cons_zero]
    exact hq
/-- one vortex more -/
theorem fI_step {l : List Vs} {n : Int} {t m : Nat} {tr : List Tr} {now : L} (h : fI l n t m tr now) (hm : m < now.length) (hl : m < ((l[t]?).getD []).length) :
    fI l n t (m + 1) (tkS t (tr, now) m).1 (tkS t (tr, now) m).2 := by
  have hgm : now[m]? = some now[m] := List.getElem?_eq_getElem hm
  have hfr := fresh_x h.T
  unfold tkS
  simp only [hgm, Option.getD_some]
  split
  · rename_i hneg
    refine ⟨⟨fun x hx => ?_, fun x hx p hp => ?_, fun x hx => ?_, ?_, ?_⟩, fun k j hk => ?_, fun k hk => ?_⟩
    · rcases List.mem_append.1 hx with hx | hx
      · exact h.T.ne x hx
      · rw [List.mem_singleton.1 hx]; simp
    · rcases List.mem_append.1 hx with hx | hx
      · exact inR2_mono (h.T.rg x hx p hp)
      · rw [List.mem_singleton.1 hx] at hp
        rw [List.mem_singleton.1 hp]
        exact ⟨t, m, rfl, hl, .inr ⟨rfl, Nat.lt_succ_self m⟩⟩
    · rcases List.mem_append.1 hx with hx | hx
      · exact h.T.ch x hx
      · rw [List.mem_singleton.1 hx]
        intro i hi
        simp at hi
    · rw [List.flatten_append, List.nodup_append]
      refine ⟨h.T.nd, by simp, fun a ha b hb => ?_⟩
      simp only [List.flatten_cons, List.flatten_nil, List.append_nil, List.mem_singleton] at hb
      subst hb
      exact fun e => hfr (by rw [← e]; exact ha)
    · rw [List.flatten_append, List.length_append, h.T.ct]
      simp only [List.flatten_cons, List.flatten_nil, List.append_nil, List.length_singleton]
      omega
    · by_cases e : k = m
      · subst e
        rw [List.getElem?_set_self hm] at hk
        have hj : j = tr.length := by have := Option.some.inj hk; omega
        subst hj
        exact ⟨[((t : Int), (k : Int))], by simp, fun _ => rfl, fun q => by omega⟩
      · rw [List.getElem?_set_ne (fun q => e q.symm)] at hk
        obtain ⟨x, h1, h2, h3⟩ := h.nw k j hk
        exact ⟨x, by rw [List.getElem?_append_left (List.getElem?_eq_some_iff.1 h1).1]; exact h1, fun q => h2 (by omega), fun q => h3 (by omega)⟩
    · by_cases e : k = m
      · subst e
        exact ⟨tr.length, by rw [List.getElem?_set_self hm]⟩
      · rw [List.getElem?_set_ne (fun q => e q.symm)]
        exact h.al k (by omega)
  · rename_i hpos
    obtain ⟨j, hj⟩ : ∃ j : Nat, now[m] = (j : Int) := ⟨now[m].toNat, by omega⟩
    have hgj : now[m]? = some (j : Int) := by rw [hgm, hj]
    obtain ⟨x, hx1, _, hx3⟩ := h.nw m j hgj
    obtain ⟨i, ht, hlast, hlk⟩ := hx3 (Nat.le_refl m)
    have hxm : x ∈ tr := List.mem_of_getElem? hx1
    have hjl := (List.getElem?_eq_some_iff.1 hx1).1
    have hperm := flat_set ((t : Int), (m : Int)) tr j x hx1
    have hsp : stp l n (((t - 1 : Nat) : Int), (i : Int)) ((t : Int), (m : Int)) := ⟨t - 1, i, m, rfl, by rw [show t - 1 + 1 = t by omega], by rw [show t - 1 + 1 = t by omega]; exact hlk⟩
    rw [hj, Int.toNat_natCast, hx1, Option.getD_some]
    refine ⟨⟨fun y hy => ?_, fun y hy p hp => ?_, fun y hy => ?_, ?_, ?_⟩, fun k j' hk => ?_, fun k hk => ?_⟩
    · rcases List.mem_or_eq_of_mem_set hy with hy | rfl
      · exact h.T.ne y hy
      · simp
    · rcases List.mem_or_eq_of_mem_set hy with hy | rfl
      · exact inR2_mono (h.T.rg y hy p hp)
      · rcases List.mem_append.1 hp with hp | hp
        · exact inR2_mono (h.T.rg x hxm p hp)
        · rw [List.mem_singleton.1 hp]
          exact ⟨t, m, rfl, hl, .inr ⟨rfl, Nat.lt_succ_self m⟩⟩
    · rcases List.mem_or_eq_of_mem_set hy with hy | rfl
      · exact h.T.ch y hy
      · exact ch_snoc (h.T.ch x hxm) hlast hsp
    · exact (hperm.nodup_iff).2 (List.nodup_cons.2 ⟨hfr, h.T.nd⟩)
    · rw [hperm.length_eq, List.length_cons, h.T.ct]; omega
    · obtain ⟨y, hy1, hy2, hy3⟩ := h.nw k j' hk
      by_cases ej : j' = j
      · subst ej
        rw [hx1] at hy1
        have hyx : x = y := Option.some.inj hy1
        subst hyx
        refine ⟨x ++ [((t : Int), (m : Int))], by rw [List.getElem?_set_self hjl], fun q => ?_, fun q => ?_⟩
        · by_cases e : k = m
          · subst e; simp
          · have := hy2 (by omega)
            rw [hlast] at this
            have := Option.some.inj this
            simp only [Prod.mk.injEq] at this
            omega
        · obtain ⟨i', _, h5, h6⟩ := hy3 (by omega)
          rw [hlast] at h5
          have := Option.some.inj h5
          simp only [Prod.mk.injEq] at this
          have ei : i = i' := by omega
          rw [← ei, hlk] at h6
          have := Option.some.inj h6
          omega
      · refine ⟨y, by rw [List.getElem?_set_ne (fun q => ej q.symm)]; exact hy1, fun q => ?_, fun q => hy3 (by omega)⟩
        by_cases e : k = m
        · subst e
          rw [hgj] at hk
          have := Option.some.inj hk
          omega
        · exact hy2 (by omega)
    · by_cases e : k = m
      · subst e; exact ⟨j, hgj⟩
      · exact h.al k (by omega)
theorem tkS_len (t : Int) (q : List Tr × L) (k : Nat) : (tkS t q k).2.length = q.2.length := by
  unfold tkS
  split <;> simp
theorem fI_scan {l : List Vs} {n : Int} {t : Nat} : ∀ (d m : Nat) (q : List Tr × L), fI l n t m q.1 q.2 → m + d = q.2.length → q.2.length = ((l[t]?).getD []).length →
    fI l n t (m + d) ((List.range' m d).foldl (tkS t) q).1 ((List.range' m d).foldl (tkS t) q).2 ∧ ((List.range' m d).foldl (tkS t) q).2.length = q.2.length
  | 0, m, q, h, _, _ => ⟨h, rfl⟩
  | d + 1, m, q, h, hd, hl => by
    rw [List.range'_succ, List.foldl_cons]
    have hs := fI_step h (by omega) (by omega)
    have h1 := fI_scan d (m + 1) (tkS t q m) hs (by rw [tkS_len]; omega) (by rw [tkS_len]; exact hl)
    rw [tkS_len] at h1
    rwa [show m + 1 + d = m + (d + 1) by omega] at h1
theorem lkN_get : ∀ (r now prev : L) (i0 k : Nat) (x : Int), (lkN now prev i0 r)[k]? = some x → now[k]? = some x ∨ ∃ i : Nat, r[i]? = some (k : Int) ∧ x = (prev[i0 + i]?).getD 0
  | [], now, prev, i0, k, x, h => .inl h
  | c :: r, now, prev, i0, k, x, h => by
    rw [lkN] at h
    rcases lkN_get r _ prev (i0 + 1) k x h with h1 | ⟨i, h1, h2⟩
    · split at h1
      · rename_i hc
        by_cases e : c.toNat = k
        · rw [List.getElem?_set, if_pos e] at h1
          split at h1
          · refine .inr ⟨0, ?_, ?_⟩
            · rw [List.getElem?_cons_zero]; congr 1; omega
            · rw [Nat.add_zero]; exact (Option.some.inj h1).symm
          · cases h1
        · rw [List.getElem?_set_ne e] at h1
          exact .inl h1
      · exact .inl h1
    · exact .inr ⟨i + 1, by rw [List.getElem?_cons_succ]; exact h1, by rw [h2]; congr 2; omega⟩
theorem fQ_fI {l : List Vs} {n : Int} {t : Nat} {tr : List Tr} {prev : L} (h : fQ l n t tr prev) (hlen : t ≠ 0 → (lkS l n t).length = (pvS l t).length) : fI l n t 0 tr (tkNow n t (pvS l t) ((l[t]?).getD []) prev) := by
  refine ⟨h.T, fun k j hk => ?_, fun k hk => by omega⟩
  unfold tkNow at hk
  split at hk
  · rw [List.getElem?_replicate] at hk
    split at hk
    · have := Option.some.inj hk; omega
    · cases hk
  · rename_i ht
    rcases lkN_get _ _ _ _ _ _ hk with h1 | ⟨i, h1, h2⟩
    · rw [List.getElem?_replicate] at h1
      split at h1
      · have := Option.some.inj h1; omega
      · cases h1
    · obtain ⟨hp1, hp2⟩ := h.nw (by omega)
      have hi : i < prev.length := by
        have := (List.getElem?_eq_some_iff.1 h1).1
        have h3 := hlen ht
        unfold lkS at h3
        omega
      obtain ⟨j', hj', x, hx1, hx2⟩ := hp2 i hi
      rw [Nat.zero_add, hj', Option.getD_some] at h2
      have ej : j = j' := by omega
      subst ej
      exact ⟨x, hx1, fun q => by omega, fun _ => ⟨i, by omega, hx2, h1⟩⟩
theorem fI_fQ {l : List Vs} {n : Int} {t : Nat} {tr : List Tr} {now : L} (hl : now.length = ((l[t]?).getD []).length) (h : fI l n t now.length tr now) : fQ l n (t + 1) tr now := by
  refine ⟨⟨h.T.ne, fun x hx p hp => ?_, h.T.ch, h.T.nd, ?_⟩, fun _ => ⟨?_, fun i hi => ?_⟩⟩
  · obtain ⟨a, b, h1, h2, h3⟩ := h.T.rg x hx p hp
    exact ⟨a, b, h1, h2, .inl (by omega)⟩
  · rw [h.T.ct, cnt, hl]; rfl
  · rw [hl]
    unfold pvS
    rw [if_neg (by omega), Nat.add_sub_cancel]
  · obtain ⟨j, hj⟩ := h.al i hi
    obtain ⟨x, h1, h2, _⟩ := h.nw i j hj
    exact ⟨j, hj, x, h1, by rw [Nat.add_sub_cancel]; exact h2 hi⟩
theorem fQ_all {l : List Vs} {n : Int} (hlen : ∀ t, 0 < t → t < l.length → (lkS l n t).length = (pvS l t).length) : ∀ (r : List Vs) (t : Nat) (prev : L) (tr : List Tr), t ≤ l.length → l.drop t = r → fQ l n t tr prev → fT l n l.length 0 (tkG n t (pvS l t) prev tr r)
  | [], t, prev, tr, ht, hr, h => by
    have : t = l.length := by
      have := congrArg List.length hr
      simp at this; omega
    subst this
    exact h.T
  | s :: r, t, prev, tr, ht, hr, h => by
    have hlt : t < l.length := by
      have := congrArg List.length hr
      simp at this; omega
    have hs : l[t] = s ∧ l.drop (t + 1) = r := by
      rw [List.drop_eq_getElem_cons hlt] at hr
      injection hr with h1 h2
      exact ⟨h1, h2⟩
    have hg : (l[t]?).getD [] = s := by rw [List.getElem?_eq_getElem hlt, Option.getD_some, hs.1]
    have hpv : pvS l (t + 1) = s := by
      unfold pvS
      rw [if_neg (by omega), Nat.add_sub_cancel, hg]
    rw [tkG]
    have h1 := fQ_fI h fun h0 => hlen t (by omega) hlt
    rw [hg] at h1
    have hnl := now_len n t (pvS l t) s prev
    generalize tkNow n t (pvS l t) s prev = now at *
    have h2 := fI_scan (l := l) (n := n) (t := t) s.length 0 (tr, now) h1 (by simp only; omega) (by rw [hg]; exact hnl)
    rw [Nat.zero_add] at h2
    rw [tkScan, List.range_eq_range']
    generalize (List.range' 0 s.length).foldl (tkS t) (tr, now) = q at *
    obtain ⟨h3, h4⟩ := h2
    simp only at h4
    have h5 : fQ l n (t + 1) q.1 q.2 := fI_fQ (by rw [h4, hnl, hg]) (by rw [h4, hnl]; exact h3)
    have := fQ_all hlen r (t + 1) q.2 q.1 hlt hs.2 h5
    rwa [hpv] at this
theorem lkS_len {l : List Vs} {n : Int} (h0 : soE l n = 0) {t : Nat} (ht : 0 < t) (hl : t < l.length) : olE (pvS l t) ((l[t]?).getD []) n = 0 ∧ (lkS l n t).length = (pvS l t).length := by
  have hlt1 : t - 1 < l.length := by omega
  have hpv : pvS l t = l[t - 1] := by
    unfold pvS
    rw [if_neg (by omega), List.getElem?_eq_getElem hlt1]; rfl
  have hol := soE_pair h0 (List.getElem_mem hlt1) (List.getElem_mem hl)
  rw [← hpv] at hol
  have hg : (l[t]?).getD [] = l[t] := by rw [List.getElem?_eq_getElem hl]; rfl
  rw [← hg] at hol
  exact ⟨hol, liV_len2 hol⟩
theorem tk_fT {l : List Vs} {n : Int} (h0 : soE l n = 0) : fT l n l.length 0 (tkV n l) :=
  fQ_all (fun t h1 h2 => (lkS_len h0 h1 h2).2) l 0 [] [] (Nat.zero_le _) rfl ⟨⟨by simp, by simp, by simp, by simp, rfl⟩, fun h => by omega⟩
end Wa
open Go Go.Proofs Eng
set_option maxRecDepth 100000
set_option linter.unusedSimpArgs false
set_option linter.unusedVariables false
namespace Wa
theorem lkL_cell {a b : Vs} {n : Int} {i j : Nat} (hi : i < a.length + b.length) (hj : j < a.length + b.length) : cell (lkL a b n) i (j : Int) = lkE a b n i j := by
  unfold cell lkL lkM lkR
  rw [List.getElem?_map, List.getElem?_range hi]
  simp only [Option.map_some, Option.bind_some, Int.toNat_natCast]
  rw [List.getElem?_map, List.getElem?_range hj]; rfl
theorem lk_cost {a b : Vs} {n : Int} (h : olE a b n = 0) {i k : Nat} (hi : i < a.length) (hk : k < b.length) (hlk : (liV a b n)[i]? = some (k : Int)) : offV a[i] b[k] ≤ 2 * n := by
  have hb := olE_z h
  have hl : (lkL a b n).length = a.length + b.length := by rw [lkL, lkM_len]
  have hma := lkL_ok hb (by omega)
  obtain ⟨ha, hcst⟩ := asV_asg (lkL a b n)
  have hs := asV_sim (lkL a b n)
  unfold liV at hlk
  rw [if_neg (by omega)] at hlk
  have hasd : (chV (lkL a b n)).1.headD [] = asV (lkL a b n) := rfl
  rw [hasd, List.getElem?_map, List.getElem?_take, if_pos hi] at hlk
  generalize asV (lkL a b n) = p at *
  have hpi : pN p i = k := by
    have hil : i < p.length := by rw [ha.n, hl]; omega
    rw [List.getElem?_eq_getElem hil] at hlk
    simp only [Option.map_some, Option.some.injEq] at hlk
    have hk0 : pK p i = p[i] := by rw [pK, gk, List.getElem?_eq_getElem hil]; rfl
    unfold liG at hlk
    split at hlk
    · omega
    · unfold pN; rw [hk0]; omega
  -- a row without a vortex whose column is without one
  have hr : ∃ r, a.length ≤ r ∧ r < a.length + b.length ∧ b.length ≤ pN p r := by
    refine Classical.byContradiction fun hno => ?_
    have hall : ∀ r, a.length ≤ r → r < a.length + b.length → pN p r < b.length := fun r h1 h2 => Nat.lt_of_not_ge fun h3 => hno ⟨r, h1, h2, h3⟩
    have hnd : ((i :: List.range' a.length b.length).map (pN p)).Nodup := by
      have hin : ∀ x ∈ i :: List.range' a.length b.length, x < (lkL a b n).length := fun x hx => by
        rw [hl]
        rcases List.mem_cons.1 hx with rfl | hx
        · omega
        · have := List.mem_range'_1.1 hx; omega
      have hnd0 : (i :: List.range' a.length b.length).Nodup := List.nodup_cons.2 ⟨fun hx => by have := List.mem_range'_1.1 hx; omega, List.nodup_range'⟩
      refine List.pairwise_map.2 (List.Pairwise.imp_of_mem (fun {x y} hx hy hne => ?_) hnd0)
      exact fun e => hne (asg_inj ha (hin x hx) (hin y hy) e)
    have hle := nodup_len hnd (N := b.length) fun x hx => by
      obtain ⟨y, hy, rfl⟩ := List.mem_map.1 hx
      rcases List.mem_cons.1 hy with rfl | hy
      · omega
      · have := List.mem_range'_1.1 hy
        exact hall y (by omega) (by omega)
    rw [List.length_map, List.length_cons, List.length_range'] at hle
    omega
  obtain ⟨r, hr1, hr2, hr3⟩ := hr
  have hpr := asg_lt ha (i := r) (by rw [hl]; exact hr2)
  have hpi2 := asg_lt ha (i := i) (by rw [hl]; omega)
  have hc := hs i [r] (List.nodup_cons.2 ⟨fun q => by have := List.mem_singleton.1 q; omega, by simp⟩) (fun u hu => by
    rw [hl]
    simp at hu
    rcases hu with rfl | rfl <;> omega)
  simp only [List.singleton_append, wtF, wK] at hc
  rw [← hpr.2.1, ← hpi2.2.1, hpi] at hc
  have hprl : pN p r < a.length + b.length := by have := hpr.2.2; omega
  rw [lkL_cell (by omega) hprl, lkL_cell (by omega) (by omega), lkL_cell hr2 (by omega), lkL_cell hr2 hprl] at hc
  have e1 : lkE a b n i (pN p r) = n := by
    unfold lkE
    rw [List.getElem?_eq_getElem hi, List.getElem?_eq_none hr3]
  have e2 : lkE a b n i k = offV a[i] b[k] := by
    unfold lkE
    rw [List.getElem?_eq_getElem hi, List.getElem?_eq_getElem hk]
  have e3 : lkE a b n r k = n := by
    unfold lkE
    rw [List.getElem?_eq_none hr1, List.getElem?_eq_getElem hk]
  have e4 : lkE a b n r (pN p r) = 0 := by
    unfold lkE
    rw [List.getElem?_eq_none hr1, List.getElem?_eq_none hr3]
  rw [e1, e2, e3, e4] at hc
  omega
/-- the scans of a track come one after the other -/
theorem tr_first {l : List Vs} {n : Int} {x : Tr} (h : ∀ i, ∀ h : i + 1 < x.length, stp l n x[i] x[i + 1]) (h0 : 0 < x.length) : ∀ i, ∀ hi : i < x.length, x[i].1 = x[0].1 + i
  | 0, hi => by simp
  | i + 1, hi => by
    have h1 := tr_first h h0 i (by omega)
    obtain ⟨a, i', k, e1, e2, _⟩ := h i hi
    rw [e2]
    rw [e1] at h1
    simp only at h1 ⊢
    omega
theorem tr_len {l : List Vs} {n : Int} {tr : List Tr} (h : fT l n l.length 0 tr) {x : Tr} (hx : x ∈ tr) : 0 < x.length ∧ x.length ≤ l.length := by
  have h0 : 0 < x.length := List.length_pos_iff.2 (h.ne x hx)
  refine ⟨h0, ?_⟩
  have h1 := tr_first (h.ch x hx) h0 (x.length - 1) (by omega)
  obtain ⟨a, b, e, _, h2⟩ := h.rg x hx x[0] (List.getElem_mem h0)
  obtain ⟨a', b', e', _, h3⟩ := h.rg x hx (x[x.length - 1]'(by omega)) (List.getElem_mem (by omega))
  rw [e, e'] at h1
  simp only at h1
  omega
end Wa
open Go Go.Proofs Eng
set_option maxRecDepth 100000
set_option linter.unusedSimpArgs false
set_option linter.unusedVariables false
namespace Wa
def gv (l : List Vs) (i : Nat) : Vs := (l[i]?).getD []
def scI (l : List Vs) (i : Nat) : Prop := 5 < ((gv l i).length : Int) ∨ ((0 < i ∧ 5 < ((gv l i).length : Int) + ((gv l (i - 1)).length : Int)) ∧ soE l 0 = 0)
instance (l : List Vs) (i : Nat) : Decidable (scI l i) := by unfold scI; infer_instance
def scB (l : List Vs) : Nat → Nat → Bool
  | 0, _ => true
  | k + 1, i => if scI l i then false else scB l k (i + 1)
def scV (l : List Vs) : Bool := if 8 < (l.length : Int) then false else scB l l.length 0
theorem scB_z {l : List Vs} : ∀ {k i : Nat}, scB l k i = true → ∀ j, i ≤ j → j < i + k → (gv l j).length ≤ 5
  | 0, i, _, j, h1, h2 => by omega
  | k + 1, i, h, j, h1, h2 => by
    rw [scB] at h
    split at h
    · cases h
    · rename_i h0
      by_cases e : j = i
      · rw [e]
        exact Nat.le_of_not_lt fun q => h0 (.inl (by omega))
      · exact scB_z h j (by omega) (by omega)
theorem scV_z {l : List Vs} (h : scV l = true) : l.length ≤ 8 ∧ ∀ s ∈ l, s.length ≤ 5 := by
  unfold scV at h
  split at h
  · cases h
  · refine ⟨by omega, fun s hs => ?_⟩
    obtain ⟨j, hj, rfl⟩ := List.mem_iff_getElem.1 hs
    have := scB_z h j (Nat.zero_le _) (by omega)
    unfold gv at this
    rwa [List.getElem?_eq_getElem hj] at this
def S_sd (l : List Vs) (k : Nat) : AState := ⟨[.vs (l.map eVs), .any, .any, I k, .any, .any, .any, .any, .any, .any, .any, .any, .any, .any, .any, .any, .any, .any, .any, .any, .any, .any, .any, .any, .any, .any, .any, .any, .any, .any, .any, .any, .any, .any, .any, .any, .any, .any, .any, .any, .any, .any, .any], [], 0⟩
theorem k_scanned6 (l : List Vs) (hl : l.length ≤ maxLen ∧ ∀ s ∈ l, s.length ≤ maxLen) : FOk P 14 [.vs (l.map eVs)] (.bool (scV l)) := by
  unfold scV
  by_cases h8 : 8 < (l.length : Int)
  · have h8' := eq_true h8
    rw [if_pos h8]
    refine c14.fok (by simp only [subs, sub1, free_Vs]) (Cor.run (addC_good g_rScansErr (addC_good g_brief6 (noC_good _))) (noHx_good _) hm ?_)
    simp +contextual -implicitDefEqProofs (maxSteps := 2000000) only [bg_eq, a14, List.length_map, h8', ruB, rh_no, Int.reduceLT, Int.reduceLE, Int.reduceAdd, Int.reduceSub, Int.reduceMul, Int.reduceNeg, Int.reduceToNat, Int.reduceEq, Int.reduceNe, Int.reduceTDiv, Int.reduceTMod, implies_true, putL, appN, appX, appC, Eng.Fi, reduceCtorEq, exists_eq_left', exists_eq_left, if_true, if_false, List.replicate, Nat.reduceAdd, Nat.reduceSub, Nat.reduceMul, Nat.reduceLeDiff, Nat.reduceLT, Nat.reduceEqDiff]
  · have h8' := eq_false h8
    rw [if_neg h8]
    have ye := x_rScansErr l 0 (by simp only [eq_iff_iff, iff_true]; omega)
    refine c14.fok (by simp only [subs, sub1, free_Vs]) (Cor.run (addC_good g_rScansErr (addC_good g_brief6 (noC_good _))) (noHx_good _) hm ?_)
    simp +contextual -implicitDefEqProofs (maxSteps := 2000000) only [bg_eq, a14, List.length_map, h8', Int.natCast_zero, ruB, rh_no, Int.reduceLT, Int.reduceLE, Int.reduceAdd, Int.reduceSub, Int.reduceMul, Int.reduceNeg, Int.reduceToNat, Int.reduceEq, Int.reduceNe, Int.reduceTDiv, Int.reduceTMod, implies_true, putL, appN, appX, appC, Eng.Fi, reduceCtorEq, exists_eq_left', exists_eq_left, if_true, if_false, List.replicate, Nat.reduceAdd, Nat.reduceSub, Nat.reduceMul, Nat.reduceLeDiff, Nat.reduceLT, Nat.reduceEqDiff]
    refine Cor.lp (addC_good g_rScansErr (addC_good g_brief6 (noC_good _))) (noHx_good _) hm (S_sd l) (fun k => k ≤ l.length ∧ scB l l.length 0 = scB l (l.length - k) k ∧ ∀ j, j < k → (gv l j).length ≤ 5) (fun k => l.length - k) (a := 0) ⟨Nat.zero_le _, rfl, fun j hj => by omega⟩ (Wkn.keep [0, 3] rfl) ?_
    intro f k ⟨hk, hf, hb5⟩ go
    rcases Nat.lt_or_ge k l.length with h | h
    · have e1 : ((k : Int) < (l.length : Int)) = True := eq_true (by omega)
      have e3 : IntKind.wrap .i64 ((k : Int) + 1) = ((k + 1 : Nat) : Int) := suc_w (by omega)
      have hg : gv l k = l[k] := by rw [gv, List.getElem?_eq_getElem h]; rfl
      have e2 : (l.map eVs)[k]? = some (eVs (gv l k)) := by rw [hg]; exact get_e eVs l h
      have ek : l.length - k = l.length - (k + 1) + 1 := by omega
      rw [ek, scB] at hf
      have yb := x_brief6 (gv l k)
      have hm1 : (gv l k).length ≤ maxLen := by rw [hg]; exact hl.2 _ (List.getElem_mem h)
      by_cases b1 : ((gv l k).length : Int) ≤ 5
      · rw [decide_eq_true b1] at yb
        by_cases k0 : k = 0
        · have k1 : (0 < (k : Int)) = False := eq_false (by omega)
          rw [if_neg (fun q : scI l k => by unfold scI at q; omega)] at hf
          simp +contextual -implicitDefEqProofs (maxSteps := 2000000) only [S_sd, e1, e2, e3, yb, k1, List.length_map, not_true_eq_false, ruB, rh_no, Int.reduceLT, Int.reduceLE, Int.reduceAdd, Int.reduceSub, Int.reduceMul, Int.reduceNeg, Int.reduceToNat, Int.reduceEq, Int.reduceNe, Int.reduceTDiv, Int.reduceTMod, implies_true, putL, appN, appX, appC, Eng.Fi, reduceCtorEq, exists_eq_left', exists_eq_left, if_true, if_false, List.replicate, Nat.reduceAdd, Nat.reduceSub, Nat.reduceMul, Nat.reduceLeDiff, Nat.reduceLT, Nat.reduceEqDiff]
          exact go _ (k + 1) ⟨h, hf, fun j hj => by rw [show j = k by omega]; omega⟩ (by omega) (Wkn.keep [0, 3] rfl)
        · have k1 : (0 < (k : Int)) = True := eq_true (by omega)
          have h1 : k - 1 < l.length := by omega
          have hg1 : gv l (k - 1) = l[k - 1] := by rw [gv, List.getElem?_eq_getElem h1]; rfl
          have e4 : (l.map eVs)[k - 1]? = some (eVs (gv l (k - 1))) := by rw [hg1]; exact get_e eVs l h1
          have w1 : IntKind.wrap .i64 ((k : Int) - 1) = ((k - 1 : Nat) : Int) := by rw [wrap64 (by omega) (by omega)]; omega
          have hm2 := hb5 (k - 1) (by omega)
          have w2 : IntKind.wrap .i64 (((gv l k).length : Int) + ((gv l (k - 1)).length : Int)) = ((gv l k).length : Int) + ((gv l (k - 1)).length : Int) := wrap64 (by omega) (by omega)
          by_cases s1 : 5 < ((gv l k).length : Int) + ((gv l (k - 1)).length : Int)
          · have s1' := eq_true s1
            by_cases z1 : soE l 0 = 0
            · have z1' := eq_true z1
              rw [if_pos (show scI l k from .inr ⟨⟨by omega, s1⟩, z1⟩)] at hf
              rw [hf]
              simp +contextual -implicitDefEqProofs (maxSteps := 2000000) only [S_sd, e1, e2, e3, e4, w1, w2, yb, ye, k1, s1', z1', List.length_map, not_true_eq_false, ruB, rh_no, Int.reduceLT, Int.reduceLE, Int.reduceAdd, Int.reduceSub, Int.reduceMul, Int.reduceNeg, Int.reduceToNat, Int.reduceEq, Int.reduceNe, Int.reduceTDiv, Int.reduceTMod, implies_true, putL, appN, appX, appC, Eng.Fi, reduceCtorEq, exists_eq_left', exists_eq_left, if_true, if_false, List.replicate, Nat.reduceAdd, Nat.reduceSub, Nat.reduceMul, Nat.reduceLeDiff, Nat.reduceLT, Nat.reduceEqDiff]
            · have z1' := eq_false z1
              rw [if_neg (fun q : scI l k => q.elim (fun q => by omega) (fun q => z1 q.2))] at hf
              simp +contextual -implicitDefEqProofs (maxSteps := 2000000) only [S_sd, e1, e2, e3, e4, w1, w2, yb, ye, k1, s1', z1', List.length_map, not_true_eq_false, ruB, rh_no, Int.reduceLT, Int.reduceLE, Int.reduceAdd, Int.reduceSub, Int.reduceMul, Int.reduceNeg, Int.reduceToNat, Int.reduceEq, Int.reduceNe, Int.reduceTDiv, Int.reduceTMod, implies_true, putL, appN, appX, appC, Eng.Fi, reduceCtorEq, exists_eq_left', exists_eq_left, if_true, if_false, List.replicate, Nat.reduceAdd, Nat.reduceSub, Nat.reduceMul, Nat.reduceLeDiff, Nat.reduceLT, Nat.reduceEqDiff]
              exact go _ (k + 1) ⟨h, hf, fun j hj => by
                by_cases e : j = k
                · rw [e]; omega
                · exact hb5 j (by omega)⟩ (by omega) (Wkn.keep [0, 3] rfl)
          · have s1' := eq_false s1
            rw [if_neg (fun q : scI l k => q.elim (fun q => by omega) (fun q => s1 q.1.2))] at hf
            simp +contextual -implicitDefEqProofs (maxSteps := 2000000) only [S_sd, e1, e2, e3, e4, w1, w2, yb, k1, s1', List.length_map, not_true_eq_false, ruB, rh_no, Int.reduceLT, Int.reduceLE, Int.reduceAdd, Int.reduceSub, Int.reduceMul, Int.reduceNeg, Int.reduceToNat, Int.reduceEq, Int.reduceNe, Int.reduceTDiv, Int.reduceTMod, implies_true, putL, appN, appX, appC, Eng.Fi, reduceCtorEq, exists_eq_left', exists_eq_left, if_true, if_false, List.replicate, Nat.reduceAdd, Nat.reduceSub, Nat.reduceMul, Nat.reduceLeDiff, Nat.reduceLT, Nat.reduceEqDiff]
            exact go _ (k + 1) ⟨h, hf, fun j hj => by
                by_cases e : j = k
                · rw [e]; omega
                · exact hb5 j (by omega)⟩ (by omega) (Wkn.keep [0, 3] rfl)
      · rw [decide_eq_false b1] at yb
        rw [if_pos (show scI l k from .inl (by omega))] at hf
        rw [hf]
        simp +contextual -implicitDefEqProofs (maxSteps := 2000000) only [S_sd, e1, e2, e3, yb, List.length_map, not_false_eq_true, ruB, rh_no, Int.reduceLT, Int.reduceLE, Int.reduceAdd, Int.reduceSub, Int.reduceMul, Int.reduceNeg, Int.reduceToNat, Int.reduceEq, Int.reduceNe, Int.reduceTDiv, Int.reduceTMod, implies_true, putL, appN, appX, appC, Eng.Fi, reduceCtorEq, exists_eq_left', exists_eq_left, if_true, if_false, List.replicate, Nat.reduceAdd, Nat.reduceSub, Nat.reduceMul, Nat.reduceLeDiff, Nat.reduceLT, Nat.reduceEqDiff]
    · have e1 : decide ((k : Int) < (l.length : Int)) = false := lt_f h
      have ek : l.length - k = 0 := by omega
      rw [ek, scB] at hf
      rw [hf]
      simp +contextual -implicitDefEqProofs (maxSteps := 2000000) only [S_sd, e1, List.length_map, ruB, rh_no, Int.reduceLT, Int.reduceLE, Int.reduceAdd, Int.reduceSub, Int.reduceMul, Int.reduceNeg, Int.reduceToNat, Int.reduceEq, Int.reduceNe, Int.reduceTDiv, Int.reduceTMod, implies_true, putL, appN, appX, appC, Eng.Fi, reduceCtorEq, exists_eq_left', exists_eq_left, if_true, if_false, List.replicate, Nat.reduceAdd, Nat.reduceSub, Nat.reduceMul, Nat.reduceLeDiff, Nat.reduceLT, Nat.reduceEqDiff]
def cf_scanned6 : List AV → Option AV
  | [.vs us] => onL dVs us fun l => if l.length ≤ maxLen ∧ ∀ s ∈ l, s.length ≤ maxLen then some (.bool (scV l)) else none
  | _ => none
theorem g_scanned6 : Fn P 14 cf_scanned6 := fun args v hh => by
  unfold cf_scanned6 at hh; split at hh
  · obtain ⟨l, rfl, hh1⟩ := onL_inv dVs_inv hh
    split at hh1
    · rename_i hc; have hk := Option.some.inj hh1; subst hk; exact k_scanned6 _ hc
    · cases hh1
  · cases hh
theorem x_scanned6 (l : List Vs) (hc : l.length ≤ maxLen ∧ ∀ s ∈ l, s.length ≤ maxLen) : cf_scanned6 [.vs (l.map eVs)] = some (.bool (scV l)) := by
  simp only [cf_scanned6, onL_map dVs_e]
  exact if_pos hc
theorem arScans {n : Nat} {u : AV} (h : ArG P n 22 u) : ∃ m : List Vs, u = .vs (m.map eVs) ∧ m.length ≤ maxLen ∧ ∀ r ∈ m, r.length ≤ maxLen := by
  have hh := h.one 6 (k := .sl false [.sl true [.i, .i, .i]]) (by kernel_rfl) (by kernel_rfl)
  simp only [ShV1] at hh
  obtain ⟨l, rfl, hl, hlen⟩ := hh
  obtain ⟨gs, e1, e2⟩ := sl_enc (α := {r : Vs // r.length ≤ maxLen}) (fun r => eVs r.1) (ag := false) (fun p hp => by
    simp only [ShV, ShV1] at hp
    obtain ⟨_, _, rfl, ⟨l', rfl, hl', hlen'⟩, rfl⟩ := hp
    obtain ⟨gs, e1, e2⟩ := sl_enc (α := Vo) eVo (ag := true) (fun p hp => by
      obtain ⟨_, _, rfl, ⟨a, rfl, _⟩, _, _, rfl, ⟨b, rfl, _⟩, _, _, rfl, ⟨c, rfl, _⟩, rfl⟩ := hp
      exact ⟨⟨a, b, c⟩, rfl⟩) hl'
    exact ⟨⟨gs, by rw [e2]; exact hlen'⟩, by show AV.vs _ = AV.vs _; rw [e1]⟩) hl
  rw [e1]
  refine ⟨gs.map Subtype.val, by rw [List.map_map]; rfl, by rw [List.length_map, e2]; exact hlen, fun r hr => ?_⟩
  obtain ⟨x, _, rfl⟩ := List.mem_map.1 hr
  exact x.2
end Wa
