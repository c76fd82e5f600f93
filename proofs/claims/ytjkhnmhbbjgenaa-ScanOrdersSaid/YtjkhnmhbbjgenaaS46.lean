import Derived.Test.YtjkhnmhbbjgenaaEngS9
import Derived.Test.YtjkhnmhbbjgenaaS45
open Go Go.Proofs Eng
set_option maxRecDepth 100000
set_option linter.unusedSimpArgs false
set_option linter.unusedVariables false
def a63 : AC := .seq (.ops false [] [⟨some 2, .box 42 7 1 true, [.t 0], none⟩, ⟨some 4, .p (.mov), [.c (.nilslice)], none⟩, ⟨some 5, .p (.mov), [.c (.int .i64 0)], none⟩, ⟨some 6, .p (.mov), [.c (.bool false)], none⟩]) (.seq (.ops false [] [⟨some 7, .load 7 true, [.t 2], none⟩, ⟨some 8, .p (.mov), [.t 1], none⟩, ⟨some 9, .call 111, [.t 7, .t 8], none⟩, ⟨some 10, .p (.mov), [.t 1], none⟩, ⟨some 11, .p (.lenS), [.t 10], none⟩, ⟨some 12, .p (.mov), [.t 1], none⟩, ⟨some 13, .p (.lenS), [.t 12], none⟩, ⟨some 14, .call 110, [.t 9, .t 11, .t 13, .c (.int .i64 0)], none⟩, ⟨some 15, .p (.ext 0), [.t 14], none⟩, ⟨some 16, .p (.ext 1), [.t 14], none⟩, ⟨some 17, .p (.ext 2), [.t 14], none⟩, ⟨some 4, .p (.mov), [.t 15], none⟩, ⟨some 5, .p (.mov), [.t 16], none⟩, ⟨some 6, .p (.mov), [.t 17], none⟩]) (.ret))
theorem c63 : FnC Try.prog 63 18 a63 [.tmp 4, .tmp 5, .tmp 6] := ⟨Try.call63, _, _, Try.func63, rfl, by kernel_rfl, by kernel_rfl, rfl⟩
def a110 : AC := .seq (.ops false [] [⟨some 4, .box 155 98 1 true, [.t 0], none⟩, ⟨some 8, .p (.mov), [.c (.nilslice)], none⟩, ⟨some 9, .p (.mov), [.c (.int .i64 0)], none⟩, ⟨some 10, .p (.mov), [.c (.bool false)], none⟩]) (.seq (.seq (.ops false [] [⟨some 18, .p (.mov), [.t 3], none⟩, ⟨some 19, .p (.mov), [.t 1], none⟩, ⟨some 20, .p (.shf true), [.c (.int .i64 1), .t 19], none⟩, ⟨some 21, .p (.binI .sub), [.t 20, .c (.int .i64 1)], none⟩, ⟨some 22, .p (.binI .eql), [.t 18, .t 21], none⟩]) (.cond (.t 22) (.seq (.ops false [] [⟨some 8, .p (.mov), [.c (.nilslice)], none⟩, ⟨some 9, .p (.mov), [.c (.int .i64 0)], none⟩, ⟨some 10, .p (.mov), [.c (.bool true)], none⟩]) (.ret)) (.skip))) (.seq (.ops false [] [⟨some 11, .p (.mov), [.c (.nilslice)], none⟩]) (.seq (.ops false [] [⟨some 12, .p (.mov), [.c (.int .i64 0)], none⟩, ⟨some 13, .p (.mov), [.c (.bool false)], none⟩]) (.seq (.seq (.ops false [] [⟨some 14, .p (.mov), [.c (.int .i64 0)], none⟩]) (.block 0 (.loop (.seq (.seq (.ops false [] [⟨some 23, .p (.mov), [.t 14], none⟩, ⟨some 24, .p (.mov), [.t 1], none⟩, ⟨some 25, .p (.binI .lss), [.t 23, .t 24], none⟩]) (.cond (.t 25) (.skip) (.exit 0))) (.seq (.block 1 (.seq (.seq (.ops false [] [⟨some 28, .p (.mov), [.t 3], none⟩, ⟨some 29, .p (.mov), [.t 14], none⟩, ⟨some 30, .p (.shf false), [.t 28, .t 29], none⟩, ⟨some 31, .p (.binI .and), [.t 30, .c (.int .i64 1)], none⟩, ⟨some 32, .p (.binI .eql), [.t 31, .c (.int .i64 1)], none⟩, ⟨some 33, .p (.mov), [.t 32], none⟩, ⟨some 34, .p (.mov), [.t 2], some (33, false)⟩, ⟨some 35, .p (.mov), [.t 14], some (33, false)⟩, ⟨some 36, .p (.faddr 49), [.t 4], some (33, false)⟩, ⟨some 37, .p (.iaddrA 7 7), [.t 36, .t 34], some (33, false)⟩, ⟨some 38, .p (.iaddrA 7 1), [.t 37, .t 35], some (33, false)⟩, ⟨some 39, .load 1 false, [.t 38], some (33, false)⟩, ⟨some 40, .p (.notB), [.t 39], some (33, false)⟩, ⟨some 41, .p (.pick), [.t 33, .c (.bool true), .t 40], none⟩]) (.cond (.t 41) (.exit 1) (.skip))) (.seq (.ops true [] [⟨some 43, .load 98 true, [.t 4], none⟩, ⟨some 44, .p (.mov), [.t 1], none⟩, ⟨some 45, .p (.mov), [.t 14], none⟩, ⟨some 46, .p (.mov), [.t 3], none⟩, ⟨some 47, .p (.mov), [.t 14], none⟩, ⟨some 48, .p (.shf true), [.c (.int .i64 1), .t 47], none⟩, ⟨some 49, .p (.binI .or), [.t 46, .t 48], none⟩, ⟨some 50, .call 110, [.t 43, .t 44, .t 45, .t 49], none⟩, ⟨some 42, .p (.mov), [.t 50], none⟩, ⟨some 51, .p (.ext 0), [.t 42], none⟩, ⟨some 52, .p (.ext 1), [.t 42], none⟩, ⟨some 53, .p (.ext 2), [.t 42], none⟩, ⟨some 15, .p (.mov), [.t 51], none⟩, ⟨some 16, .p (.mov), [.t 52], none⟩, ⟨some 17, .p (.mov), [.t 53], none⟩]) (.seq (.ops false [] [⟨some 54, .p (.mov), [.t 17], none⟩, ⟨some 55, .p (.mov), [.t 54], none⟩, ⟨some 56, .p (.mov), [.t 13], some (55, true)⟩, ⟨some 57, .p (.notB), [.t 56], some (55, true)⟩, ⟨some 58, .p (.mov), [.t 57], some (55, true)⟩, ⟨some 59, .p (.mov), [.t 2], some (58, false)⟩, ⟨some 60, .p (.mov), [.t 14], some (58, false)⟩, ⟨some 61, .p (.faddr 0), [.t 4], some (58, false)⟩, ⟨some 62, .p (.iaddrA 7 7), [.t 61, .t 59], some (58, false)⟩, ⟨some 63, .p (.iaddrA 7 1), [.t 62, .t 60], some (58, false)⟩, ⟨some 64, .load 1 false, [.t 63], some (58, false)⟩, ⟨some 65, .p (.mov), [.t 16], some (58, false)⟩, ⟨some 66, .p (.binI .add), [.t 64, .t 65], some (58, false)⟩, ⟨some 67, .p (.mov), [.t 12], some (58, false)⟩, ⟨some 68, .p (.binI .lss), [.t 66, .t 67], some (58, false)⟩, ⟨some 69, .p (.pick), [.t 58, .c (.bool true), .t 68], some (55, true)⟩, ⟨some 70, .p (.pick), [.t 55, .t 69, .c (.bool false)], none⟩]) (.cond (.t 70) (.ops true [(1, 9), (3, 9)] [⟨some 71, .p (.mov), [.t 14], none⟩, ⟨some 72, .bsl 3 1, [.t 71], none⟩, ⟨some 73, .p (.mov), [.t 15], none⟩, ⟨some 74, .app 3 1 8, [.t 72, .t 73], none⟩, ⟨some 75, .p (.mov), [.t 2], none⟩, ⟨some 76, .p (.mov), [.t 14], none⟩, ⟨some 77, .p (.faddr 0), [.t 4], none⟩, ⟨some 78, .p (.iaddrA 7 7), [.t 77, .t 75], none⟩, ⟨some 79, .p (.iaddrA 7 1), [.t 78, .t 76], none⟩, ⟨some 80, .load 1 false, [.t 79], none⟩, ⟨some 81, .p (.mov), [.t 16], none⟩, ⟨some 82, .p (.binI .add), [.t 80, .t 81], none⟩, ⟨some 11, .p (.mov), [.t 74], none⟩, ⟨some 12, .p (.mov), [.t 82], none⟩, ⟨some 13, .p (.mov), [.c (.bool true)], none⟩]) (.skip)))))) (.ops false [] [⟨some 26, .p (.mov), [.t 14], none⟩, ⟨some 27, .p (.binI .add), [.t 26, .c (.int .i64 1)], none⟩, ⟨some 14, .p (.mov), [.t 27], none⟩])))))) (.seq (.ops false [] [⟨some 83, .p (.mov), [.t 11], none⟩, ⟨some 84, .p (.mov), [.t 12], none⟩, ⟨some 85, .p (.mov), [.t 13], none⟩, ⟨some 8, .p (.mov), [.t 83], none⟩, ⟨some 9, .p (.mov), [.t 84], none⟩, ⟨some 10, .p (.mov), [.t 85], none⟩]) (.ret))))))
theorem c110 : FnC Try.prog 110 86 a110 [.tmp 8, .tmp 9, .tmp 10] := ⟨Try.call110, _, _, Try.func110, rfl, by kernel_rfl, by kernel_rfl, rfl⟩
namespace Sc
def fStep (T : Nat → Nat → Int) (D : Nat → Nat → Bool) (rec : Nat → Nat → Option (List Int × Int)) (a d : Nat) (b : Option (List Int × Int)) (k : Nat) : Option (List Int × Int) :=
  if d.testBit k = true ∨ D a k = false then b else match rec k (d ||| 2 ^ k) with
    | none => b
    | some (o, t) => match b with
      | none => some ((k : Int) :: o, T a k + t)
      | some (bo, bt) => if T a k + t < bt then some ((k : Int) :: o, T a k + t) else some (bo, bt)
def finG (N : Nat) (T : Nat → Nat → Int) (D : Nat → Nat → Bool) : Nat → Nat → Nat → Option (List Int × Int)
  | 0, _, _ => some ([], 0)
  | f + 1, a, d => (List.range N).foldl (fStep T D (finG N T D f) a d) none
def cnt (N d : Nat) : Nat := ((List.range N).filter (fun k => !d.testBit k)).length
theorem bit1 : ∀ N : Fin 7, ∀ d : Fin 64, d.1 < 2 ^ N.1 → ((cnt N d = 0) ↔ d.1 = 2 ^ N.1 - 1) := by decide +kernel
theorem bit2 : ∀ N : Fin 7, ∀ d : Fin 64, d.1 < 2 ^ N.1 → ∀ k : Fin 6, k.1 < N.1 → d.1.testBit k = false → (d.1 ||| 2 ^ k.1 < 2 ^ N.1 ∧ cnt N (d.1 ||| 2 ^ k.1) + 1 = cnt N d) := by decide +kernel
theorem bit3 : ∀ x : Fin 64, IntKind.wrap .i64 ((BitVec.ofInt (IntKind.bits .i64) (x.1 : Int) &&& BitVec.ofInt (IntKind.bits .i64) 1).toNat : Int) = ((x.1 % 2 : Nat) : Int) := by decide +kernel
theorem bit4 : ∀ x : Fin 64, ∀ k : Fin 6, IntKind.wrap .i64 ((BitVec.ofInt (IntKind.bits .i64) (x.1 : Int) ||| BitVec.ofInt (IntKind.bits .i64) ((2 ^ k.1 : Nat) : Int)).toNat : Int) = ((x.1 ||| 2 ^ k.1 : Nat) : Int) := by decide +kernel
theorem bit5 : ∀ x : Fin 64, ∀ k : Fin 6, decide (x.1 / 2 ^ k.1 % 2 = 1) = x.1.testBit k := by decide +kernel
theorem sh1 : ∀ N : Nat, N ≤ 6 → evP (.shf true) [I 1, I (N : Int)] = some (I ((2 ^ N : Nat) : Int))
  | 0, _ => rfl
  | 1, _ => rfl
  | 2, _ => rfl
  | 3, _ => rfl
  | 4, _ => rfl
  | 5, _ => rfl
  | 6, _ => rfl
  | n + 7, h => by omega
theorem sr1 (d k : Nat) (hk : k ≤ 6) : evP (.shf false) [I (d : Int), I (k : Int)] = some (I ((d / 2 ^ k : Nat) : Int)) := by
  have h0 : evP (.shf false) [I (d : Int), I (k : Int)] = if (k : Int) < 0 then none else some (I ((d : Int).fdiv (2 ^ (min (k : Int).toNat (IntKind.bits .i64))))) := rfl
  rw [h0, if_neg (by omega), Int.toNat_natCast, Nat.min_eq_left (by show k ≤ 64; omega)]
  congr 2
  rw [show ((2 : Int) ^ k) = ((2 ^ k : Nat) : Int) by push_cast; rfl]
  exact (Int.ofNat_fdiv d (2 ^ k)).symm
theorem and1 (x : Nat) (hx : x < 64) : evP (.binI .and) [I (x : Int), I 1] = some (I ((x % 2 : Nat) : Int)) := by
  rw [e_and, bit3 ⟨x, hx⟩]
theorem or1 (x k : Nat) (hx : x < 64) (hk : k < 6) : evP (.binI .or) [I (x : Int), I ((2 ^ k : Nat) : Int)] = some (I ((x ||| 2 ^ k : Nat) : Int)) := by
  rw [e_or, bit4 ⟨x, hx⟩ ⟨k, hk⟩]
def finV : Option (List Int × Int) → AV
  | none => .tup [.vs [], I 0, .bool false]
  | some (o, t) => .tup [.vs (o.map eI), I t, .bool true]
def fT (h : Hd) (l : List Dr) (a b : Nat) : Int := mvT h (pS h l a) (pS h l b)
def fD (h : Hd) (l : List Dr) (a b : Nat) : Bool := (litL h (pS h l a) (pS h l b)).isNone
def fR (h : Hd) (l : List Dr) (f a d : Nat) : Prop := (a ≤ l.length ∧ d < 2 ^ l.length) ∧ cnt l.length d = f
open Classical in
noncomputable def cf_fin (h : Hd) (l : List Dr) (f : Nat) : List AV → Option AV
  | [.agg cs, .int .i64 n, .int .i64 a, .int .i64 d] => if (cs = pA h l (l.length + 1) 0 ∧ n = (l.length : Int)) ∧ (0 ≤ a ∧ 0 ≤ d) ∧ fR h l f a.toNat d.toNat then some (finV (finG l.length (fT h l) (fD h l) f a.toNat d.toNat)) else none
  | _ => none
theorem x_fin (h : Hd) (l : List Dr) (f a d : Nat) (hc : fR h l f a d) : cf_fin h l f [.agg (pA h l (l.length + 1) 0), I (l.length : Int), I (a : Int), I (d : Int)] = some (finV (finG l.length (fT h l) (fD h l) f a d)) := by
  simp only [cf_fin, Int.toNat_natCast]
  exact if_pos ⟨⟨rfl, rfl⟩, ⟨by omega, by omega⟩, hc⟩
theorem fStep_bd {N : Nat} {T : Nat → Nat → Int} {D : Nat → Nat → Bool} {rec : Nat → Nat → Option (List Int × Int)} {a d f : Nat} (hT : ∀ k, k < N → 0 ≤ T a k ∧ T a k ≤ 450) (hr : ∀ k d o t, rec k d = some (o, t) → o.length = f ∧ 0 ≤ t ∧ t ≤ f * 450) {b : Option (List Int × Int)} (hb : ∀ o t, b = some (o, t) → o.length = f + 1 ∧ 0 ≤ t ∧ t ≤ (f + 1) * 450) {k : Nat} (hk : k < N) : ∀ o t, fStep T D rec a d b k = some (o, t) → o.length = f + 1 ∧ 0 ≤ t ∧ t ≤ (f + 1) * 450 := by
  intro o t h
  unfold fStep at h
  split at h
  · exact hb o t h
  · split at h
    · exact hb o t h
    · rename_i o' t' he
      obtain ⟨r1, r2, r3⟩ := hr _ _ _ _ he
      obtain ⟨t1, t2⟩ := hT k hk
      have new : some ((k : Int) :: o', T a k + t') = some (o, t) → o.length = f + 1 ∧ 0 ≤ t ∧ t ≤ (f + 1) * 450 := fun e => by
        cases e
        exact ⟨by rw [List.length_cons, r1], by omega, by omega⟩
      split at h
      · exact new h
      · split at h
        · exact new h
        · exact hb o t h
theorem fin_bd {N : Nat} {T : Nat → Nat → Int} {D : Nat → Nat → Bool} (hT : ∀ a k, k < N → 0 ≤ T a k ∧ T a k ≤ 450) : ∀ (f a d : Nat) (o : List Int) (t : Int), finG N T D f a d = some (o, t) → o.length = f ∧ 0 ≤ t ∧ t ≤ f * 450
  | 0, a, d, o, t, h => by rw [finG] at h; cases h; simp
  | f + 1, a, d, o, t, h => by
    rw [finG] at h
    have key : ∀ (ks : List Nat) (b : Option (List Int × Int)), (∀ k ∈ ks, k < N) → (∀ o t, b = some (o, t) → o.length = f + 1 ∧ 0 ≤ t ∧ t ≤ (f + 1) * 450) → ∀ o t, ks.foldl (fStep T D (finG N T D f) a d) b = some (o, t) → o.length = f + 1 ∧ 0 ≤ t ∧ t ≤ (f + 1) * 450 := by
      intro ks
      induction ks with
      | nil => intro b _ hb o t h; exact hb o t h
      | cons k r ih =>
        intro b hks hb o t h
        rw [List.foldl_cons] at h
        exact ih _ (fun j hj => hks j (by simp [hj])) (fStep_bd (hT a) (fun k d o t h => fin_bd hT f k d o t h) hb (hks k (by simp))) o t h
    have := key (List.range N) none (fun k hk => List.mem_range.1 hk) (fun o t h => by cases h) o t h
    push_cast
    exact this
def bA : Option (List Int × Int) → AV
  | none => .nilslice
  | some (o, _) => .slice 1 1 0 o.length
def bH : Option (List Int × Int) → List HEnt
  | none => []
  | some (o, _) => [⟨1, 1, .rows 3 1 (o.map eI)⟩]
def bT : Option (List Int × Int) → Int
  | none => 0
  | some (_, t) => t
def S110 (h : Hd) (l : List Dr) (a d : Nat) (p : Nat × Option (List Int × Int)) : AState := ⟨[.any, I l.length, I (a : Nat), I (d : Nat), .ptr 0 98 0 0, .any, .any, .any, .any, .any, .any, bA p.2, I (bT p.2), .bool p.2.isSome, I p.1, .any, .any, .any, .any, .any, .any, .any, .any, .any, .any, .any, .any, .any, .any, .any, .any, .any, .any, .any, .any, .any, .any, .any, .any, .any, .any, .any, .any, .any, .any, .any, .any, .any, .any, .any, .any, .any, .any, .any, .any, .any, .any, .any, .any, .any, .any, .any, .any, .any, .any, .any, .any, .any, .any, .any, .any, .any, .any, .any, .any, .any, .any, .any, .any, .any, .any, .any, .any, .any, .any, .any], bH p.2 ++ [⟨0, 0, .rows 155 98 [.agg (pA h l (l.length + 1) 0)]⟩], 2⟩
theorem k_fin0 (h : Hd) (l : List Dr) (hc : kQ h l) (a d : Nat) (hr : fR h l 0 a d) : FOk P 110 [pV h l, I (l.length : Int), I (a : Int), I (d : Int)] (finV (some ([], 0))) := by
  obtain ⟨⟨⟨hh, h6⟩, hds⟩, ⟨ha, hd⟩, hcn⟩ := And.intro hc hr
  simp only at h6
  have p6 : 2 ^ l.length ≤ 2 ^ 6 := Nat.pow_le_pow_right (by decide) h6
  have hd64 : d < 64 := Nat.lt_of_lt_of_le hd p6
  have hdn : d = 2 ^ l.length - 1 := (bit1 ⟨l.length, by omega⟩ ⟨d, hd64⟩ hd).1 hcn
  have s1 := sh1 l.length h6
  have hp : 0 < 2 ^ l.length := Nat.pow_pos (by decide)
  generalize 2 ^ l.length = M at *
  have w1 : IntKind.wrap .i64 ((M : Int) - 1) = (d : Int) := by rw [wrap64 (by omega) (by omega)]; omega
  refine c110.fok (by simp only [pV, subs, sub1, free_pA]) (Cor.run (noC_good _) (noHx_good _) hm ?_)
  simp +contextual -implicitDefEqProofs (maxSteps := 2000000) only [bg_eq, a110, pV, pA_len, pA_sc, free_pA, s1, w1, finV, List.map_nil, ruB, rh_no, Int.reduceLT, Int.reduceLE, Int.reduceAdd, Int.reduceSub, Int.reduceMul, Int.reduceNeg, Int.reduceToNat, Int.reduceEq, Int.reduceNe, Int.reduceTDiv, Int.reduceTMod, implies_true, putL, appN, appX, appC, Eng.Fi, reduceCtorEq, exists_eq_left', exists_eq_left, if_true, if_false, List.replicate, Nat.reduceAdd, Nat.reduceSub, Nat.reduceMul, Nat.reduceLeDiff, Nat.reduceLT, Nat.reduceEqDiff]
theorem k_finS (h : Hd) (l : List Dr) (hc : kQ h l) (f : Nat) (g : Fn P 110 (cf_fin h l f)) (a d : Nat) (hr : fR h l (f + 1) a d) : FOk P 110 [pV h l, I (l.length : Int), I (a : Int), I (d : Int)] (finV (finG l.length (fT h l) (fD h l) (f + 1) a d)) := by
  obtain ⟨⟨⟨hh, h6⟩, hds⟩, ⟨ha, hd⟩, hcn⟩ := And.intro hc hr
  simp only at hh h6 hds
  have hz := hdE_zero hh
  have hmb : ∀ a b, drR a → drR b → mvB h a b := fun a b ha hb => ⟨⟨hz.1.1.2.1, hz.1.1.2.2⟩, ha, hb⟩
  have hps : ∀ a, drR (pS h l a) := fun a => by
    unfold pS
    rcases Nat.lt_or_ge a l.length with ha | ha
    · rw [List.getElem?_eq_getElem ha]; exact hds _ (by simp)
    · rw [List.getElem?_eq_none ha]; exact hz.1.1.1
  have hT : ∀ a k, k < l.length → 0 ≤ fT h l a k ∧ fT h l a k ≤ 450 := fun a k _ => mvT_bd (hmb _ _ (hps a) (hps k))
  have p6 : 2 ^ l.length ≤ 2 ^ 6 := Nat.pow_le_pow_right (by decide) h6
  have hd64 : d < 64 := Nat.lt_of_lt_of_le hd p6
  have hdn : d ≠ 2 ^ l.length - 1 := fun e => by
    have := (bit1 ⟨l.length, by omega⟩ ⟨d, hd64⟩ hd).2 e
    simp only at this
    omega
  have hf6 : f + 1 ≤ l.length := by
    rw [← hcn]; unfold cnt
    exact Nat.le_trans (List.length_filter_le _ _) (by simp)
  have s1 := sh1 l.length h6
  have hp : 0 < 2 ^ l.length := Nat.pow_pos (by decide)
  have w1 : IntKind.wrap .i64 (((2 ^ l.length : Nat) : Int) - 1) = ((2 ^ l.length - 1 : Nat) : Int) := by rw [wrap64 (by omega) (by omega)]; omega
  have n1 : ((d : Int) = ((2 ^ l.length - 1 : Nat) : Int)) = False := eq_false (by omega)
  refine c110.fok (by simp only [pV, subs, sub1, free_pA]) (Cor.run (addC_good g (noC_good _)) (noHx_good _) hm ?_)
  simp +contextual -implicitDefEqProofs (maxSteps := 2000000) only [bg_eq, a110, pV, pA_len, pA_sc, free_pA, s1, w1, n1, ruB, rh_no, Int.reduceLT, Int.reduceLE, Int.reduceAdd, Int.reduceSub, Int.reduceMul, Int.reduceNeg, Int.reduceToNat, Int.reduceEq, Int.reduceNe, Int.reduceTDiv, Int.reduceTMod, implies_true, putL, appN, appX, appC, Eng.Fi, reduceCtorEq, exists_eq_left', exists_eq_left, if_true, if_false, List.replicate, Nat.reduceAdd, Nat.reduceSub, Nat.reduceMul, Nat.reduceLeDiff, Nat.reduceLT, Nat.reduceEqDiff]
  refine Cor.lp (addC_good g (noC_good _)) (noHx_good _) hm (S110 h l a d) (fun p => (p.1 ≤ l.length ∧ ∀ o t, p.2 = some (o, t) → o.length = f + 1 ∧ 0 ≤ t ∧ t ≤ (f + 1) * 450) ∧ finG l.length (fT h l) (fD h l) (f + 1) a d = ((List.range l.length).drop p.1).foldl (fStep (fT h l) (fD h l) (finG l.length (fT h l) (fD h l) f) a d) p.2) (fun p => l.length - p.1) (a := (0, none)) ⟨⟨Nat.zero_le _, fun o t e => by cases e⟩, rfl⟩ (Wkn.to ⟨0, [(0, 0)], [], 2, [1, 2, 3, 4, 11, 12, 13, 14]⟩ rfl rfl (by simp [Wk.st, keepT, memN, Wk.fate, Wk.fate0, assoc, getE, Wk.hp, ABlk.sub, sub1, subs, S110, bA, bH, bT, free_pA, free_I])) ?_
  rintro f' ⟨k, b⟩ ⟨⟨hk, hb⟩, hf⟩ go
  simp only at hk hb hf
  have hfb := fun (k : Nat) (d : Nat) (o : List Int) (t : Int) => fin_bd (D := fD h l) hT (f := f) (a := k) (d := d) (o := o) (t := t)
  rcases Nat.lt_or_ge k l.length with hlt | hlt
  · have e1 : decide ((k : Int) < (l.length : Int)) = true := lt_t hlt
    have e3 : IntKind.wrap .i64 ((k : Int) + 1) = ((k + 1 : Nat) : Int) := suc_w (by omega)
    rw [List.drop_eq_getElem_cons (by simpa using hlt), List.getElem_range, List.foldl_cons] at hf
    have hb2 := fStep_bd (T := fT h l) (D := fD h l) (rec := finG l.length (fT h l) (fD h l) f) (a := a) (d := d) (hT a) hfb hb hlt
    have sk := sh1 k (by omega)
    have sr := sr1 d k (by omega)
    have an := and1 (d / 2 ^ k) (Nat.lt_of_le_of_lt (Nat.div_le_self _ _) hd64)
    have og := or1 d k hd64 (by omega)
    have b1 : (a < 7) = True := eq_true (by omega)
    have b2 : (k < 7) = True := eq_true (by omega)
    have g2 := pA_dk h l ha hlt h6
    have g1 := pA_tk h l ha hlt h6
    have b5 := bit5 ⟨d, hd64⟩ ⟨k, by omega⟩
    simp only at b5
    by_cases htb : d.testBit k = true
    · have c1 : (((d / 2 ^ k % 2 : Nat) : Int) = 1) = True := eq_true (by have := of_decide_eq_true (b5.trans htb); omega)
      have hs : fStep (fT h l) (fD h l) (finG l.length (fT h l) (fD h l) f) a d b k = b := by unfold fStep; rw [if_pos (.inl htb)]
      rw [hs] at hf hb2
      cases b with
      | none =>
        simp +contextual -implicitDefEqProofs (maxSteps := 2000000) only [S110, bA, bH, bT, Option.isSome, e1, e3, sr, an, c1, ruB, rh_no, Int.reduceLT, Int.reduceLE, Int.reduceAdd, Int.reduceSub, Int.reduceMul, Int.reduceNeg, Int.reduceToNat, Int.reduceEq, Int.reduceNe, Int.reduceTDiv, Int.reduceTMod, implies_true, putL, appN, appX, appC, Eng.Fi, reduceCtorEq, exists_eq_left', exists_eq_left, if_true, if_false, List.replicate, Nat.reduceAdd, Nat.reduceSub, Nat.reduceMul, Nat.reduceLeDiff, Nat.reduceLT, Nat.reduceEqDiff]
        exact go _ (k + 1, none) ⟨⟨hlt, hb2⟩, hf⟩ (by simp only; omega) (Wkn.to ⟨0, [(0, 0)], [], 2, [1, 2, 3, 4, 11, 12, 13, 14]⟩ rfl rfl (by simp [Wk.st, keepT, memN, Wk.fate, Wk.fate0, assoc, getE, Wk.hp, ABlk.sub, sub1, subs, S110, bA, bH, bT, free_pA, free_I]))
      | some x =>
        obtain ⟨bo, bt⟩ := x
        simp +contextual -implicitDefEqProofs (maxSteps := 2000000) only [S110, bA, bH, bT, Option.isSome, e1, e3, sr, an, c1, ruB, rh_no, Int.reduceLT, Int.reduceLE, Int.reduceAdd, Int.reduceSub, Int.reduceMul, Int.reduceNeg, Int.reduceToNat, Int.reduceEq, Int.reduceNe, Int.reduceTDiv, Int.reduceTMod, implies_true, putL, appN, appX, appC, Eng.Fi, reduceCtorEq, exists_eq_left', exists_eq_left, if_true, if_false, List.replicate, Nat.reduceAdd, Nat.reduceSub, Nat.reduceMul, Nat.reduceLeDiff, Nat.reduceLT, Nat.reduceEqDiff]
        exact go _ (k + 1, some (bo, bt)) ⟨⟨hlt, hb2⟩, hf⟩ (by simp only; omega) (Wkn.to ⟨0, [(0, 0), (1, 1)], [], 2, [1, 2, 3, 4, 11, 12, 13, 14]⟩ rfl rfl (by simp [Wk.st, keepT, memN, Wk.fate, Wk.fate0, assoc, getE, Wk.hp, ABlk.sub, sub1, subs, S110, bA, bH, bT, free_pA, free_I]))
    · have hbf : d.testBit k = false := by simpa using htb
      have c1 : (((d / 2 ^ k % 2 : Nat) : Int) = 1) = False := eq_false (by have := of_decide_eq_false (b5.trans hbf); omega)
      cases hD : fD h l a k with
      | false =>
        have hD' : (litL h (pS h l a) (pS h l k)).isNone = false := hD
        rw [hD'] at g2
        have hs : fStep (fT h l) (fD h l) (finG l.length (fT h l) (fD h l) f) a d b k = b := by unfold fStep; rw [if_pos (.inr hD)]
        rw [hs] at hf hb2
        cases b with
        | none =>
          simp +contextual -implicitDefEqProofs (maxSteps := 2000000) only [S110, bA, bH, bT, Option.isSome, e1, e3, sr, an, c1, b1, b2, g2, pA_len, Nat.mul_one, ruB, rh_no, Int.reduceLT, Int.reduceLE, Int.reduceAdd, Int.reduceSub, Int.reduceMul, Int.reduceNeg, Int.reduceToNat, Int.reduceEq, Int.reduceNe, Int.reduceTDiv, Int.reduceTMod, implies_true, putL, appN, appX, appC, Eng.Fi, reduceCtorEq, exists_eq_left', exists_eq_left, if_true, if_false, List.replicate, Nat.reduceAdd, Nat.reduceSub, Nat.reduceMul, Nat.reduceLeDiff, Nat.reduceLT, Nat.reduceEqDiff]
          exact go _ (k + 1, none) ⟨⟨hlt, hb2⟩, hf⟩ (by simp only; omega) (Wkn.to ⟨0, [(0, 0)], [], 2, [1, 2, 3, 4, 11, 12, 13, 14]⟩ rfl rfl (by simp [Wk.st, keepT, memN, Wk.fate, Wk.fate0, assoc, getE, Wk.hp, ABlk.sub, sub1, subs, S110, bA, bH, bT, free_pA, free_I]))
        | some x =>
          obtain ⟨bo, bt⟩ := x
          simp +contextual -implicitDefEqProofs (maxSteps := 2000000) only [S110, bA, bH, bT, Option.isSome, e1, e3, sr, an, c1, b1, b2, g2, pA_len, Nat.mul_one, ruB, rh_no, Int.reduceLT, Int.reduceLE, Int.reduceAdd, Int.reduceSub, Int.reduceMul, Int.reduceNeg, Int.reduceToNat, Int.reduceEq, Int.reduceNe, Int.reduceTDiv, Int.reduceTMod, implies_true, putL, appN, appX, appC, Eng.Fi, reduceCtorEq, exists_eq_left', exists_eq_left, if_true, if_false, List.replicate, Nat.reduceAdd, Nat.reduceSub, Nat.reduceMul, Nat.reduceLeDiff, Nat.reduceLT, Nat.reduceEqDiff]
          exact go _ (k + 1, some (bo, bt)) ⟨⟨hlt, hb2⟩, hf⟩ (by simp only; omega) (Wkn.to ⟨0, [(0, 0), (1, 1)], [], 2, [1, 2, 3, 4, 11, 12, 13, 14]⟩ rfl rfl (by simp [Wk.st, keepT, memN, Wk.fate, Wk.fate0, assoc, getE, Wk.hp, ABlk.sub, sub1, subs, S110, bA, bH, bT, free_pA, free_I]))
      | true =>
        have hD' : (litL h (pS h l a) (pS h l k)).isNone = true := hD
        rw [hD'] at g2
        have hbit2 := bit2 ⟨l.length, by omega⟩ ⟨d, hd64⟩ hd ⟨k, by omega⟩ hlt hbf
        simp only at hbit2
        have yr := x_fin h l f k (d ||| 2 ^ k) ⟨⟨by omega, hbit2.1⟩, by omega⟩
        have hs0 : fStep (fT h l) (fD h l) (finG l.length (fT h l) (fD h l) f) a d b k = match finG l.length (fT h l) (fD h l) f k (d ||| 2 ^ k) with
          | none => b
          | some (o, t) => match (generalizing := false) b with
            | none => some ((k : Int) :: o, fT h l a k + t)
            | some (bo, bt) => if fT h l a k + t < bt then some ((k : Int) :: o, fT h l a k + t) else some (bo, bt) := by
          unfold fStep; rw [if_neg (by rintro (x | x); exact htb x; rw [hD] at x; cases x)]
        cases hr : finG l.length (fT h l) (fD h l) f k (d ||| 2 ^ k) with
        | none =>
          rw [hr] at yr hs0
          simp only [finV] at yr
          simp only at hs0
          rw [hs0] at hf hb2
          cases b with
          | none =>
            simp +contextual -implicitDefEqProofs (maxSteps := 2000000) only [S110, bA, bH, bT, Option.isSome, e1, e3, sr, an, c1, b1, b2, g2, pA_len, Nat.mul_one, sk, og, yr, List.map_nil, ruB, rh_no, Int.reduceLT, Int.reduceLE, Int.reduceAdd, Int.reduceSub, Int.reduceMul, Int.reduceNeg, Int.reduceToNat, Int.reduceEq, Int.reduceNe, Int.reduceTDiv, Int.reduceTMod, implies_true, putL, appN, appX, appC, Eng.Fi, reduceCtorEq, exists_eq_left', exists_eq_left, if_true, if_false, List.replicate, Nat.reduceAdd, Nat.reduceSub, Nat.reduceMul, Nat.reduceLeDiff, Nat.reduceLT, Nat.reduceEqDiff]
            exact go _ (k + 1, none) ⟨⟨hlt, hb2⟩, hf⟩ (by simp only; omega) (Wkn.to ⟨0, [(0, 0)], [], 2, [1, 2, 3, 4, 11, 12, 13, 14]⟩ rfl rfl (by simp [Wk.st, keepT, memN, Wk.fate, Wk.fate0, assoc, getE, Wk.hp, ABlk.sub, sub1, subs, S110, bA, bH, bT, free_pA, free_I]))
          | some x =>
            obtain ⟨bo, bt⟩ := x
            simp +contextual -implicitDefEqProofs (maxSteps := 2000000) only [S110, bA, bH, bT, Option.isSome, e1, e3, sr, an, c1, b1, b2, g2, pA_len, Nat.mul_one, sk, og, yr, List.map_nil, ruB, rh_no, Int.reduceLT, Int.reduceLE, Int.reduceAdd, Int.reduceSub, Int.reduceMul, Int.reduceNeg, Int.reduceToNat, Int.reduceEq, Int.reduceNe, Int.reduceTDiv, Int.reduceTMod, implies_true, putL, appN, appX, appC, Eng.Fi, reduceCtorEq, exists_eq_left', exists_eq_left, if_true, if_false, List.replicate, Nat.reduceAdd, Nat.reduceSub, Nat.reduceMul, Nat.reduceLeDiff, Nat.reduceLT, Nat.reduceEqDiff]
            exact go _ (k + 1, some (bo, bt)) ⟨⟨hlt, hb2⟩, hf⟩ (by simp only; omega) (Wkn.to ⟨0, [(0, 0), (1, 1)], [], 2, [1, 2, 3, 4, 11, 12, 13, 14]⟩ rfl rfl (by simp [Wk.st, keepT, memN, Wk.fate, Wk.fate0, assoc, getE, Wk.hp, ABlk.sub, sub1, subs, S110, bA, bH, bT, free_pA, free_I]))
        | some q =>
          obtain ⟨o, t⟩ := q
          rw [hr] at yr hs0
          simp only [finV] at yr
          simp only at hs0
          rw [hs0] at hf hb2
          obtain ⟨q1, q2, q3⟩ := hfb _ _ _ _ hr
          have t1 := hT a k hlt
          have w2 : IntKind.wrap .i64 (mvT h (pS h l a) (pS h l k) + t) = fT h l a k + t := wrap64 (by unfold fT at t1; omega) (by unfold fT at t1; omega)
          have hsrc : ∀ lk, srcV lk 1 (.vs (o.map eI)) = some (o.map eI) := fun lk => src_vs _ _ _ (by simp [AV.cells])
          have m1 : (1 + o.length ≤ maxLen) = True := mx (by omega)
          have m2 : ((1 + o.length) * 8 ≤ 140737488355328) = True := eq_true (by omega)
          cases b with
          | none =>
            simp only at hf hb2
            simp +contextual -implicitDefEqProofs (maxSteps := 2000000) only [S110, bA, bH, bT, Option.isSome, e1, e3, sr, an, c1, b1, b2, g1, g2, pA_len, Nat.mul_one, sk, og, yr, w2, rs_nil, rs_t, rs_f, ag_nils, ag_sl, ag_vs, ag_str, ag_ptr, ag_nilp, ag_vp, ag_fun, m1, m2, hsrc, List.length_map, ruB, rh_no, Int.reduceLT, Int.reduceLE, Int.reduceAdd, Int.reduceSub, Int.reduceMul, Int.reduceNeg, Int.reduceToNat, Int.reduceEq, Int.reduceNe, Int.reduceTDiv, Int.reduceTMod, implies_true, putL, appN, appX, appC, Eng.Fi, reduceCtorEq, exists_eq_left', exists_eq_left, if_true, if_false, List.replicate, Nat.reduceAdd, Nat.reduceSub, Nat.reduceMul, Nat.reduceLeDiff, Nat.reduceLT, Nat.reduceEqDiff]
            exact go _ (k + 1, some ((k : Int) :: o, fT h l a k + t)) ⟨⟨hlt, hb2⟩, hf⟩ (by simp only; omega) (Wkn.to ⟨0, [(0, 0), (3, 1)], [], 2, [1, 2, 3, 4, 11, 12, 13, 14]⟩ rfl rfl (by simp [Nat.add_comm 1 o.length, Wk.st, keepT, memN, Wk.fate, Wk.fate0, assoc, getE, Wk.hp, ABlk.sub, sub1, subs, S110, bA, bH, bT, free_pA, free_I]))
          | some x =>
            obtain ⟨bo, bt⟩ := x
            simp only at hf hb2
            by_cases hc : fT h l a k + t < bt
            · have hc' := eq_true hc
              rw [if_pos hc] at hf hb2
              simp +contextual -implicitDefEqProofs (maxSteps := 2000000) only [S110, bA, bH, bT, Option.isSome, e1, e3, sr, an, c1, b1, b2, g1, g2, pA_len, Nat.mul_one, sk, og, yr, w2, hc', rs_nil, rs_t, rs_f, ag_nils, ag_sl, ag_vs, ag_str, ag_ptr, ag_nilp, ag_vp, ag_fun, m1, m2, hsrc, List.length_map, ruB, rh_no, Int.reduceLT, Int.reduceLE, Int.reduceAdd, Int.reduceSub, Int.reduceMul, Int.reduceNeg, Int.reduceToNat, Int.reduceEq, Int.reduceNe, Int.reduceTDiv, Int.reduceTMod, implies_true, putL, appN, appX, appC, Eng.Fi, reduceCtorEq, exists_eq_left', exists_eq_left, if_true, if_false, List.replicate, Nat.reduceAdd, Nat.reduceSub, Nat.reduceMul, Nat.reduceLeDiff, Nat.reduceLT, Nat.reduceEqDiff]
              exact go _ (k + 1, some ((k : Int) :: o, fT h l a k + t)) ⟨⟨hlt, hb2⟩, hf⟩ (by simp only; omega) (Wkn.to ⟨0, [(0, 0), (3, 1)], [], 2, [1, 2, 3, 4, 11, 12, 13, 14]⟩ rfl rfl (by simp [Nat.add_comm 1 o.length, Wk.st, keepT, memN, Wk.fate, Wk.fate0, assoc, getE, Wk.hp, ABlk.sub, sub1, subs, S110, bA, bH, bT, free_pA, free_I]))
            · have hc' := eq_false hc
              rw [if_neg hc] at hf hb2
              simp +contextual -implicitDefEqProofs (maxSteps := 2000000) only [S110, bA, bH, bT, Option.isSome, e1, e3, sr, an, c1, b1, b2, g1, g2, pA_len, Nat.mul_one, sk, og, yr, w2, hc', List.length_map, ruB, rh_no, Int.reduceLT, Int.reduceLE, Int.reduceAdd, Int.reduceSub, Int.reduceMul, Int.reduceNeg, Int.reduceToNat, Int.reduceEq, Int.reduceNe, Int.reduceTDiv, Int.reduceTMod, implies_true, putL, appN, appX, appC, Eng.Fi, reduceCtorEq, exists_eq_left', exists_eq_left, if_true, if_false, List.replicate, Nat.reduceAdd, Nat.reduceSub, Nat.reduceMul, Nat.reduceLeDiff, Nat.reduceLT, Nat.reduceEqDiff]
              exact go _ (k + 1, some (bo, bt)) ⟨⟨hlt, hb2⟩, hf⟩ (by simp only; omega) (Wkn.to ⟨0, [(0, 0), (1, 1)], [], 2, [1, 2, 3, 4, 11, 12, 13, 14]⟩ rfl rfl (by simp [Wk.st, keepT, memN, Wk.fate, Wk.fate0, assoc, getE, Wk.hp, ABlk.sub, sub1, subs, S110, bA, bH, bT, free_pA, free_I]))
  · have e1 : decide ((k : Int) < (l.length : Int)) = false := lt_f hlt
    rw [List.drop_eq_nil_of_le (by simpa using hlt), List.foldl_nil] at hf
    rw [hf]
    cases b with
    | none => simp +contextual -implicitDefEqProofs (maxSteps := 2000000) only [S110, bA, bH, bT, Option.isSome, e1, finV, ruB, rh_no, Int.reduceLT, Int.reduceLE, Int.reduceAdd, Int.reduceSub, Int.reduceMul, Int.reduceNeg, Int.reduceToNat, Int.reduceEq, Int.reduceNe, Int.reduceTDiv, Int.reduceTMod, implies_true, putL, appN, appX, appC, Eng.Fi, reduceCtorEq, exists_eq_left', exists_eq_left, if_true, if_false, List.replicate, Nat.reduceAdd, Nat.reduceSub, Nat.reduceMul, Nat.reduceLeDiff, Nat.reduceLT, Nat.reduceEqDiff]
    | some x =>
      obtain ⟨bo, bt⟩ := x
      have t2 : (bo.map eI).take bo.length = bo.map eI := by rw [List.take_of_length_le]; simp
      simp +contextual -implicitDefEqProofs (maxSteps := 2000000) only [S110, bA, bH, bT, Option.isSome, e1, finV, List.length_map, t2, Nat.le_refl, free_I, ruB, rh_no, Int.reduceLT, Int.reduceLE, Int.reduceAdd, Int.reduceSub, Int.reduceMul, Int.reduceNeg, Int.reduceToNat, Int.reduceEq, Int.reduceNe, Int.reduceTDiv, Int.reduceTMod, implies_true, putL, appN, appX, appC, Eng.Fi, reduceCtorEq, exists_eq_left', exists_eq_left, if_true, if_false, List.replicate, Nat.reduceAdd, Nat.reduceSub, Nat.reduceMul, Nat.reduceLeDiff, Nat.reduceLT, Nat.reduceEqDiff]
theorem g_fin (h : Hd) (l : List Dr) (hc : kQ h l) : ∀ f : Nat, Fn P 110 (cf_fin h l f)
  | 0 => fun args v hh => by
    unfold cf_fin at hh; split at hh
    · split at hh
      · rename_i n a d hq
        obtain ⟨⟨rfl, rfl⟩, ⟨ha, hd⟩, hr⟩ := hq
        cases hh
        obtain ⟨a', rfl⟩ := Int.eq_ofNat_of_zero_le ha
        obtain ⟨d', rfl⟩ := Int.eq_ofNat_of_zero_le hd
        exact k_fin0 h l hc a' d' hr
      · cases hh
    · cases hh
  | f + 1 => fun args v hh => by
    have g := g_fin h l hc f
    unfold cf_fin at hh; split at hh
    · split at hh
      · rename_i n a d hq
        obtain ⟨⟨rfl, rfl⟩, ⟨ha, hd⟩, hr⟩ := hq
        cases hh
        obtain ⟨a', rfl⟩ := Int.eq_ofNat_of_zero_le ha
        obtain ⟨d', rfl⟩ := Int.eq_ofNat_of_zero_le hd
        exact k_finS h l hc f g a' d' hr
      · cases hh
    · cases hh
theorem k_rOrder (h : Hd) (l : List Dr) (hc : kQ h l) : FOk P 63 [eHd h, .vs (l.map eDr)] (finV (finG l.length (fT h l) (fD h l) l.length l.length 0)) := by
  have y := x_rpaths h l (by simp only [hc])
  have hp : 0 < 2 ^ l.length := Nat.pow_pos (by decide)
  have hcn : cnt l.length 0 = l.length := by
    unfold cnt
    rw [List.filter_eq_self.2 (fun k _ => by simp)]
    simp
  have yf : cf_fin h l l.length [.agg (pA h l (l.length + 1) 0), I (l.length : Int), I (l.length : Int), I 0] = some (finV (finG l.length (fT h l) (fD h l) l.length l.length 0)) := x_fin h l l.length l.length 0 ⟨⟨Nat.le_refl _, hp⟩, hcn⟩
  refine c63.fok (by simp only [free_Hs, subs, sub1, free_Se, free_Dr]) (Cor.run (addC_good (g_fin h l hc l.length) (addC_good g_rpaths (noC_good _))) (noHx_good _) hm ?_)
  cases hr : finG l.length (fT h l) (fD h l) l.length l.length 0 with
  | none =>
    rw [hr] at yf
    simp only [finV] at yf
    simp +contextual -implicitDefEqProofs (maxSteps := 2000000) only [bg_eq, a63, y, yf, pV, finV, List.length_map, free_pA, List.map_nil, ruB, rh_no, Int.reduceLT, Int.reduceLE, Int.reduceAdd, Int.reduceSub, Int.reduceMul, Int.reduceNeg, Int.reduceToNat, Int.reduceEq, Int.reduceNe, Int.reduceTDiv, Int.reduceTMod, implies_true, putL, appN, appX, appC, Eng.Fi, reduceCtorEq, exists_eq_left', exists_eq_left, if_true, if_false, List.replicate, Nat.reduceAdd, Nat.reduceSub, Nat.reduceMul, Nat.reduceLeDiff, Nat.reduceLT, Nat.reduceEqDiff]
  | some x =>
    obtain ⟨o, t⟩ := x
    rw [hr] at yf
    simp only [finV] at yf
    simp +contextual -implicitDefEqProofs (maxSteps := 2000000) only [bg_eq, a63, y, yf, pV, finV, List.length_map, free_pA, free_I, ruB, rh_no, Int.reduceLT, Int.reduceLE, Int.reduceAdd, Int.reduceSub, Int.reduceMul, Int.reduceNeg, Int.reduceToNat, Int.reduceEq, Int.reduceNe, Int.reduceTDiv, Int.reduceTMod, implies_true, putL, appN, appX, appC, Eng.Fi, reduceCtorEq, exists_eq_left', exists_eq_left, if_true, if_false, List.replicate, Nat.reduceAdd, Nat.reduceSub, Nat.reduceMul, Nat.reduceLeDiff, Nat.reduceLT, Nat.reduceEqDiff]
end Sc
