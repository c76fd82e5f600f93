/-
  THE ENGINE, PART S3: contexts; lists of encoded things; weakening, for the simplifier.
-/
import Derived.Test.YtjfhhaaogcgkpaaEngS2
namespace Eng
open Go Go.RowKit
set_option linter.unusedSimpArgs false
set_option linter.unusedVariables false

def noC : Ctx := fun _ _ => none
theorem noC_good (P : Program) : Good P noC := fun _ _ _ h => by simp [noC] at h
def addC (f : Nat) (c : List AV → Option AV) (cs : Ctx) : Ctx := fun g args => if g = f then c args else cs g args
/-- the contracts of one function -/
def Fn (P : Program) (f : Nat) (c : List AV → Option AV) : Prop := ∀ args v, c args = some v → FOk P f args v
theorem addC_good {P : Program} {f : Nat} {c : List AV → Option AV} {cs : Ctx} (h : Fn P f c) (hcs : Good P cs) : Good P (addC f c cs) := fun g args v hv => by
  unfold addC at hv
  split at hv
  · rename_i e; subst e; exact h args v hv
  · exact hcs g args v hv
theorem addC_eq (f : Nat) (c : List AV → Option AV) (cs : Ctx) (args : List AV) : addC f c cs f args = c args := by simp [addC]
theorem addC_ne (f g : Nat) (c : List AV → Option AV) (cs : Ctx) (args : List AV) (h : (g = f) = False) : addC f c cs g args = cs g args := by simp [addC, h]

def addH (f : Nat) (c : List AV → List HEnt → Nat → Option (AV × List HEnt × Nat)) (hx : HCtx) : HCtx := fun g args hp nx => if g = f then c args hp nx else hx g args hp nx
def Hn (P : Program) (f : Nat) (c : List AV → List HEnt → Nat → Option (AV × List HEnt × Nat)) : Prop := ∀ args hp nx v hp' nx', c args hp nx = some (v, hp', nx') → LOk P f args hp nx v hp' nx'
theorem YH_add {P : Program} {f : Nat} {c : List AV → List HEnt → Nat → Option (AV × List HEnt × Nat)} {hx : HCtx} {G : Ghost} (hf : yld ≠ f) (h : YH P hx G) : YH P (addH f c hx) G := fun t vals hp nx v hp' nx' hv => by
  unfold addH at hv
  rw [if_neg hf] at hv
  exact h _ _ _ _ _ _ _ hv
theorem addH_good {P : Program} {f : Nat} {c : List AV → List HEnt → Nat → Option (AV × List HEnt × Nat)} {hx : HCtx} (h : Hn P f c) (hh : HGood P hx) : HGood P (addH f c hx) := fun g args hp nx v hp' nx' hg hv => by
  unfold addH at hv
  split at hv
  · rename_i e; subst e; exact h _ _ _ _ _ _ hv
  · exact hh _ _ _ _ _ _ _ hg hv
theorem addH_eq (f : Nat) (c : List AV → List HEnt → Nat → Option (AV × List HEnt × Nat)) (hx : HCtx) (args : List AV) (hp : List HEnt) (nx : Nat) : addH f c hx f args hp nx = c args hp nx := by simp [addH]
theorem addH_ne (f g : Nat) (c : List AV → List HEnt → Nat → Option (AV × List HEnt × Nat)) (hx : HCtx) (args : List AV) (hp : List HEnt) (nx : Nat) (h : (g = f) = False) : addH f c hx g args hp nx = hx g args hp nx := by simp [addH, h]
theorem noHx_eq (f : Nat) (args : List AV) (hp : List HEnt) (nx : Nat) : noHx f args hp nx = none := rfl

/-- an int -/
abbrev I (n : Int) : AV := .int .i64 n
abbrev B (b : Bool) : AV := .bool b

/-! values without numbers stay as they are -/
mutual
theorem sub1_free {φ : Nat → Fate} : ∀ {v : AV}, sub1 noId v = v → sub1 φ v = v
  | .ptr t esz i j, h => by simp [sub1, noId] at h
  | .vp vals i j, h => by
    simp only [sub1, AV.vp.injEq, and_true] at h ⊢
    exact subs_free h
  | .slice t esz i n, h => by simp [sub1, noId] at h
  | .vs vals, h => by
    simp only [sub1, AV.vs.injEq] at h ⊢
    exact subs_free h
  | .mapv t, h => by simp [sub1, noId] at h
  | .fn f first cap, h => by
    simp only [sub1, AV.fn.injEq, true_and] at h ⊢
    exact ⟨subs_free h.1, subs_free h.2⟩
  | .yield t, h => by simp [sub1, noId] at h
  | .iface t v, h => by
    simp only [sub1, AV.iface.injEq, true_and] at h ⊢
    exact sub1_free h
  | .agg cs, h => by
    simp only [sub1, AV.agg.injEq] at h ⊢
    exact subs_free h
  | .tup us, h => by
    simp only [sub1, AV.tup.injEq] at h ⊢
    exact subs_free h
  | .any, _ => rfl
  | .bool b, _ => rfl
  | .int k n, _ => rfl
  | .str s, _ => rfl
  | .nilptr, _ => rfl
  | .nilslice, _ => rfl
  | .nilmap, _ => rfl
  | .nilfn, _ => rfl
  | .nilif, _ => rfl
theorem subs_free {φ : Nat → Fate} : ∀ {l : List AV}, subs noId l = l → subs φ l = l
  | [], _ => rfl
  | v :: vs, h => by
    simp only [subs, List.cons.injEq] at h ⊢
    exact ⟨sub1_free h.1, subs_free h.2⟩
end

theorem subs_mapE {α : Type} (φ : Nat → Fate) (f : α → AV) (h : ∀ x, sub1 φ (f x) = f x) (l : List α) : subs φ (l.map f) = l.map f := by
  rw [subs_map, List.map_map]
  exact List.map_congr_left fun x _ => h x

theorem subs_I (φ : Nat → Fate) (l : List Int) : subs φ (l.map I) = l.map I := subs_mapE φ _ (fun _ => rfl) l

def decI : AV → Option Int
  | .int .i64 n => some n
  | _ => none
theorem decI_I (n : Int) : decI (.int .i64 n) = some n := rfl
theorem decI_inv {v : AV} {n : Int} (h : decI v = some n) : v = .int .i64 n := by
  unfold decI at h
  split at h
  · cases h; rfl
  · cases h

def decL {α : Type} (dec : AV → Option α) : List AV → Option (List α)
  | [] => some []
  | v :: vs => (dec v).bind fun a => (decL dec vs).map fun r => a :: r
theorem decL_nil {α : Type} (dec : AV → Option α) : decL dec [] = some [] := rfl
def consL {α : Type} : Option α → Option (List α) → Option (List α)
  | some a, some l => some (a :: l)
  | _, _ => none
theorem consL_some {α : Type} (a : α) (l : List α) : consL (some a) (some l) = some (a :: l) := rfl
theorem decL_cons {α : Type} (dec : AV → Option α) (v : AV) (vs : List AV) : decL dec (v :: vs) = consL (dec v) (decL dec vs) := by
  simp only [decL]
  cases dec v <;> cases decL dec vs <;> rfl
theorem decL_map {α : Type} (dec : AV → Option α) (enc : α → AV) (h : ∀ x, dec (enc x) = some x) : ∀ l : List α, decL dec (l.map enc) = some l
  | [] => rfl
  | x :: l => by rw [List.map_cons, decL_cons, h, decL_map dec enc h l]; rfl
theorem decL_inv {α : Type} (dec : AV → Option α) (enc : α → AV) (h : ∀ v x, dec v = some x → v = enc x) : ∀ {vs : List AV} {l : List α}, decL dec vs = some l → vs = l.map enc
  | [], l, hl => by simp only [decL, Option.some.injEq] at hl; subst hl; rfl
  | v :: vs, l, hl => by
    simp only [decL, Option.bind_eq_some_iff, Option.map_eq_some_iff] at hl
    obtain ⟨a, h1, r, h2, rfl⟩ := hl
    rw [h v a h1, decL_inv dec enc h h2]; rfl

/-! ### weakening -/
theorem Wkn.to (k : Wk) {s s2 : AState} {b : Nat} (hb : k.b = b) (hk : k.ok (idg s.hp) = true) (he : k.st s = s2) : Wkn b s s2 := by
  subst hb; subst he; exact Wkn.of k hk

/-- nothing but slots is forgotten -/
def keepF (ks : List Nat) : Nat → List AV → List AV
  | _, [] => []
  | i, v :: vs => (if memN ks i then v else .any) :: keepF ks (i + 1) vs

theorem keepF_sound {G : Ghost} (ks : List Nat) : ∀ {tm : List AV} {l : List Value} (i : Nat), VRels G tm l → VRels G (keepF ks i tm) l
  | [], l, i, h => by simpa only [keepF, VRels] using h
  | v :: vs, l, i, h => by
    simp only [keepF, VRels] at h ⊢
    obtain ⟨c, cs, h1, h2, h3⟩ := h
    refine ⟨c, cs, h1, ?_, keepF_sound ks (i + 1) h3⟩
    split
    · exact h2
    · simp only [VRel]

theorem Wkn.keep (ks : List Nat) {tm : List AV} {hp : List HEnt} {nx b : Nat} {tm2 : List AV} (he : keepF ks 0 tm = tm2) : Wkn b ⟨tm, hp, nx⟩ ⟨tm2, hp, nx⟩ := fun E hE G a w hs => by
  subst he
  exact ⟨G, keepF_sound ks 0 hs.tm, hs.hp, hs.df, hs.le, hs.kp⟩

section
variable (ks : List Nat) (φ : Nat → Fate) (i n : Nat) (v : AV) (l : List AV)
theorem kF_nil : keepF ks i [] = [] := rfl
theorem kF_t (h : memN ks i = true) : keepF ks i (v :: l) = v :: keepF ks (i + 1) l := by simp [keepF, h]
theorem kF_f (h : memN ks i = false) : keepF ks i (v :: l) = .any :: keepF ks (i + 1) l := by simp [keepF, h]
theorem kT_nil : keepT ks φ i [] = [] := rfl
theorem kT_t (h : memN ks i = true) : keepT ks φ i (v :: l) = sub1 φ v :: keepT ks φ (i + 1) l := by simp [keepT, h]
theorem kT_f (h : memN ks i = false) : keepT ks φ i (v :: l) = .any :: keepT ks φ (i + 1) l := by simp [keepT, h]
theorem mN_nil : memN [] n = false := rfl
theorem mN_eq (r : List Nat) : memN (n :: r) n = true := by simp [memN]
theorem mN_ne (a : Nat) (r : List Nat) (h : (a = n) = False) : memN (a :: r) n = memN r n := by simp [memN, h]
end

/-- 64 bits hold it -/
theorem wrap64 {n : Int} (h1 : -9223372036854775808 ≤ n) (h2 : n ≤ 9223372036854775807) : IntKind.wrap .i64 n = n := by
  unfold IntKind.wrap IntKind.bits IntKind.signed
  simp
  omega

end Eng
