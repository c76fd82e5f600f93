/-
  THE ENGINE, PART G: states, operations with memory, running the operations of a region one after the other.
-/
import Derived.Test.YtjfhhaaogcgkpaaEngJ
namespace Eng
open Go
set_option linter.unusedSimpArgs false
set_option linter.unusedVariables false

inductive Opd where
  | t (n : Nat)
  | c (v : AV)

structure AState where
  tm : List AV
  hp : List HEnt
  next : Nat

def getT : List AV → Nat → AV
  | [], _ => .any
  | v :: _, 0 => v
  | _ :: l, n + 1 => getT l n

def setT : List AV → Nat → AV → List AV
  | [], _, _ => []
  | _ :: l, 0, x => x :: l
  | v :: l, n + 1, x => v :: setT l n x

def evO (tm : List AV) : Opd → AV
  | .t n => getT tm n
  | .c v => v

def evs (tm : List AV) : List Opd → List AV
  | [] => []
  | x :: xs => evO tm x :: evs tm xs

inductive AOp where
  | p (o : POp)
  | load (size : Nat) (ag : Bool)
  | call (f : Nat)
  | callv
  | fbs (esz : Nat)
  | alloc (e esz : Nat) (vals : List AV)
  | box (e esz n : Nat) (ag : Bool)
  | bsl (e esz : Nat)
  | store (size : Nat) (ag : Bool)
  | app (e esz bytes : Nat)

structure AOper where
  dst : Option Nat
  op : AOp
  xs : List Opd
  guard : Option (Nat × Bool)

abbrev Look := Nat → Option HEnt

/-- values that a call may be handed: what is still written is read now -/
def pur (lk : Look) : AV → Option AV
  | .slice t esz i n =>
    match lk t with
    | some ⟨_, _, .rows _ esz' vals⟩ => if esz = esz' ∧ i + n ≤ vals.length then some (.vs ((vals.drop i).take n)) else none
    | _ => none
  | .nilslice => some (.vs [])
  | v => some v

def purs (lk : Look) : List AV → Option (List AV)
  | [] => some []
  | v :: vs => (pur lk v).bind fun a => (purs lk vs).map fun r => a :: r

def isSl : AV → Bool
  | .slice .. => true
  | _ => false

/-- nothing in it leads to memory -/
def AV.leaf : AV → Bool
  | .bool _ | .int .. | .str _ | .nilptr | .nilslice | .nilmap | .nilfn | .nilif => true
  | _ => false
def AV.flatV : AV → Bool
  | .agg cs => cs.all AV.leaf
  | .tup us => us.all fun u => match u with | .agg cs => cs.all AV.leaf | u => u.leaf
  | v => v.leaf

def obind {α β : Type} (x : Option α) (f : α → Option β) : Option β := x.bind f
theorem obind_some {α β : Type} (a : α) (f : α → Option β) : obind (some a) f = f a := rfl
theorem obind_none {α β : Type} (f : α → Option β) : obind none f = none := rfl

/-- only if c holds -/
def gif (c : Bool) (r : Option AV) : Option AV := if c then r else some (.tup [])
theorem gif_some (c : Bool) (v : AV) : gif c (some v) = some (optv c v) := by cases c <;> rfl
theorem gif_true (r : Option AV) : gif true r = r := rfl
theorem gif_false (r : Option AV) : gif false r = some (.tup []) := rfl
@[congr] theorem gif_congr {c c' : Bool} {r r' : Option AV} (hc : c = c') (h : c' = true → r = r') : gif c r = gif c' r' := by
  subst hc
  cases c with
  | true => exact h rfl
  | false => rfl

def gbool (want : Bool) : AV → Option Bool
  | .bool b => some (if want then b else !b)
  | .tup [] => some false
  | _ => none
theorem gbool_opt (want c b : Bool) : gbool want (optv c (.bool b)) = some (c && (if want then b else !b)) := by cases c <;> rfl

def AState.put (s : AState) (dst : Option Nat) (v : AV) : AState :=
  match dst with
  | some d => { s with tm := setT s.tm d v }
  | none => s

def putV (s : AState) (dst : Option Nat) (v : AV) : Option AState := some (s.put dst v)

/-- contracts: of function f, called with these values, the result -/
abbrev Ctx := Nat → List AV → Option AV

def callV (cs : Ctx) (lk : Look) (f : Nat) (vals : List AV) : Option AV :=
  (purs lk vals).bind fun as => (cs f as).bind fun v => if vals.any isSl = false ∨ v.flatV = true then some v else none

def rdV (vals : List AV) (i j size : Nat) (ag : Bool) : Option AV :=
  (vals[i]?).bind fun v =>
    if ag then
      if j = 0 ∧ size = v.cells.length then (if v.isAgg then some v else none)
      else if j + size ≤ v.cells.length then some (.agg ((v.cells.drop j).take size)) else none
    else v.cells[j]?

def loadV (lk : Look) (size : Nat) (ag : Bool) : AV → Option AV
  | .ptr t esz i j =>
    match lk t with
    | some ⟨_, _, .rows _ esz' vals⟩ => if esz = esz' then rd esz vals i j size ag else none
    | _ => none
  | .vp vals i j => rdV vals i j size ag
  | _ => none

/-- operations that change nothing but their own slot -/
def valOp (cs : Ctx) (lk : Look) : AOp → List AV → Option AV
  | .p o, vals => evP o vals
  | .load size ag, [x] => loadV lk size ag x
  | .call f, vals => callV cs lk f vals
  | .callv, .fn f first cap :: vals => callV cs lk f (first ++ vals ++ cap)
  | .fbs esz, vals => if vals.all (fun v => decide (v.cells.length = esz) && v.cells.all AV.sc) then some (.vs vals) else none
  | _, _ => none

def AOp.isEff : AOp → Bool
  | .p _ | .load .. | .call _ | .callv | .fbs _ => false
  | _ => true

def storeV (lk : Look) (size : Nat) (ag : Bool) : AV → AV → Option Eff
  | .ptr t esz i j, x =>
    match lk t with
    | some ⟨_, g, .rows e esz' vals⟩ => if esz = esz' then (wr esz vals i j size ag x).map fun vals' => .set t g (.rows e esz vals') else none
    | _ => none
  | _, _ => none

/-- the rows that an append takes -/
def srcV (lk : Look) (esz : Nat) : AV → Option (List AV)
  | .slice t esz' i n =>
    match lk t with
    | some ⟨_, _, .rows _ esz'' vals⟩ => if esz' = esz ∧ esz'' = esz ∧ i + n ≤ vals.length then some ((vals.drop i).take n) else none
    | _ => none
  | .vs vals => if vals.all (fun v => decide (v.cells.length = esz)) then some vals else none
  | .nilslice => some []
  | _ => none

def appV (lk : Look) (id e esz bytes : Nat) : AV → AV → Option (AV × Eff)
  | .nilslice, x =>
    (srcV lk esz x).bind fun xs =>
      if xs.length = 0 then some (.nilslice, .no)
      else if xs.length * bytes ≤ 140737488355328 ∧ xs.length ≤ maxLen then some (.slice id esz 0 xs.length, .new ⟨id, id, .rows e esz xs⟩) else none
  | .slice t esz' i n, x =>
    match lk t with
    | some ⟨_, g, .rows e' esz'' vals⟩ =>
      (srcV lk esz x).bind fun xs =>
        if esz' = esz ∧ esz'' = esz ∧ e' = e ∧ i = 0 ∧ n = vals.length ∧ (n + xs.length) * bytes ≤ 140737488355328 ∧ n + xs.length ≤ maxLen then
          some (.slice id esz 0 (n + xs.length), .ext t g ⟨id, g, .rows e esz (vals ++ xs)⟩)
        else none
    | _ => none
  | _, _ => none

/-- operations that change memory: the value, and what they change; a new block gets the number id -/
def effOp (lk : Look) (id : Nat) : AOp → List AV → Option (AV × Eff)
  | .alloc e esz vals, [] => some (.ptr id esz 0 0, .new ⟨id, id, .rows e esz vals⟩)
  | .box e esz n ag, [x] =>
    if ag then
      if x.isAgg ∧ x.cells.length = n * esz ∧ x.cells.all AV.sc = true then
        some (.ptr id esz 0 0, .new ⟨id, id, .rows e esz (if n = 1 then [x] else rowsOf esz n x.cells)⟩)
      else none
    else if x.sc ∧ esz = 1 ∧ n = 1 then some (.ptr id 1 0 0, .new ⟨id, id, .rows e 1 [x]⟩) else none
  | .bsl e esz, vals =>
    if vals.all (fun v => decide (v.cells.length = esz) && v.cells.all AV.sc) then some (.slice id esz 0 vals.length, .new ⟨id, id, .rows e esz vals⟩) else none
  | .store size ag, [a, x] => (storeV lk size ag a x).map fun f => (.tup [], f)
  | .app e esz bytes, [a, x] => appV lk id e esz bytes a x
  | _, _ => none

def dropG : List HEnt → (t g : Nat) → List HEnt
  | [], _, _ => []
  | e :: r, t, g => if e.grp = g then (if e.id = t then e :: dropG r t g else dropG r t g) else e :: dropG r t g

def applyE : Eff → List HEnt → List HEnt
  | .no, hp => hp
  | .new e, hp => e :: hp
  | .set t g k, hp => setB hp t g k
  | .ext t g e, hp => e :: dropG hp t g

def putE (s : AState) (dst : Option Nat) (r : AV × Eff) : Option AState := some { tm := (s.put dst r.1).tm, hp := applyE r.2 s.hp, next := s.next + 1 }

def stepR (cs : Ctx) (o : AOper) (s : AState) : Option AState :=
  if o.op.isEff then obind (effOp (getE s.hp) s.next o.op (evs s.tm o.xs)) (putE s o.dst) else obind (valOp cs (getE s.hp) o.op (evs s.tm o.xs)) (putV s o.dst)

def stepG (cs : Ctx) (o : AOper) (s : AState) (c : Bool) : Option AState :=
  if o.op.isEff then (if c then stepR cs o s else some (s.put o.dst (.tup [])))
  else obind (gif c (valOp cs (getE s.hp) o.op (evs s.tm o.xs))) (putV s o.dst)

def step (cs : Ctx) (o : AOper) (s : AState) : Option AState :=
  match o.guard with
  | none => stepR cs o s
  | some (g, want) => obind (gbool want (getT s.tm g)) (stepG cs o s)

def run (cs : Ctx) : List AOper → AState → Option AState
  | [], s => some s
  | o :: os, s => obind (step cs o s) (run cs os)

end Eng
