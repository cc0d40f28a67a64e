/-
  Texts that the last one of this claim leans on (part 1).
-/
import GoSem.Step
import Derived.Calls
import Derived.Laws.Sem
import Derived.Below
import Derived.Laws.World
import Derived.Laws.AppendOwn
import Derived.Laws.Tables
import Derived.Great.BuildSlice
import Derived.WalkMore
import Derived.Laws.CopyRow
import Derived.Laws.MakeOwn
import Derived.Laws.Append
set_option linter.unusedSimpArgs false
set_option linter.unusedVariables false
set_option linter.unusedSectionVars false

/-
  A machine of values over the model's own code: it runs a function deterministically, on values without addresses where it can. Definitions alone.
-/
namespace Go.Proofs.YtffgjmfkkfinlaaGreat
namespace Vm
open Go

/-- A value of this machine. `s`: a value of the model that is told as it stands; `l`: a slice that nobody writes, element by element (and its capacity, if known); `q`: a pointer into memory that nobody writes; `p`: a pointer into a block of this machine; `a`: a slice of a block's elements; `g`: an aggregate; `t`: a tuple; `f`: a function value; `u`: any value, nothing is known of it. -/
inductive D where
  | s (v : Value)
  | l (cap : Option Nat) (es : List (List D))
  | q (cs : List D)
  | p (id i off : Nat)
  | a (id lo n z : Nat)
  | g (cs : List D)
  | t (vs : List D)
  | f (fn : Fn) (first cap : List D)
  | u
  deriving Inhabited

/-- A block: its elements, each of its cells; whether it is a slice's; 0: it may be written, 1: read alone, 2: neither; whether no cell holds a pointer. -/
structure Blk where
  es : List (List D)
  arr : Bool
  md : Nat
  pu : Bool
  cap : Option Nat
  deriving Inhabited

structure St where
  tm : List (Nat × D)
  hp : List (Nat × Blk)
  nx : Nat

/-- What stays in a call: how many blocks came in, how many temporaries there are, the function, whether what came in is only read. -/
structure Fr where
  k : Nat
  nt : Nat
  fn : Nat
  ro : Bool

/-- What is chosen for a program: functions that write what came in; that hand out slices of their own; that take slices to write; that leave slices of blocks in blocks; which temporaries live at a loop's head (by the loop's first region); whose blocks are locked ahead of a region; which functions' texts have been looked through; which loads (by function and temporary) read what nobody writes; what the functions give whose texts are not gone through. -/
structure Cfg where
  wr : Nat → Bool
  own : Nat → Bool
  byRef : Nat → Bool
  keep : Nat → Bool
  live : Nat → Nat → Option (List Nat)
  lock : Nat → Nat → List Nat
  ok : Nat → Bool
  free : Nat → Nat → Bool
  orc : Nat → List D → List Blk → Option (List D × List Blk)

def und : D := .s undef
def rdT : List (Nat × D) → Nat → D
  | [], _ => .u
  | (i, v) :: m, j => if i = j then v else rdT m j
def noBlk : Blk := ⟨[], false, 2, false, none⟩
def rdH : List (Nat × Blk) → Nat → Blk
  | [], _ => noBlk
  | (i, v) :: m, j => if i = j then v else rdH m j

/-- Is it what one cell holds? -/
def one (v : Value) : Bool := v.oneCell'
def ofValue : Value → D
  | .agg cs => if cs.toList.all one then .g (cs.toList.map .s) else .u
  | .func fn first cap => .f fn (first.toList.map .s) (cap.toList.map .s)
  | v => .s v

def ev (tm : List (Nat × D)) : Operand → D
  | .tmp t => rdT tm t
  | .const v => ofValue v
  | .global g => .s (.pointer (some ⟨g, 0, none⟩))
  | .func f => .f (.func f) [] []

/-- A computation that asks nothing of the world. -/
def val {α : Type} (P : Program) : Sem α → Option α
  | .pure a => some a
  | .program k => val P (k P)
  | _ => none

def toCell : D → Option Value
  | .s v => some v
  | _ => none
def toCells : List D → Option (List Value)
  | [] => some []
  | .s v :: r => match toCells r with
    | some vs => some (v :: vs)
    | none => none
  | _ :: _ => none
def toVal : D → Option Value
  | .s v => some v
  | .g cs => match toCells cs with
    | some vs => some (.agg vs.toArray)
    | none => none
  | _ => none

/-- The cells of a value. -/
def cellsOf : D → Option (List D)
  | .g cs => some cs
  | .s v => if one v then some [.s v] else none
  | .t _ | .u => none
  | d => some [d]
def isPure : D → Bool
  | .s _ | .l .. | .q _ => true
  | _ => false

/-! Types -/
def sz (P : Program) (t : TypeId) : Option Nat := match P.info? t, P.underlying t with | some i, some _ => some i.size | _, _ => none
def byt (P : Program) (t : TypeId) : Option Nat := match P.info? t with | some i => some i.bytes | none => none
def agg (P : Program) (t : TypeId) : Bool := match P.underlying t with | some (.struct _) | some (.array _ _) => true | _ => false
def zer (P : Program) (t : TypeId) : Option (List D) := match P.info? t with | some i => (match i.zero with | some z => (if z.cells.toList.all one then some (z.cells.toList.map .s) else none) | none => none) | none => none
def fld (P : Program) (t : TypeId) (i : Nat) : Option (Nat × Nat) :=
  match P.underlying t with
  | some (.struct fs) => (match fs[i]? with
    | some f => (match sz P f.type with | some n => if n = 0 then none else some (f.offset, n) | none => none)
    | none => none)
  | _ => none
def elt (P : Program) (t : TypeId) : Option TypeId := match P.underlying t with | some (.slice e) => some e | _ => none
def arr (P : Program) (t : TypeId) : Option (Nat × TypeId) := match P.underlying t with | some (.array n e) => some (n, e) | _ => none

def intT (P : Program) (t : TypeId) : Bool := match P.underlying t with | some (.int _) => true | _ => false

/-! Memory -/
def loadD (ag : Bool) (n : Nat) (cs : List D) : Option D :=
  match ag with
  | true => if n ≤ cs.length then some (.g (cs.take n)) else none
  | false => match cs with
    | c :: _ => some c
    | [] => none

def memAt (hp : List (Nat × Blk)) : D → Option (List D)
  | .q cs => some cs
  | .p id i off => match rdH hp id with
    | b => if b.md < 2 then (match b.es[i]? with
      | some e => some (e.drop off)
      | none => none) else none
  | _ => none

/-- A slice that is all of a block, handed out to be read: the block is locked (where `dr`, it must be so already). -/
def frz (dr : Bool) (hp : List (Nat × Blk)) : D → Option (D × List (Nat × Blk))
  | .a id lo n _ => match rdH hp id with
    | b => if b.pu = true ∧ b.arr = true ∧ lo + n ≤ b.es.length then
        (match b.md with
        | 0 => if dr then none else some (.l none ((b.es.drop lo).take n), (id, { b with md := 1 }) :: hp)
        | 1 => some (.l none ((b.es.drop lo).take n), hp)
        | _ => none)
      else none
  | d => some (d, hp)
def frzs (dr : Bool) (hp : List (Nat × Blk)) : List D → Option (List D × List (Nat × Blk))
  | [] => some ([], hp)
  | d :: r => match frz dr hp d with
    | some (d', hp1) => (match frzs dr hp1 r with
      | some (r', hp2) => some (d' :: r', hp2)
      | none => none)
    | none => none
def frzG (dr : Bool) (hp : List (Nat × Blk)) : D → Option (D × List (Nat × Blk))
  | .g cs => match frzs dr hp cs with
    | some (cs', hp') => some (.g cs', hp')
    | none => none
  | d => frz dr hp d
def frzGs (dr : Bool) (hp : List (Nat × Blk)) : List D → Option (List D × List (Nat × Blk))
  | [] => some ([], hp)
  | d :: r => match frzG dr hp d with
    | some (d', hp1) => (match frzGs dr hp1 r with
      | some (r', hp2) => some (d' :: r', hp2)
      | none => none)
    | none => none

/-! What is reached -/
def refsA : D → List Nat
  | .p id _ _ => [id]
  | .a id _ _ _ => [id]
  | _ => []
def refsL : List D → List Nat
  | [] => []
  | d :: r => refsA d ++ refsL r
def refsG : D → List Nat
  | .g cs => refsL cs
  | d => refsA d
def refsGL : List D → List Nat
  | [] => []
  | d :: r => refsG d ++ refsGL r
def refs : D → List Nat
  | .t vs => refsGL vs
  | .f _ x y => refsGL x ++ refsGL y
  | d => refsG d
def refsLL : List D → List Nat
  | [] => []
  | d :: r => refs d ++ refsLL r
def refsE : List (List D) → List Nat
  | [] => []
  | e :: r => refsGLf e ++ refsE r
where refsGLf : List D → List Nat
  | [] => []
  | d :: r => refs d ++ refsGLf r
def refsB (b : Blk) : List Nat := if b.pu then [] else refsE b.es
def has (l : List Nat) (x : Nat) : Bool := match l with
  | [] => false
  | y :: r => if x = y then true else has r x
def reach (hp : List (Nat × Blk)) : Nat → List Nat → List Nat → List Nat
  | 0, _, seen => seen
  | _ + 1, [], seen => seen
  | n + 1, x :: todo, seen => if has seen x || 1 < (rdH hp x).md then reach hp n todo seen else reach hp n (todo ++ refsB (rdH hp x)) (seen ++ [x])

/-! Names anew: what has none is no longer known -/
def nm : List (Nat × Nat) → Nat → Option Nat
  | [], _ => none
  | (i, v) :: m, j => if i = j then some v else nm m j
def renA (ρ : List (Nat × Nat)) : D → D
  | .p id i off => match nm ρ id with
    | some x => .p x i off
    | none => .u
  | .a id lo n z => match nm ρ id with
    | some x => .a x lo n z
    | none => .u
  | .s v => .s v
  | .l c es => .l c es
  | .q cs => .q cs
  | _ => .u
def renG (ρ : List (Nat × Nat)) : D → D
  | .g cs => .g (cs.map (renA ρ))
  | d => renA ρ d
def ren (ρ : List (Nat × Nat)) : D → D
  | .t vs => .t (vs.map (renG ρ))
  | .f fn x y => .f fn (x.map (renG ρ)) (y.map (renG ρ))
  | d => renG ρ d
def renB (ρ : List (Nat × Nat)) (b : Blk) : Blk := if b.pu then b else { b with es := b.es.map (·.map (ren ρ)) }
/-- Each of a list of names with its place. -/
def pos (i : Nat) : List Nat → List (Nat × Nat)
  | [] => []
  | x :: r => (x, i) :: pos (i + 1) r
def backOf (fresh : Nat) (i n : Nat) (l : List Nat) : List (Nat × Nat) :=
  match n with
  | 0 => []
  | n + 1 => match l with
    | x :: r => (i, x) :: backOf fresh (i + 1) n r
    | [] => (i, fresh) :: backOf (fresh + 1) (i + 1) n []

def upto : Nat → Nat → List Nat
  | 0, _ => []
  | n + 1, i => i :: upto n (i + 1)

def fuel : Nat := 400

/-! At a loop's head: what doesn't live is forgotten, names are made anew -/
def nameOf (k : Nat) (vals : List (Nat × D)) (id : Nat) : Option Nat :=
  match vals with
  | [] => none
  | (t, v) :: r => match refs v with
    | [x] => if x = id then some (k + t) else nameOf k r id
    | _ => nameOf k r id
def names (k : Nat) (vals : List (Nat × D)) : Nat → List Nat → List (Nat × Nat)
  | _, [] => []
  | j, id :: r => if id < k then (id, id) :: names k vals j r else match nameOf k vals id with
    | some x => (id, x) :: names k vals j r
    | none => (id, j) :: names k vals (j + 1) r
def dist : List (Nat × Nat) → Bool
  | [] => true
  | (_, x) :: r => !has (r.map (·.2)) x && dist r
def inb (n : Nat) : List (Nat × Nat) → Bool
  | [] => true
  | (_, x) :: r => Nat.blt x n && inb n r
def pick (tm : List (Nat × D)) : List Nat → List (Nat × D)
  | [] => []
  | t :: r => (t, rdT tm t) :: pick tm r
def heapOf (ρ : List (Nat × Nat)) (hp : List (Nat × Blk)) : List Nat → List (Nat × Blk)
  | [] => []
  | id :: r => match nm ρ id with
    | some x => (x, renB ρ (rdH hp id)) :: heapOf ρ hp r
    | none => heapOf ρ hp r
def norm (fr : Fr) (L : List Nat) (st : St) : Option St :=
  let vals := pick st.tm L
  let ids := reach st.hp fuel (upto fr.k 0 ++ refsLL (vals.map (·.2))) []
  let ρ := names fr.k vals (fr.k + fr.nt) ids
  if dist ρ && inb (fr.k + fr.nt + ids.length) ρ then
    some { tm := vals.map fun (t, v) => (t, ren ρ v), hp := heapOf ρ st.hp ids, nx := fr.k + fr.nt + ids.length }
  else none

/-! Operations -/
def fillD {α : Type} : List α → List (Nat × List α) → Option (List α)
  | cs, [] => some cs
  | cs, (off, v) :: r => if off + v.length ≤ cs.length then fillD (cs.take off ++ v ++ cs.drop (off + v.length)) r else none
def structOk (P : Program) (t : TypeId) : Bool := match P.underlying t with
  | some (.struct fs) => fs.toList.all fun f => (P.info? f.type).isSome
  | some (.array _ e) => (P.info? e).isSome
  | _ => true
def partsOf (P : Program) (t : TypeId) (tm : List (Nat × D)) : List (Nat × Operand) → Option (List (Nat × List D))
  | [] => some []
  | (i, x) :: r => match cellsOf (ev tm x) with
    | none => none
    | some v => match (match arr P t with
      | some (_, e) => (match sz P e with | some n => if v.length = n then some (i * n) else none | none => none)
      | none => (match fld P t i with | some (off, n) => if v.length = n then some off else none | none => none)) with
      | some off => (match partsOf P t tm r with
        | some ps => some ((off, v) :: ps)
        | none => none)
      | none => none
def elemsOf (tm : List (Nat × D)) (n : Nat) : Nat → List (Nat × Operand) → Option (List (List D))
  | _, [] => some []
  | j, (i, x) :: r => match cellsOf (ev tm x) with
    | none => none
    | some v => if i = j ∧ v.length = n then (match elemsOf tm n (j + 1) r with
        | some es => some (v :: es)
        | none => none)
      else none
def allPure : List D → Bool
  | [] => true
  | d :: r => isPure d && allPure r
def allPureE : List (List D) → Bool
  | [] => true
  | e :: r => allPure e && allPureE r

def asNat : D → Option Nat
  | .s (.int _ n) => if 0 ≤ n then some n.toNat else none
  | _ => none

def nilS : D := .s (.slice none 0 0)

/-- A slice cut: from where, up to where, and the capacity's end. -/
def bnd (n : Nat) (cap : Option Nat) (lo hi mx : Option D) : Option (Nat × Nat × Option Nat) :=
  match (match lo with | none => some 0 | some d => asNat d), (match hi with | none => some n | some d => asNat d) with
  | some l, some h => if l ≤ h ∧ h ≤ n then (match mx with
      | none => (match cap with | some c => some (l, h, some (c - l)) | none => some (l, h, none))
      | some d => (match hi, asNat d with | some _, some m => if m = h then some (l, h, some (h - l)) else none | _, _ => none))
    else none
  | _, _ => none
/-- Has the element there the size? -/
def elOk (n : Nat) (es : List (List D)) (l : Nat) : Bool := match es[l]? with
  | some e => e.length == n
  | none => true
def cut (P : Program) (t : TypeId) (dr : Bool) (hp : List (Nat × Blk)) (x : D) (lo : Option D) (hi : Option D) (mx : Option D) : Option (D × List (Nat × Blk)) :=
  match x with
  | .s (.string b) => (match P.underlying t, mx with
    | some .string, none => (match bnd b.size none lo hi none with
      | some (l, h, _) => some (.s (.string (b.extract l h)), hp)
      | none => none)
    | _, _ => none)
  | x => match elt P t with
    | none => none
    | some el => match sz P el with
      | none => none
      | some n => match x with
        | .l cap es => (match bnd es.length cap lo hi mx with
          | some (l, h, c) => if elOk n es l then some (.l c ((es.take h).drop l), hp) else none
          | none => none)
        | .s (.slice none 0 0) => (match bnd 0 (some 0) lo hi mx with
          | some _ => some (nilS, hp)
          | none => none)
        | .a id o m z => if z = n then (match mx with
          | none => (match bnd m none lo hi none with
            | some (l, h, _) => some (.a id (o + l) (h - l) z, hp)
            | none => none)
          | some mx => (match frz dr hp (.a id o m z) with
            | some (.l c es, hp') => (match bnd es.length c lo hi (some mx) with
              | some (l, h, c) => if elOk n es l then some (.l c ((es.take h).drop l), hp') else none
              | none => none)
            | _ => none))
          else none
        | _ => none

/-- The elements of what is appended, or copied. -/
def elems (dr : Bool) (hp : List (Nat × Blk)) : D → Option (List (List D) × List (Nat × Blk))
  | .s (.slice none 0 0) => some ([], hp)
  | .l _ es => some (es, hp)
  | .a id lo n z => match frz dr hp (.a id lo n z) with
    | some (.l _ es, hp') => some (es, hp')
    | _ => none
  | _ => none
/-- Likewise, where the elements are read alone. -/
def peek (hp : List (Nat × Blk)) : D → Option (List (List D))
  | .s (.slice none 0 0) => some []
  | .l _ es => some es
  | .a id lo n _ => match rdH hp id with
    | b => if b.arr = true ∧ b.pu = true ∧ b.md < 2 ∧ lo + n ≤ b.es.length then some ((b.es.drop lo).take n) else none
  | _ => none

def sizesOk (n : Nat) : List (List D) → Bool
  | [] => true
  | e :: r => e.length == n && sizesOk n r

def isNilS : D → Option Bool
  | .s (.slice none 0 0) => some true
  | .l .. | .a .. => some false
  | _ => none
def isNilP : D → Option Bool
  | .s (.pointer none) => some true
  | .p .. | .q _ => some false
  | _ => none
def isNilF : D → Option Bool
  | .s .nilFunc => some true
  | .f .. => some false
  | _ => none

/-- Whether two are the same, of which one is nil. -/
def eqNil (P : Program) (t : TypeId) (x y : D) : Option Bool :=
  match P.underlying t with
  | some (.slice _) => (match isNilS x, isNilS y with
    | some true, some b => some b
    | some false, some true => some false
    | _, _ => none)
  | some (.pointer _) => (match isNilP x, isNilP y with
    | some true, some b => some b
    | some false, some true => some false
    | _, _ => none)
  | some (.func ..) => (match isNilF x, isNilF y with
    | some true, some b => some b
    | some false, some true => some false
    | _, _ => none)
  | _ => none

def isNilI : Value → Bool
  | .nilIface => true
  | _ => false
def isEq : BinOp → Bool
  | .eql | .neq => true
  | _ => false

def binD (P : Program) (op : BinOp) (t : TypeId) (x y : D) : Option D :=
  match toVal x, toVal y with
  | some v, some w => if isEq op && (P.eqGuardType P.depth t || isNilI v) then none else
    (match val P (binOp op t v w) with
    | some r => some (ofValue r)
    | none => none)
  | _, _ => match op with
    | .eql => (match eqNil P t x y with | some b => some (.s (.bool b)) | none => none)
    | .neq => (match eqNil P t x y with | some b => some (.s (.bool !b)) | none => none)
    | _ => none

def lenD : D → Option Nat
  | .s (.slice none 0 0) => some 0
  | .s (.string b) => some b.size
  | .l _ es => some es.length
  | .a _ _ n _ => some n
  | _ => none
/-- Has it the type's kind? -/
def lenT (P : Program) (t : TypeId) : D → Bool
  | .s (.string _) => (match P.underlying t with | some .string => true | _ => false)
  | _ => (match P.underlying t with | some (.slice _) => true | _ => false)
def capD (hp : List (Nat × Blk)) : D → Option Nat
  | .s (.slice none 0 0) => some 0
  | .l (some c) _ => some c
  | .a id lo _ _ => if (rdH hp id).md < 2 then (match (rdH hp id).cap with
    | some c => some (c - lo)
    | none => none) else none
  | _ => none

abbrev Callee := Nat → List D → List Blk → Option (List D × List Blk)

def onlyS : List D → Bool
  | [] => true
  | .s _ :: r => onlyS r
  | .g cs :: r => (match toCells cs with | some _ => onlyS r | none => false)
  | _ => false

def noA : List D → Bool
  | [] => true
  | .a .. :: _ => false
  | .g cs :: r => noA0 cs && noA r
  | _ :: r => noA r
where noA0 : List D → Bool
  | [] => true
  | .a .. :: _ => false
  | _ :: r => noA0 r

/-- A call: what is reached by the arguments is handed over under new names, and comes back. Where values alone come back, nothing was kept. -/
def callD (c : Cfg) (fr : Fr) (dr : Bool) (call : Callee) (f : Nat) (args : List D) (st : St) : Option (D × St) :=
  match (if c.byRef f then some (args, st.hp) else frzGs false st.hp args) with
  | none => none
  | some (args, hp) =>
      let ids := reach hp fuel (refsLL args) []
      let ρ := pos 0 ids
      if fr.ro && c.wr f && ids.any (· < fr.k) then none else
      match (if c.keep f then some hp else frzBs false hp ids) with
      | none => none
      | some hp => match call f (args.map (ren ρ)) (ids.map fun id => renB ρ (rdH hp id)) with
        | none => none
        | some (res, bs) =>
          if onlyS res && !c.wr f then some (resD res, st) else
          if dr && (hp.length != st.hp.length || c.keep f) then none else
          let back := backOf st.nx 0 bs.length ids
          if c.wr f || c.keep f then
            some (resD (res.map (ren back)), { tm := st.tm, hp := addB back 0 bs hp, nx := st.nx + (bs.length - ids.length) })
          else if anyArr hp ids || mds hp ids bs then none
          else some (resD (res.map (ren back)), { tm := st.tm, hp := addB back ids.length (bs.drop ids.length) hp, nx := st.nx + (bs.length - ids.length) })
where
  addB (ρ : List (Nat × Nat)) : Nat → List Blk → List (Nat × Blk) → List (Nat × Blk)
    | _, [], hp => hp
    | i, b :: r, hp => match nm ρ i with
      | some x => addB ρ (i + 1) r ((x, renB ρ b) :: hp)
      | none => addB ρ (i + 1) r hp
  mds (hp : List (Nat × Blk)) : List Nat → List Blk → Bool
    | id :: r, b :: s => (rdH hp id).md != b.md || mds hp r s
    | _, _ => false
  anyArr (hp : List (Nat × Blk)) : List Nat → Bool
    | [] => false
    | id :: r => (rdH hp id).arr || anyArr hp r
  resD : List D → D
    | [d] => d
    | ds => .t ds
  frzBs (dr : Bool) (hp : List (Nat × Blk)) : List Nat → Option (List (Nat × Blk))
    | [] => some hp
    | id :: r =>
      let b := rdH hp id
      if 1 < b.md then frzBs dr hp r else
      if b.pu || b.arr then frzBs dr hp r else
      match b.es with
      | [cs] => (match frzGs dr hp cs with
        | some (cs', hp') => if hp'.length = hp.length ∧ noA cs then frzBs dr hp r else frzBs dr ((id, { b with es := [cs'] }) :: hp') r
        | none => none)
      | _ => none

/-- An append: onto what has no room a new block is made; onto a block's slice it goes on in that, or as a new block. -/
def appendD (fr : Fr) (n bytes : Nat) (st : St) (x y : D) : Option (D × St) :=
  match peek st.hp y with
  | none => none
  | some new =>
    if sizesOk n new && (lenOr x + new.length) * bytes ≤ 140737488355328 && lenOr x + new.length ≤ 140737488355328 then
      match x with
      | .s (.slice none 0 0) => if new.isEmpty then some (nilS, st) else mk st.hp [] 0 true new
      | .l (some c) es => if new.isEmpty then some (.l (some c) es, st) else
        if c < es.length + new.length && sizesOk n es then mk st.hp es 0 true new else none
      | .a id lo k z =>
        let b := rdH st.hp id
        if b.arr = true ∧ b.md < 2 ∧ lo + k ≤ b.es.length ∧ (fr.ro = false ∨ fr.k ≤ id) ∧ z = n then
          if new.isEmpty then some (.a id lo k z, st)
          else if lo + k + new.length ≤ b.es.length ∧ b.md = 0 then
            some (.a id lo (k + new.length) z, { tm := st.tm, hp := (id, { b with es := b.es.take (lo + k) ++ new ++ b.es.drop (lo + k + new.length) }) :: st.hp, nx := st.nx })
          else if lo = 0 ∧ (b.md = 0 ∨ k = b.es.length) then
            mk ((id, { b with md := 2 }) :: st.hp) (b.es.take k) b.md b.pu new
          else none
        else none
      | _ => none
    else none
where
  lenOr (d : D) : Nat := match lenD d with
    | some n => n
    | none => 0
  mk (hp : List (Nat × Blk)) (es : List (List D)) (md : Nat) (pu : Bool) (new : List (List D)) : Option (D × St) :=
    some (.a st.nx 0 (es.length + new.length) n, { tm := st.tm, hp := (st.nx, ⟨es ++ new, true, md, pu, none⟩) :: hp, nx := st.nx + 1 })

/-- What is written into a block's slice, from its begin on. -/
def writeD (fr : Fr) (n : Nat) (st : St) (id lo k z : Nat) (new : List (List D)) : Option St :=
  let b := rdH st.hp id
  if b.arr = true ∧ b.md = 0 ∧ lo + k ≤ b.es.length ∧ new.length ≤ k ∧ sizesOk n new = true ∧ (fr.ro = false ∨ fr.k ≤ id) ∧ z = n then
    some { tm := st.tm, hp := (id, { b with es := b.es.take lo ++ new ++ b.es.drop (lo + new.length) }) :: st.hp, nx := st.nx }
  else none

/-- What is copied into a block's slice. -/
def copyD (fr : Fr) (n : Nat) (st : St) (x y : D) : Option (D × St) :=
  match x, peek st.hp y with
  | .a id lo k z, some src => if sizesOk n src then (match writeD fr n st id lo k z (src.take k) with
    | some st' => some (.s (.int .i64 (src.take k).length), st')
    | none => none) else none
  | _, _ => none

/-- An operation that asks no memory: its value. -/
def op0 (P : Program) (tm : List (Nat × D)) (o : Oper) : Option D :=
  let e := ev tm
  match o.op with
  | .move x | .assign x => some (e x)
  | .pick b x y => match e b with
    | .s (.bool t) => some (if t then e x else e y)
    | _ => none
  | .build t ps => match zer P t, partsOf P t tm ps.toList, agg P t && structOk P t with
    | some z, some ps, true => (match fillD z ps with
      | some cs => some (.g cs)
      | none => none)
    | _, _, _ => none
  | .nilCheck x => match e x with
    | .p id i off => some (.p id i off)
    | .q cs => some (.q cs)
    | .f (.func g) x y => some (.f (.func g) x y)
    | _ => none
  | .binOp op t x y _ => binD P op t (e x) (e y)
  | .unOp op _ x => match e x with
    | .s v => (match val P (Op.unary op v) with | some r => some (ofValue r) | none => none)
    | _ => none
  | .convert s d x => match e x with
    | .s v => (match val P (convert s d v) with | some r => some (ofValue r) | none => none)
    | _ => none
  | .index t x i => match e i with
    | .s (.int _ n) => (match e x with
      | .g cs => (match arr P t with
        | some (len, el) => (match sz P el with
          | some m => if 0 ≤ n ∧ n < len then loadD (agg P el) m (cs.drop (n.toNat * m)) else none
          | none => none)
        | none => none)
      | .s (.string b) => (match P.underlying t with
        | some .string => if 0 ≤ n then (match b[n.toNat]? with
            | some u => some (.s (.int .u8 u.toNat))
            | none => none) else none
        | _ => none)
      | _ => none)
    | _ => none
  | .field t x i => match e x, fld P t i with
    | .g cs, some (off, n) => (match (match P.underlying t with | some (.struct fs) => (fs[i]?).map (fun f => agg P f.type) | _ => none) with
      | some ag => loadD ag n (cs.drop off)
      | none => none)
    | _, _ => none
  | .makeFunc fn x y => some (.f fn (x.toList.map e) (y.toList.map e))
  | .fieldAddr t x i => match e x, fld P t i with
    | .p id j off, some (o, _) => some (.p id j (off + o))
    | .q cs, some (o, _) => some (.q (cs.drop o))
    | _, _ => none
  | .indexAddr t x i => match e i with
    | .s (.int _ n) => (match elt P t with
      | some el => (match sz P el with
        | some m => if 0 ≤ n then (match e x with
            | .l _ es => (match es[n.toNat]? with
              | some c => if c.length = m then some (.q c) else none
              | none => none)
            | .a id lo len z => if n < len ∧ z = m then some (.p id (lo + n.toNat) 0) else none
            | _ => none) else none
        | none => none)
      | none => (match arr P t with
        | some (len, el) => (match sz P el with
          | some m => if 0 ≤ n ∧ n < len then (match e x with
              | .p id j off => some (.p id j (off + n.toNat * m))
              | .q cs => some (.q (cs.drop (n.toNat * m)))
              | _ => none) else none
          | none => none)
        | none => none))
    | _ => none
  | .extract x i => match e x with
    | .t vs => vs[i]?
    | _ => none
  | .call cl => match cl.callee with
    | .builtin .len => (match cl.args.toList.map e, cl.argTypes.toList with
      | [x], [t] => if lenT P t x then (match lenD x with
        | some n => some (.s (.int .i64 n))
        | none => none) else none
      | _, _ => none)
    | .builtin .min => minmax false (cl.args.toList.map e)
    | .builtin .max => minmax true (cl.args.toList.map e)
    | .builtin b => (match toCells (cl.args.toList.map e) with
      | some vs => (match b with
        | .complex => pureB (Builtin.complex_ cl.argTypes o.type vs.toArray)
        | .real => pureB (Builtin.real_ cl.argTypes o.type vs.toArray)
        | .imag => pureB (Builtin.imag_ cl.argTypes o.type vs.toArray)
        | _ => none)
      | none => none)
    | _ => none
  | _ => none
where
  minmax (mx : Bool) : List D → Option D
    | .s (.int k x) :: r => mm mx k x r
    | _ => none
  mm (mx : Bool) (k : IntKind) (x : Int) : List D → Option D
    | [] => some (.s (.int k x))
    | .s (.int _ y) :: r => mm mx k (if mx then (if y > x then y else x) else (if y < x then y else x)) r
    | _ => none
  pureB (s : Sem Value) : Option D := match val P s with
    | some r => some (ofValue r)
    | none => none

/-- How an operation stands to memory: 0: it asks none, 1: it reads, or makes new, 2: it may write. -/
def cls (c : Cfg) (fn : Nat) (o : Oper) : Nat :=
  match o.op with
  | .load .. => (match o.dst with
    | some t => if c.free fn t then 0 else 1
    | none => 1)
  | .alloc _ | .box .. | .makeSlice .. | .slice .. | .buildSlice .. => 1
  | .store .. => 2
  | .call cl => match cl.callee with
    | .builtin .append | .builtin .copy | .builtin .clear => 2
    | .builtin .cap => 1
    | .builtin _ => 0
    | .value (.func g) => if c.wr g then 2 else 1
    | _ => 1
  | _ => 0

/-- An operation that asks memory: its value, and what is then. -/
def op1 (P : Program) (c : Cfg) (fr : Fr) (dr : Bool) (call : Callee) (st : St) (o : Oper) : Option (D × St) :=
  let e := ev st.tm
  match o.op with
  | .alloc t => match zer P t with
    | some z => some (newVar st z)
    | none => none
  | .box _ x => match cellsOf (e x) with
    | some cs => some (newVar st cs)
    | none => none
  | .buildSlice t len ps => match elt P t with
    | some el => (match sz P el with
      | some n => (match elemsOf st.tm n 0 ps.toList with
        | some es => if es.length = len ∧ allPureE es = true ∧ len * n ≤ 16777216 ∧ 0 < n ∧ (zer P el).isSome = true then some (.l (some len) es, st) else none
        | none => none)
      | none => none)
    | none => none
  | .load t x => match memAt st.hp (e x), sz P t with
    | some cs, some n => (match loadD (agg P t) n cs with
      | some d => some (d, st)
      | none => none)
    | _, _ => none
  | .store t x y => match e x, sz P t, cellsOf (e y) with
    | .p id i off, some n, some cs =>
      let b := rdH st.hp id
      if b.md = 0 ∧ cs.length = n ∧ 0 < n ∧ (fr.ro = false ∨ fr.k ≤ id) then
        match b.es[i]? with
        | some el => if off + n ≤ el.length then
            some (und, { tm := st.tm, hp := (id, { b with es := b.es.set i (el.take off ++ cs ++ el.drop (off + n)), pu := b.pu && allPure cs }) :: st.hp, nx := st.nx })
          else none
        | none => none
      else none
    | _, _, _ => none
  | .makeSlice t x y => match elt P t, asNat (e x), asNat (e y) with
    | some el, some n, some m => (match sz P el, byt P el, zer P el with
      | some k, some by_, some z => if n = m ∧ z.length = k ∧ n * by_ ≤ 140737488355328 ∧ n ≤ 140737488355328 ∧ 0 < k then
          some (.a st.nx 0 n k, { tm := st.tm, hp := (st.nx, ⟨List.replicate n z, true, 0, true, some n⟩) :: st.hp, nx := st.nx + 1 })
        else none
      | _, _, _ => none)
    | _, _, _ => none
  | .slice t x lo hi mx => match cut P t dr st.hp (e x) (lo.map e) (hi.map e) (mx.map e) with
    | some (d, hp) => some (d, { st with hp := hp })
    | none => none
  | .call cl => match cl.callee with
    | .builtin .cap => (match cl.args.toList.map e, cl.argTypes.toList with
      | [x], [t] => (match elt P t, capD st.hp x with
        | some _, some n => some (.s (.int .i64 n), st)
        | _, _ => none)
      | _, _ => none)
    | .builtin .copy => (match cl.args.toList.map e, cl.argTypes.toList with
      | [x, y], [t, u] => (match elt P t, elt P u with
        | some el, some _ => (match sz P el with
          | some n => if 0 < n then copyD fr n st x y else none
          | none => none)
        | _, _ => none)
      | _, _ => none)
    | .builtin .clear => (match cl.args.toList.map e, cl.argTypes.toList with
      | [.a id lo k z0], [t] => (match elt P t with
        | some el => (match zer P el with
          | some z => (match writeD fr z.length st id lo k z0 (List.replicate k z), sz P el with
            | some st', some n => if n = z.length ∧ 0 < n ∧ 0 < k then some (und, st') else none
            | _, _ => none)
          | none => none)
        | none => none)
      | _, _ => none)
    | .builtin .append => (match cl.args.toList.map e, cl.argTypes.toList with
      | [x, y], [t, u] => (match elt P t with
        | some el => (match sz P el, byt P el, zer P el with
          | some n, some by_, some z => if 0 < n ∧ z.length = n then (match elt P u, intT P u, asNat y with
              | some _, _, _ => appendD fr n by_ st x y
              | none, true, some m => appendD fr n by_ st x (.l none (List.replicate m z))
              | _, _, _ => none) else none
          | _, _, _ => none)
        | none => none)
      | _, _ => none)
    | .value (.func g) => callD c fr (dr && !c.wr g) call g (cl.args.toList.map e) st
    | .value fx => (match ev st.tm fx with
      | .f (.func g) first cap => if dr && c.wr g then none else callD c fr dr call g (first ++ cl.args.toList.map e ++ cap) st
      | _ => none)
    | _ => none
  | _ => none
where
  newVar (st : St) (cs : List D) : D × St :=
    (.p st.nx 0 0, { tm := st.tm, hp := (st.nx, ⟨[cs], false, 0, allPure cs, none⟩) :: st.hp, nx := st.nx + 1 })

/-- An operation that asks no memory, or reads what nobody writes. -/
def opQ (P : Program) (tm : List (Nat × D)) (o : Oper) : Option D := match o.op with
  | .load t x => (match ev tm x, sz P t with
    | .q cs, some n => loadD (agg P t) n cs
    | _, _ => none)
  | _ => op0 P tm o

/-- One operation: its value, and what is then. -/
def opD (P : Program) (c : Cfg) (fr : Fr) (dr : Bool) (call : Callee) (st : St) (o : Oper) : Option (D × St) :=
  match cls c fr.fn o with
  | 0 => (match opQ P st.tm o with
    | some d => some (d, st)
    | none => none)
  | _ => op1 P c fr dr call st o

/-- An operation with its guard, and where its value goes. -/
def operD (P : Program) (c : Cfg) (fr : Fr) (dr : Bool) (call : Callee) (ops : Array Oper) (st : St) (o : Oper) : Option St :=
  let put (d : D) (st : St) : St := match o.dst with
    | some t => { st with tm := (t, d) :: st.tm }
    | none => st
  let go : Option St := match opD P c fr dr call st o with
    | some (d, st') => some (put d st')
    | none => none
  match o.guard with
  | none => go
  | some (j, want) => match (ops[j]?).bind (·.dst) with
    | some t => (match rdT st.tm t with
      | .s (.bool b) => if b = want then go else some (put und st)
      | .s _ => some (put und st)
      | _ => none)
    | none => none

def opsD (P : Program) (c : Cfg) (fr : Fr) (dr : Bool) (call : Callee) (ops : Array Oper) : List Oper → St → Option St
  | [], st => some st
  | o :: r, st => match operD P c fr dr call ops st o with
    | some st' => opsD P c fr dr call ops r st'
    | none => none

/-- What a temporary leads to is locked: a slice's block is read alone from then on; a variable is told by its cells, and not asked again. -/
def lockV (st : St) (t : Nat) : Option St := match rdT st.tm t with
  | .p id 0 0 => if (rdH st.hp id).pu = true ∧ (rdH st.hp id).md < 2 then (match (rdH st.hp id).es[0]? with
      | some cs => some { tm := (t, .q cs) :: st.tm, hp := (id, { rdH st.hp id with md := 2 }) :: st.hp, nx := st.nx }
      | none => none) else none
  | d => match frz false st.hp d with
    | some (_, hp) => some { st with hp := hp }
    | none => none
def lockD : List Nat → St → Option St
  | [], st => some st
  | t :: r, st => match lockV st t with
    | some st' => lockD r st'
    | none => none

inductive Ex where
  | normal
  | exit (id : Nat)
  | goto (l : Nat)
  | ret
  deriving DecidableEq

def iter (body : St → Option (Ex × St)) (head : St → Option St) : Nat → St → Option (Ex × St)
  | 0, _ => none
  | n + 1, st => match head st with
    | none => none
    | some st => match body st with
      | some (.normal, st') => iter body head n st'
      | r => r

def firstRegion : Code → Nat
  | .region id _ _ => id
  | .seq a _ => firstRegion a
  | .cond _ a _ => firstRegion a
  | .block _ a => firstRegion a
  | .loop a => firstRegion a
  | .scope a => firstRegion a
  | _ => 0

def headD (c : Cfg) (fr : Fr) (body : Code) (st : St) : Option St :=
  match c.live fr.fn (firstRegion body) with
  | some L => norm fr L st
  | none => some st

def headJ (c : Cfg) (fr : Fr) (l : Nat) (st : St) : Option St :=
  match c.live fr.fn (10000 + l) with
  | some L => norm fr L st
  | none => some st

def exec (P : Program) (c : Cfg) (fr : Fr) (call : Callee) (n : Nat) (jump : Code → Code → St → Option (Ex × St)) : Code → St → Option (Ex × St)
  | .skip, st => some (.normal, st)
  | .region id ops dr, st => match lockD (c.lock fr.fn id) st with
    | some st => (match opsD P c fr dr call ops ops.toList st with
      | some st' => some (.normal, st')
      | none => none)
    | none => none
  | .seq a b, st => match exec P c fr call n jump a st with
    | some (.normal, st') => exec P c fr call n jump b st'
    | r => r
  | .cond x a b, st => match ev st.tm x with
    | .s (.bool t) => if t then exec P c fr call n jump a st else exec P c fr call n jump b st
    | _ => none
  | .block id a, st => match exec P c fr call n jump a st with
    | some (.exit j, st') => if j = id then some (.normal, st') else some (.exit j, st')
    | r => r
  | .loop a, st => iter (exec P c fr call n jump a) (headD c fr a) n st
  | .exit id, st => some (.exit id, st)
  | .label _, st => some (.normal, st)
  | .goto l, st => some (.goto l, st)
  | .ret, st => some (.ret, st)
  | .scope a, st => match exec P c fr call n jump a st with
    | some (.goto l, st') => (match findLabel a l with
      | some rest => (match headJ c fr l st' with
        | some st' => jump a rest st'
        | none => none)
      | none => some (.goto l, st'))
    | r => r
  | _, _ => none

/-- In a scope a run goes on from a label. -/
def jumpN (P : Program) (c : Cfg) (fr : Fr) (call : Callee) (n : Nat) : Nat → Code → Code → St → Option (Ex × St)
  | 0, _, _, _ => none
  | m + 1, body, rest, st => match exec P c fr call n (jumpN P c fr call n m) rest st with
    | some (.goto l, st') => (match findLabel body l with
      | some rest' => (match headJ c fr l st' with
        | some st' => jumpN P c fr call n m body rest' st'
        | none => none)
      | none => some (.goto l, st'))
    | r => r

/-- What a function hands out. -/
def resVar (P : Program) (st : St) : ResultVar → Option D
  | .tmp t => some (rdT st.tm t)
  | .cell t ty => match memAt st.hp (rdT st.tm t), sz P ty with
    | some cs, some n => loadD (agg P ty) n cs
    | _, _ => none
def resVars (P : Program) (st : St) : List ResultVar → Option (List D)
  | [] => some []
  | x :: r => match resVar P st x, resVars P st r with
    | some d, some ds => some (d :: ds)
    | _, _ => none
def refsBs (hp : List (Nat × Blk)) : List Nat → List Nat
  | [] => []
  | id :: r => if (rdH hp id).md < 2 then refsB (rdH hp id) ++ refsBs hp r else refsBs hp r
def leave (c : Cfg) (fr : Fr) (st : St) (res : List D) : Option (List D × List Blk) :=
  match (if c.own fr.fn then some (res, st.hp) else frzGs false st.hp res) with
  | none => none
  | some (res, hp) =>
    let ids := reach hp fuel (refsBs hp (upto fr.k 0) ++ refsLL res) (upto fr.k 0)
    match (if c.keep fr.fn then some hp else callD.frzBs false hp ids) with
    | none => none
    | some hp =>
      let ρ := pos 0 ids
      some (res.map (ren ρ), ids.map fun id => renB ρ (rdH hp id))

def initT : Nat → List D → List (Nat × D)
  | _, [] => []
  | i, d :: r => (i, d) :: initT (i + 1) r
def initH : Nat → List Blk → List (Nat × Blk)
  | _, [] => []
  | i, b :: r => (i, b) :: initH (i + 1) r

/-- A call of a function: its results, and the blocks that came in, and those that are new. -/
def callN (P : Program) (c : Cfg) : Nat → Nat → List D → List Blk → Option (List D × List Blk)
  | 0, _, _, _ => none
  | n + 1, f, args, bs => if !c.ok f then c.orc f args bs else match P.funcs[f]? with
    | none => none
    | some fn => match fn.body with
      | none => none
      | some code =>
        let fr : Fr := ⟨bs.length, fn.ntmps, f, !c.wr f⟩
        match exec P c fr (callN P c n) n (jumpN P c fr (callN P c n) n n) code { tm := initT 0 args, hp := initH 0 bs, nx := bs.length + fn.ntmps } with
        | some (.normal, st) | some (.ret, st) => (match resVars P st fn.results.toList with
          | some res => leave c fr st res
          | none => none)
        | _ => none
end Vm
end Go.Proofs.YtffgjmfkkfinlaaGreat

/-
  How a value of the machine of values stands to a value of the model, its memory to the model's; these relations stay where nothing that they speak of is written.
-/
namespace Go.Proofs.YtffgjmfkkfinlaaGreat
namespace Vm
open Go Go.RowKit

abbrev Fz := Nat → Nat → Prop
abbrev Ph := Nat → Option (Nat × Nat × Nat)

def cellAt (w : World) (b o : Nat) : Option Value := w.cell? ⟨b, o, none⟩

theorem cellAt_block {w w' : World} {b : Nat} (h : w'.heap[b]? = w.heap[b]?) (o : Nat) : cellAt w' b o = cellAt w b o := by
  simp [cellAt, World.cell?, h]

theorem cellAt_lt {w : World} {b o : Nat} {v : Value} (h : cellAt w b o = some v) : b < w.heap.size := by
  rcases Nat.lt_or_ge b w.heap.size with hlt | hge
  · exact hlt
  · simp [cellAt, World.cell?, Array.getElem?_eq_none hge] at h

/-- A value that holds no address of the machine's: what it reads is never written. -/
inductive PRel (F : Fz) (w : World) : D → Value → Prop
  | s (v : Value) : PRel F w (.s v) v
  | l (cap : Option Nat) (es : List (List D)) (ad : Addr) (c z : Nat) (vs : Nat → Nat → Value)
      (hc : es.length ≤ c) (hcap : ∀ k, cap = some k → c = k)
      (hz : ∀ (i : Nat) (e : List D), es[i]? = some e → e.length = z)
      (hsp : es ≠ [] → ad.spot = none)
      (hF : ∀ (i : Nat) (e : List D) (j : Nat) (d : D), es[i]? = some e → e[j]? = some d → F ad.block (ad.off + (i * z + j)))
      (hw : ∀ (i : Nat) (e : List D) (j : Nat) (d : D), es[i]? = some e → e[j]? = some d → cellAt w ad.block (ad.off + (i * z + j)) = some (vs i j))
      (h1 : ∀ (i : Nat) (e : List D) (j : Nat) (d : D), es[i]? = some e → e[j]? = some d → one (vs i j) = true)
      (hr : ∀ (i : Nat) (e : List D) (j : Nat) (d : D), es[i]? = some e → e[j]? = some d → PRel F w d (vs i j)) : PRel F w (.l cap es) (.slice (some ad) es.length c)
  | q (cs : List D) (ad : Addr) (vs : Nat → Value)
      (hsp : cs ≠ [] → ad.spot = none)
      (hF : ∀ (j : Nat) (d : D), cs[j]? = some d → F ad.block (ad.off + j))
      (hw : ∀ (j : Nat) (d : D), cs[j]? = some d → cellAt w ad.block (ad.off + j) = some (vs j))
      (h1 : ∀ (j : Nat) (d : D), cs[j]? = some d → one (vs j) = true)
      (hr : ∀ (j : Nat) (d : D), cs[j]? = some d → PRel F w d (vs j)) : PRel F w (.q cs) (.pointer (some ad))

theorem PRel.mono {F F' : Fz} {w w' : World} (hF : ∀ b o, F b o → F' b o) (hc : ∀ b o, F b o → cellAt w' b o = cellAt w b o) {d : D} {v : Value} (h : PRel F w d v) : PRel F' w' d v := by
  induction h with
  | s v => exact .s v
  | l cap es ad c z vs h1 h2 h3 h4 h5 h6 h7 _ ih =>
    exact .l cap es ad c z vs h1 h2 h3 h4 (fun i e j d he hd => hF _ _ (h5 i e j d he hd)) (fun i e j d he hd => by rw [hc _ _ (h5 i e j d he hd)]; exact h6 i e j d he hd) h7 ih
  | q cs ad vs h4 h5 h6 h7 _ ih =>
    exact .q cs ad vs h4 (fun j d hd => hF _ _ (h5 j d hd)) (fun j d hd => by rw [hc _ _ (h5 j d hd)]; exact h6 j d hd) h7 ih

/-- A value that may hold addresses of the machine's blocks: `φ` tells each one's block in the model, its capacity, and its elements' size. -/
inductive VRel (φ : Ph) (F : Fz) (w : World) : D → Value → Prop
  | pure {d : D} {v : Value} (h : PRel F w d v) : VRel φ F w d v
  | p (id i off b c z : Nat) (h : φ id = some (b, c, z)) : VRel φ F w (.p id i off) (.pointer (some ⟨b, i * z + off, none⟩))
  | a (id lo n b c z : Nat) (ad : Addr) (h : φ id = some (b, c, z)) (hn : lo + n ≤ c) (had : lo < c → ad = ⟨b, lo * z, none⟩) : VRel φ F w (.a id lo n z) (.slice (some ad) n (c - lo))
  | g (cs : List D) (vs : List Value) (hl : vs.length = cs.length) (h1 : ∀ v ∈ vs, one v = true) (hr : ∀ (j : Nat) (d : D) (v : Value), cs[j]? = some d → vs[j]? = some v → VRel φ F w d v) : VRel φ F w (.g cs) (.agg vs.toArray)
  | t (ds : List D) (vs : List Value) (hl : vs.length = ds.length) (hr : ∀ (j : Nat) (d : D) (v : Value), ds[j]? = some d → vs[j]? = some v → VRel φ F w d v) : VRel φ F w (.t ds) (.tuple vs.toArray)
  | f (fn : Fn) (x y : List D) (vx vy : List Value) (hx : vx.length = x.length) (hy : vy.length = y.length)
      (rx : ∀ (j : Nat) (d : D) (v : Value), x[j]? = some d → vx[j]? = some v → VRel φ F w d v) (ry : ∀ (j : Nat) (d : D) (v : Value), y[j]? = some d → vy[j]? = some v → VRel φ F w d v) : VRel φ F w (.f fn x y) (.func fn vx.toArray vy.toArray)
  | u (v : Value) : VRel φ F w .u v

theorem VRel.mono {φ φ' : Ph} {F F' : Fz} {w w' : World} (hφ : ∀ id x, φ id = some x → φ' id = some x) (hF : ∀ b o, F b o → F' b o) (hc : ∀ b o, F b o → cellAt w' b o = cellAt w b o) {d : D} {v : Value} (h : VRel φ F w d v) : VRel φ' F' w' d v := by
  induction h with
  | pure h => exact .pure (h.mono hF hc)
  | p id i off b c z h => exact .p id i off b c z (hφ _ _ h)
  | a id lo n b c z ad h hn had => exact .a id lo n b c z ad (hφ _ _ h) hn had
  | g cs vs hl h1 _ ih => exact .g cs vs hl h1 ih
  | t cs vs hl _ ih => exact .t cs vs hl ih
  | f fn x y vx vy hx hy _ _ ihx ihy => exact .f fn x y vx vy hx hy ihx ihy
  | u v => exact .u v

/-- Lists of values, one by one. -/
def LRel (r : D → Value → Prop) (ds : List D) (vs : List Value) : Prop := vs.length = ds.length ∧ ∀ (j : Nat) (d : D) (v : Value), ds[j]? = some d → vs[j]? = some v → r d v

theorem LRel.nil {r : D → Value → Prop} : LRel r [] [] := ⟨rfl, fun j d v h => by simp at h⟩
theorem LRel.cons {r : D → Value → Prop} {d : D} {v : Value} {ds : List D} {vs : List Value} (h : r d v) (hs : LRel r ds vs) : LRel r (d :: ds) (v :: vs) :=
  ⟨by simp [hs.1], fun j => by
    cases j with
    | zero => intro d' v' hd hv; simp at hd hv; subst hd; subst hv; exact h
    | succ j => intro d' v' hd hv; simp at hd hv; exact hs.2 j d' v' hd hv⟩
theorem LRel.head {r : D → Value → Prop} {d : D} {ds : List D} {vs : List Value} (h : LRel r (d :: ds) vs) : ∃ v vs', vs = v :: vs' ∧ r d v ∧ LRel r ds vs' := by
  cases vs with
  | nil => have := h.1; simp at this
  | cons v vs =>
    refine ⟨v, vs, rfl, h.2 0 d v (by simp) (by simp), by have := h.1; simpa using this, fun j d' v' hd hv => h.2 (j + 1) d' v' (by simpa using hd) (by simpa using hv)⟩
theorem LRel.of_nil {r : D → Value → Prop} {vs : List Value} (h : LRel r [] vs) : vs = [] := by
  have := h.1; simpa using this
theorem LRel.imp {r r' : D → Value → Prop} (hh : ∀ d v, r d v → r' d v) {ds : List D} {vs : List Value} (h : LRel r ds vs) : LRel r' ds vs := ⟨h.1, fun j d v hd hv => hh _ _ (h.2 j d v hd hv)⟩
theorem LRel.get {r : D → Value → Prop} {ds : List D} {vs : List Value} (h : LRel r ds vs) {j : Nat} {d : D} (hd : ds[j]? = some d) : ∃ v, vs[j]? = some v ∧ r d v := by
  have hj : j < ds.length := by
    rcases Nat.lt_or_ge j ds.length with h | h
    · exact h
    · simp [List.getElem?_eq_none h] at hd
  have hv : j < vs.length := by rw [h.1]; exact hj
  exact ⟨vs[j], List.getElem?_eq_getElem hv, h.2 j d _ hd (List.getElem?_eq_getElem hv)⟩
theorem LRel.append {r : D → Value → Prop} {ds es : List D} {vs us : List Value} (h : LRel r ds vs) (h' : LRel r es us) : LRel r (ds ++ es) (vs ++ us) := by
  induction ds generalizing vs with
  | nil => rw [h.of_nil]; exact h'
  | cons d ds ih =>
    obtain ⟨v, vs', rfl, hd, ht⟩ := h.head
    exact .cons hd (ih ht)
theorem LRel.take {r : D → Value → Prop} {ds : List D} {vs : List Value} (h : LRel r ds vs) (n : Nat) : LRel r (ds.take n) (vs.take n) :=
  ⟨by simp [h.1], fun j d v hd hv => by
    rw [List.getElem?_take] at hd hv
    split at hd
    · rename_i hj; rw [if_pos hj] at hv; exact h.2 j d v hd hv
    · cases hd⟩
theorem LRel.drop {r : D → Value → Prop} {ds : List D} {vs : List Value} (h : LRel r ds vs) (n : Nat) : LRel r (ds.drop n) (vs.drop n) :=
  ⟨by simp [h.1], fun j d v hd hv => by
    rw [List.getElem?_drop] at hd hv
    exact h.2 _ d v hd hv⟩
theorem LRel.map {r r' : D → Value → Prop} {f : D → D} (hf : ∀ d v, r d v → r' (f d) v) {ds : List D} {vs : List Value} (h : LRel r ds vs) : LRel r' (ds.map f) vs := by
  induction ds generalizing vs with
  | nil => rw [h.of_nil]; exact .nil
  | cons d ds ih =>
    obtain ⟨v, vs', rfl, hd, ht⟩ := h.head
    exact .cons (hf _ _ hd) (ih ht)

theorem vrel_g {φ : Ph} {F : Fz} {w : World} {cs : List D} {vs : List Value} (h1 : ∀ v ∈ vs, one v = true) (h : LRel (VRel φ F w) cs vs) : VRel φ F w (.g cs) (.agg vs.toArray) := .g cs vs h.1 h1 h.2
theorem vrel_t {φ : Ph} {F : Fz} {w : World} {cs : List D} {vs : List Value} (h : LRel (VRel φ F w) cs vs) : VRel φ F w (.t cs) (.tuple vs.toArray) := .t cs vs h.1 h.2
theorem vrel_g_inv {φ : Ph} {F : Fz} {w : World} {cs : List D} {v : Value} (h : VRel φ F w (.g cs) v) : ∃ vs : List Value, v = .agg vs.toArray ∧ (∀ u ∈ vs, one u = true) ∧ LRel (VRel φ F w) cs vs := by
  cases h with
  | pure h => cases h
  | g cs vs hl h1 hr => exact ⟨vs, rfl, h1, hl, hr⟩
theorem vrel_t_inv {φ : Ph} {F : Fz} {w : World} {cs : List D} {v : Value} (h : VRel φ F w (.t cs) v) : ∃ vs : List Value, v = .tuple vs.toArray ∧ LRel (VRel φ F w) cs vs := by
  cases h with
  | pure h => cases h
  | t cs vs hl hr => exact ⟨vs, rfl, hl, hr⟩
theorem vrel_s_inv {φ : Ph} {F : Fz} {w : World} {x v : Value} (h : VRel φ F w (.s x) v) : v = x := by
  cases h with
  | pure h => cases h; rfl
theorem vrel_s {φ : Ph} {F : Fz} {w : World} (v : Value) : VRel φ F w (.s v) v := .pure (.s v)
theorem vrel_f_inv {φ : Ph} {F : Fz} {w : World} {fn : Fn} {x y : List D} {v : Value} (h : VRel φ F w (.f fn x y) v) : ∃ vx vy : List Value, v = .func fn vx.toArray vy.toArray ∧ LRel (VRel φ F w) x vx ∧ LRel (VRel φ F w) y vy := by
  cases h with
  | pure h => cases h
  | f fn x y vx vy hx hy rx ry => exact ⟨vx, vy, rfl, ⟨hx, rx⟩, ⟨hy, ry⟩⟩
theorem vrel_p_inv {φ : Ph} {F : Fz} {w : World} {id i off : Nat} {v : Value} (h : VRel φ F w (.p id i off) v) : ∃ b c z, φ id = some (b, c, z) ∧ v = .pointer (some ⟨b, i * z + off, none⟩) := by
  cases h with
  | pure h => cases h
  | p id i off b c z h => exact ⟨b, c, z, h, rfl⟩
theorem vrel_a_inv {φ : Ph} {F : Fz} {w : World} {id lo n z : Nat} {v : Value} (h : VRel φ F w (.a id lo n z) v) : ∃ b c ad, φ id = some (b, c, z) ∧ lo + n ≤ c ∧ (lo < c → ad = ⟨b, lo * z, none⟩) ∧ v = .slice (some ad) n (c - lo) := by
  cases h with
  | pure h => cases h
  | a id lo n b c z ad h hn had => exact ⟨b, c, ad, h, hn, had, rfl⟩
theorem vrel_l_inv {φ : Ph} {F : Fz} {w : World} {cap : Option Nat} {es : List (List D)} {v : Value} (h : VRel φ F w (.l cap es) v) : PRel F w (.l cap es) v := by
  cases h with
  | pure h => exact h
theorem vrel_q_inv {φ : Ph} {F : Fz} {w : World} {cs : List D} {v : Value} (h : VRel φ F w (.q cs) v) : PRel F w (.q cs) v := by
  cases h with
  | pure h => exact h
theorem vrel_pure {φ : Ph} {F : Fz} {w : World} {d : D} {v : Value} (hp : isPure d = true) (h : VRel φ F w d v) : PRel F w d v := by
  cases h with
  | pure h => exact h
  | _ => simp [isPure] at hp

/-- A block of the machine's and one of the model's. -/
structure BRel (φ : Ph) (F : Fz) (w : World) (B : Blk) (b c z : Nat) : Prop where
  heap : ∃ cs ty, w.heap[b]? = some (.cells cs ty (0, 0)) ∧ (B.arr = true → c * z ≤ cs.size)
  cell : ∀ (i : Nat) (e : List D) (j : Nat) (d : D), B.es[i]? = some e → e[j]? = some d → ∃ v, cellAt w b (i * z + j) = some v ∧ one v = true ∧ VRel φ F w d v
  len : B.arr = true → ∀ (i : Nat) (e : List D), B.es[i]? = some e → e.length = z
  le : B.arr = true → B.es.length ≤ c
  pos : B.arr = true → 0 < z
  cap : ∀ k, B.cap = some k → c = k
  single : B.arr = false → B.es.length ≤ 1
  pu : B.pu = true → ∀ (i : Nat) (e : List D) (j : Nat) (d : D), B.es[i]? = some e → e[j]? = some d → isPure d = true

theorem BRel.keep {φ φ' : Ph} {F F' : Fz} {w w' : World} {B : Blk} {b c z : Nat} (h : BRel φ F w B b c z) (hb : w'.heap[b]? = w.heap[b]?)
    (hφ : ∀ id x, φ id = some x → φ' id = some x) (hF : ∀ b o, F b o → F' b o) (hc : ∀ b o, F b o → cellAt w' b o = cellAt w b o) : BRel φ' F' w' B b c z where
  heap := by rw [hb]; exact h.heap
  cell := fun i e j d he hd => by
    obtain ⟨v, hv, h1, hr⟩ := h.cell i e j d he hd
    exact ⟨v, by rw [cellAt_block hb]; exact hv, h1, hr.mono hφ hF hc⟩
  len := h.len
  le := h.le
  pos := h.pos
  cap := h.cap
  single := h.single
  pu := h.pu

theorem BRel.lt {φ : Ph} {F : Fz} {w : World} {B : Blk} {b c z : Nat} (h : BRel φ F w B b c z) : b < w.heap.size := by
  obtain ⟨cs, ty, h, _⟩ := h.heap
  rcases Nat.lt_or_ge b w.heap.size with hlt | hge
  · exact hlt
  · simp [Array.getElem?_eq_none hge] at h

/-- The memories: of each block that lives; which are written by nobody else; what is fresh. -/
structure MR (φ : Ph) (F : Fz) (w : World) (hp : List (Nat × Blk)) (nx : Nat) : Prop where
  blk : ∀ id b c z, φ id = some (b, c, z) → (rdH hp id).md < 2 → BRel φ F w (rdH hp id) b c z
  rw : ∀ id b c z, φ id = some (b, c, z) → (rdH hp id).md = 0 → ∀ o, ¬ F b o
  tip : ∀ id b c z, φ id = some (b, c, z) → (rdH hp id).md < 2 → (rdH hp id).arr = true → ∀ o, (rdH hp id).es.length * z ≤ o → ¬ F b o
  inj : ∀ id id' b c z c' z', φ id = some (b, c, z) → φ id' = some (b, c', z') → (rdH hp id).md < 2 → (rdH hp id').md < 2 → id = id'
  fresh : ∀ id, nx ≤ id → φ id = none
  Fb : ∀ b o, F b o → b < w.heap.size
  pb : ∀ id b c z, φ id = some (b, c, z) → b < w.heap.size

/-- What a run has done: the streams are as they were; what nobody writes is as it was. -/
structure Ext (k : Nat) (W : Nat → Prop) (φ : Ph) (F : Fz) (w : World) (φ' : Ph) (F' : Fz) (w' : World) : Prop where
  os : w'.os = w.os
  tape : w'.tape = w.tape
  output : w'.output = w.output
  size : w.heap.size ≤ w'.heap.size
  phi : ∀ id, id < k → φ' id = φ id
  img : ∀ id b c z, φ' id = some (b, c, z) → w.heap.size ≤ b ∨ ∃ id0 c0 z0, φ id0 = some (b, c0, z0) ∧ (W id → W id0)
  Fm : ∀ b o, F b o → F' b o
  cells : ∀ b o, F b o → cellAt w' b o = cellAt w b o
  other : ∀ b, b < w.heap.size → (∀ id c z, φ id = some (b, c, z) → ¬ W id) → w'.heap[b]? = w.heap[b]?
  Fnew : ∀ b o, F' b o → F b o ∨ w.heap.size ≤ b ∨ ∃ id c z, φ id = some (b, c, z)

theorem Ext.refl (k : Nat) (W : Nat → Prop) (φ : Ph) (F : Fz) (w : World) : Ext k W φ F w φ F w :=
  ⟨rfl, rfl, rfl, Nat.le_refl _, fun _ _ => rfl, fun id b c z h => .inr ⟨id, c, z, h, fun x => x⟩, fun _ _ h => h, fun _ _ _ => rfl, fun _ _ _ => rfl, fun _ _ h => .inl h⟩

theorem Ext.trans {k : Nat} {W : Nat → Prop} {φ φ' φ'' : Ph} {F F' F'' : Fz} {w w' w'' : World} (h : Ext k W φ F w φ' F' w') (g : Ext k W φ' F' w' φ'' F'' w'') : Ext k W φ F w φ'' F'' w'' where
  os := g.os.trans h.os
  tape := g.tape.trans h.tape
  output := g.output.trans h.output
  size := Nat.le_trans h.size g.size
  phi := fun id hk => (g.phi id hk).trans (h.phi id hk)
  img := fun id b c z hid => by
    rcases g.img id b c z hid with h1 | ⟨id0, c0, z0, h1, h2⟩
    · exact .inl (Nat.le_trans h.size h1)
    · rcases h.img id0 b c0 z0 h1 with h3 | ⟨id1, c1, z1, h3, h4⟩
      · exact .inl h3
      · exact .inr ⟨id1, c1, z1, h3, fun hw => h4 (h2 hw)⟩
  Fm := fun b o hf => g.Fm _ _ (h.Fm _ _ hf)
  cells := fun b o hf => (g.cells b o (h.Fm _ _ hf)).trans (h.cells b o hf)
  other := fun b hb hn => by
    rw [g.other b (Nat.lt_of_lt_of_le hb h.size) fun id c z hid hw => ?_]
    · exact h.other b hb hn
    · rcases h.img id b c z hid with h1 | ⟨id0, c0, z0, h1, h2⟩
      · omega
      · exact hn id0 c0 z0 h1 (h2 hw)
  Fnew := fun b o hf => by
    rcases g.Fnew b o hf with h1 | h1 | ⟨id, c, z, h1⟩
    · exact h.Fnew b o h1
    · exact .inr (.inl (Nat.le_trans h.size h1))
    · rcases h.img id b c z h1 with h2 | ⟨id0, c0, z0, h2, _⟩
      · exact .inr (.inl h2)
      · exact .inr (.inr ⟨id0, c0, z0, h2⟩)

end Vm
end Go.Proofs.YtffgjmfkkfinlaaGreat

/-
  What an operation that asks no memory gives: the machine of values and the model give the same.
-/
namespace Go.Proofs.YtffgjmfkkfinlaaGreat
namespace Vm
open Go Go.RowKit

theorem val_run {α : Type} {P : Program} : ∀ {s : Sem α} {a : α}, val P s = some a → ∀ w, s.run P w = .ok a w
  | .pure b, a, h, w => by simp [val] at h; subst h; rfl
  | .program k, a, h, w => by
    have h' : val P (k P) = some a := by simpa [val] using h
    exact val_run h' w
  | .load .., _, h, _ | .store .., _, h, _ | .new .., _, h, _ | .shape .., _, h, _ | .freeze .., _, h, _ | .frozen .., _, h, _ | .getObj .., _, h, _ | .setObj .., _, h, _ | .choose .., _, h, _ | .sys .., _, h, _ | .mark .., _, h, _ | .halt .., _, h, _ => by simp [val] at h

section
variable {φ : Ph} {F : Fz} {w : World}

theorem lrel_s (vs : List Value) : LRel (VRel φ F w) (vs.map .s) vs := by
  induction vs with
  | nil => exact .nil
  | cons v vs ih => exact .cons (vrel_s v) ih

theorem ofValue_rel (v : Value) : VRel φ F w (ofValue v) v := by
  cases v with
  | agg cs =>
    simp only [ofValue]
    split
    · rename_i h
      have := vrel_g (φ := φ) (F := F) (w := w) (vs := cs.toList) (fun v hv => (List.all_eq_true.1 h) v hv) (lrel_s cs.toList)
      simpa using this
    · exact .u _
  | func fn x y =>
    simp only [ofValue]
    have := VRel.f (φ := φ) (F := F) (w := w) fn (x.toList.map .s) (y.toList.map .s) x.toList y.toList (by simp) (by simp) (lrel_s _).2 (lrel_s _).2
    simpa using this
  | _ => exact vrel_s _

/-- The temporaries. -/
def TRel (φ : Ph) (F : Fz) (w : World) (tm : List (Nat × D)) (a : Act) : Prop := ∀ t, VRel φ F w (rdT tm t) (a.tmps.getD t undef)

theorem TRel.ev {tm : List (Nat × D)} {a : Act} (h : TRel φ F w tm a) (x : Operand) : VRel φ F w (ev tm x) (a.eval x) := by
  cases x with
  | tmp t => exact h t
  | const v => exact ofValue_rel v
  | global g => exact vrel_s _
  | func f => exact VRel.f (.func f) [] [] [] [] rfl rfl (fun j d v hd => by simp at hd) (fun j d v hd => by simp at hd)

theorem TRel.evs {tm : List (Nat × D)} {a : Act} (h : TRel φ F w tm a) (xs : List Operand) : LRel (VRel φ F w) (xs.map (Vm.ev tm)) (xs.map a.eval) := by
  induction xs with
  | nil => exact .nil
  | cons x xs ih => exact .cons (h.ev x) ih

theorem toCells_rel {ds : List D} {us : List Value} (h : toCells ds = some us) {vs : List Value} (hr : LRel (VRel φ F w) ds vs) : vs = us := by
  induction ds generalizing us vs with
  | nil => simp [toCells] at h; subst h; exact hr.of_nil
  | cons d ds ih =>
    obtain ⟨v, vs', rfl, hd, ht⟩ := hr.head
    cases d <;> simp only [toCells] at h <;> try (cases h; done)
    rename_i x
    cases hc : toCells ds with
    | none => simp [hc] at h
    | some us' =>
      simp [hc] at h
      subst h
      rw [ih hc ht, vrel_s_inv hd]

theorem toVal_rel {d : D} {u : Value} (h : toVal d = some u) {v : Value} (hr : VRel φ F w d v) : v = u := by
  cases d <;> simp only [toVal] at h <;> try (cases h; done)
  · simp at h; subst h; exact vrel_s_inv hr
  · rename_i cs
    obtain ⟨vs, rfl, _, hl⟩ := vrel_g_inv hr
    cases hc : toCells cs with
    | none => simp [hc] at h
    | some us =>
      simp [hc] at h
      rw [← h, toCells_rel hc hl]

theorem cellsOf_rel {d : D} {cs : List D} (h : cellsOf d = some cs) {v : Value} (hr : VRel φ F w d v) : LRel (VRel φ F w) cs v.cells.toList ∧ ∀ u ∈ v.cells.toList, one u = true := by
  have single : ∀ {d v}, VRel φ F w d v → one v = true → LRel (VRel φ F w) [d] v.cells.toList ∧ ∀ u ∈ v.cells.toList, one u = true := by
    intro d v hr h1
    have hc : v.cells = #[v] := by cases v <;> first | rfl | (simp [one, Value.oneCell'] at h1)
    rw [hc]
    exact ⟨.cons hr .nil, fun u hu => by simp at hu; subst hu; exact h1⟩
  cases d with
  | s x =>
    simp only [cellsOf] at h
    split at h
    · rename_i h1
      simp at h; subst h
      have := vrel_s_inv hr
      subst this
      exact single hr h1
    · cases h
  | l cap es =>
    simp [cellsOf] at h; subst h
    have := vrel_l_inv hr
    cases this
    exact single hr rfl
  | q cs' =>
    simp [cellsOf] at h; subst h
    have := vrel_q_inv hr
    cases this
    exact single hr rfl
  | p id i off =>
    simp [cellsOf] at h; subst h
    obtain ⟨b, c, z, _, rfl⟩ := vrel_p_inv hr
    exact single hr rfl
  | a id lo n z =>
    simp [cellsOf] at h; subst h
    obtain ⟨b, c, ad, _, _, _, rfl⟩ := vrel_a_inv hr
    exact single hr rfl
  | g cs' =>
    simp [cellsOf] at h; subst h
    obtain ⟨vs, rfl, h1, hl⟩ := vrel_g_inv hr
    exact ⟨by simpa [Value.cells] using hl, by simpa [Value.cells] using h1⟩
  | t vs => simp [cellsOf] at h
  | f fn x y =>
    simp [cellsOf] at h; subst h
    obtain ⟨vx, vy, rfl, _, _⟩ := vrel_f_inv hr
    exact single hr rfl
  | u => simp [cellsOf] at h

/-! ### fill -/
theorem foldl_fill (off : Nat) : ∀ (vs : List Value) (k : Nat) (cells : Array Value), off + k + vs.length ≤ cells.size →
    ((vs.zipIdx k).foldl (fun (cs : Array Value) (x : Value × Nat) => cs.setIfInBounds (off + x.2) x.1) cells).toList = cells.toList.take (off + k) ++ vs ++ cells.toList.drop (off + k + vs.length)
  | [], k, cells, h => by simp
  | v :: vs, k, cells, h => by
    simp only [List.length_cons] at h
    simp only [List.zipIdx_cons, List.foldl_cons]
    rw [foldl_fill off vs (k + 1) _ (by simp; omega)]
    simp only [Array.toList_setIfInBounds]
    have hlt : off + k < cells.toList.length := by simp; omega
    have hset : cells.toList.set (off + k) v = cells.toList.take (off + k) ++ v :: cells.toList.drop (off + k + 1) := by
      rw [List.set_eq_take_append_cons_drop, if_pos hlt]
    have hl : (cells.toList.take (off + k)).length = off + k := by rw [List.length_take]; omega
    rw [hset]
    have e1 : (cells.toList.take (off + k) ++ v :: cells.toList.drop (off + k + 1)).take (off + (k + 1)) = cells.toList.take (off + k) ++ [v] := by
      rw [List.take_append, hl]
      have : off + (k + 1) - (off + k) = 1 := by omega
      rw [this, List.take_take]
      simp
    have e2 : (cells.toList.take (off + k) ++ v :: cells.toList.drop (off + k + 1)).drop (off + (k + 1) + vs.length) = cells.toList.drop (off + k + (v :: vs).length) := by
      rw [List.drop_append, hl]
      have : off + (k + 1) + vs.length - (off + k) = vs.length + 1 := by omega
      rw [this]
      have hd : (cells.toList.take (off + k)).drop (off + (k + 1) + vs.length) = [] := by
        apply List.drop_eq_nil_of_le; rw [hl]; omega
      rw [hd]
      simp only [List.nil_append, List.drop_succ_cons, List.drop_drop, List.length_cons]
      congr 1; omega
    rw [e1, e2]
    simp

theorem fill_eq (place : Nat → Option (Nat × Nat)) : ∀ (parts : List (Nat × Value)) (offs : List (Nat × List Value)) (cells : Array Value),
    parts.length = offs.length → (∀ (j : Nat) (p : Nat × Value) (o : Nat × List Value), parts[j]? = some p → offs[j]? = some o → o.2 = p.2.cells.toList ∧ place p.1 = some (o.1, p.2.cells.size)) →
    ∀ r, fillD cells.toList offs = some r → Instr.fill place cells parts = some r.toArray
  | [], offs, cells, hl, _, r, hr => by
    have : offs = [] := by simpa using hl.symm
    subst this
    simp [fillD] at hr
    subst hr
    simp [Instr.fill]
  | (i, v) :: parts, offs, cells, hl, hp, r, hr => by
    cases offs with
    | nil => simp at hl
    | cons o offs =>
      obtain ⟨off, u⟩ := o
      obtain ⟨h1, h2⟩ := hp 0 (i, v) (off, u) rfl rfl
      simp only at h1 h2
      subst h1
      simp only [fillD] at hr
      split at hr
      · rename_i hle
        simp only [Array.length_toList] at hle
        simp only [Instr.fill, h2]
        rw [if_neg (by simp; omega)]
        have hf := foldl_fill off v.cells.toList 0 cells (by simp; omega)
        refine fill_eq place parts offs _ (by simpa using hl) (fun j p o h h' => hp (j + 1) p o (by simpa using h) (by simpa using h')) r ?_
        rw [← Array.foldl_toList]
        have : (v.cells.zipIdx).toList = v.cells.toList.zipIdx := by simp
        rw [this]
        simp only [Nat.add_zero] at hf
        rw [hf]
        simpa using hr
      · cases hr

end
end Vm
end Go.Proofs.YtffgjmfkkfinlaaGreat

/-
  What an operation that asks no memory gives: the machine of values and the model give the same (continued).
-/
namespace Go.Proofs.YtffgjmfkkfinlaaGreat
namespace Vm
open Go Go.RowKit

section
variable {P : Program} {φ : Ph} {F : Fz} {w : World}

theorem sz_run {t : TypeId} {n : Nat} (h : sz P t = some n) (w : World) : (sizeOf t).run P w = .ok n w := by
  unfold sz at h
  cases hi : P.info? t with
  | none => simp [hi] at h
  | some i =>
    cases hu : P.underlying t with
    | none => simp [hi, hu] at h
    | some d => simp [hi, hu] at h; subst h; simp [sizeOf, typeInfo, hi]
theorem sz_under {t : TypeId} {n : Nat} (h : sz P t = some n) : ∃ d, P.underlying t = some d := by
  unfold sz at h
  cases hi : P.info? t with
  | none => simp [hi] at h
  | some i =>
    cases hu : P.underlying t with
    | none => simp [hi, hu] at h
    | some d => exact ⟨d, rfl⟩
theorem agg_run {t : TypeId} {d : TypeDesc} (h : P.underlying t = some d) (w : World) : (isAgg t).run P w = .ok (agg P t) w := by
  simp only [isAgg, Sem.run_bind, run_underlying h, Result.andThen_ok, agg, h]
  cases d <;> rfl
theorem elt_under {t e : TypeId} (h : elt P t = some e) : P.underlying t = some (.slice e) := by
  unfold elt at h
  split at h
  · simp at h; subst h; assumption
  · cases h
theorem arr_under {t e : TypeId} {n : Nat} (h : arr P t = some (n, e)) : P.underlying t = some (.array n e) := by
  unfold arr at h
  split at h
  · simp at h; obtain ⟨rfl, rfl⟩ := h; assumption
  · cases h
theorem fld_inv {t : TypeId} {i o n : Nat} (h : fld P t i = some (o, n)) : ∃ fs f, P.underlying t = some (.struct fs) ∧ fs[i]? = some f ∧ f.offset = o ∧ sz P f.type = some n ∧ n ≠ 0 := by
  unfold fld at h
  split at h
  · rename_i fs hu
    split at h
    · rename_i f hf
      split at h
      · rename_i m hm
        split at h
        · cases h
        · simp at h; obtain ⟨rfl, rfl⟩ := h
          exact ⟨fs, f, hu, hf, rfl, hm, by assumption⟩
      · cases h
    · cases h
  · cases h

/-- A part of an aggregate. -/
theorem loadD_part {t : TypeId} {n off : Nat} {cs : List D} {d : D} (hs : sz P t = some n) (h : loadD (agg P t) n (cs.drop off) = some d) {vs : List Value} (h1 : ∀ v ∈ vs, one v = true) (hr : LRel (VRel φ F w) cs vs) :
    ∃ v, (part t vs.toArray off).run P w = .ok v w ∧ VRel φ F w d v := by
  obtain ⟨dd, hu⟩ := sz_under hs
  have hr' := hr.drop off
  simp only [part, Sem.run_bind, agg_run hu, Result.andThen_ok]
  cases hag : agg P t with
  | true =>
    simp only [hag, loadD] at h
    split at h
    · simp at h; subst h
      simp only [if_true, Sem.run_bind, sz_run hs, Result.andThen_ok, Sem.run_pure]
      refine ⟨_, rfl, ?_⟩
      have := vrel_g (φ := φ) (F := F) (w := w) (vs := (vs.drop off).take n) (fun v hv => h1 v (List.mem_of_mem_drop (List.mem_of_mem_take hv))) (hr'.take n)
      have he : (vs.toArray.extract off (off + n)) = ((vs.drop off).take n).toArray := by
        apply Array.ext'
        simp
      rw [he]; exact this
    · cases h
  | false =>
    simp only [hag, loadD] at h
    cases hc : cs.drop off with
    | nil => simp [hc] at h
    | cons c rest =>
      simp [hc] at h; subst h
      rw [hc] at hr'
      obtain ⟨v, vs', hv, hd, _⟩ := hr'.head
      have : vs[off]? = some v := by
        have h0 : (vs.drop off)[0]? = some v := by rw [hv]; rfl
        rw [List.getElem?_drop] at h0; simpa using h0
      simp [this, hd]

theorem eqGuard_run {op : BinOp} {t : TypeId} {x y : Operand} {a b : Value} (hg : P.eqGuardType P.depth t = false) (hn : a ≠ .nilIface) : (eqGuard op t x y a b).run P w = .ok () w := by
  unfold eqGuard
  cases op <;> first
    | rfl
    | (cases a <;> cases b <;> first
        | rfl
        | exact absurd rfl hn
        | simp [program, hg, Sem.run])

theorem eqGuard_other {op : BinOp} {t : TypeId} {x y : Operand} {a b : Value} (h1 : op ≠ .eql) (h2 : op ≠ .neq) : (eqGuard op t x y a b).run P w = .ok () w := by
  unfold eqGuard
  cases op <;> first | rfl | exact absurd rfl h1 | exact absurd rfl h2

end
end Vm
end Go.Proofs.YtffgjmfkkfinlaaGreat

/-
  What an operation that asks no memory gives: comparisons, calls of what is built in, and all of these operations together.
-/
namespace Go.Proofs.YtffgjmfkkfinlaaGreat
namespace Vm
open Go Go.RowKit

section
variable {P : Program} {φ : Ph} {F : Fz} {w : World}

theorem isNilS_rel {d : D} {b : Bool} (h : isNilS d = some b) {v : Value} (hr : VRel φ F w d v) : ∃ A n c, v = .slice A n c ∧ A.isNone = b := by
  cases d with
  | s x =>
    have := vrel_s_inv hr
    subst this
    unfold isNilS at h
    split at h
    · rename_i he; injection he with he; subst he; simp at h; subst h; exact ⟨_, _, _, rfl, rfl⟩
    · rename_i he; cases he
    · rename_i he; cases he
    · cases h
  | l cap es =>
    simp [isNilS] at h; subst h
    have := vrel_l_inv hr
    cases this
    exact ⟨_, _, _, rfl, rfl⟩
  | a id lo n z =>
    simp [isNilS] at h; subst h
    obtain ⟨b, c, ad, _, _, _, rfl⟩ := vrel_a_inv hr
    exact ⟨_, _, _, rfl, rfl⟩
  | _ => simp [isNilS] at h

theorem isNilP_rel {d : D} {b : Bool} (h : isNilP d = some b) {v : Value} (hr : VRel φ F w d v) : ∃ A, v = .pointer A ∧ A.isNone = b := by
  cases d with
  | s x =>
    have := vrel_s_inv hr
    subst this
    unfold isNilP at h
    split at h
    · rename_i he; injection he with he; subst he; simp at h; subst h; exact ⟨_, rfl, rfl⟩
    · rename_i he; cases he
    · rename_i he; cases he
    · cases h
  | q cs =>
    simp [isNilP] at h; subst h
    have := vrel_q_inv hr
    cases this
    exact ⟨_, rfl, rfl⟩
  | p id i off =>
    simp [isNilP] at h; subst h
    obtain ⟨b, c, z, _, rfl⟩ := vrel_p_inv hr
    exact ⟨_, rfl, rfl⟩
  | _ => simp [isNilP] at h

theorem isNilF_rel {d : D} {b : Bool} (h : isNilF d = some b) {v : Value} (hr : VRel φ F w d v) : (b = true ∧ v = .nilFunc) ∨ (b = false ∧ ∃ f x y, v = .func f x y) := by
  cases d with
  | s x =>
    have := vrel_s_inv hr
    subst this
    unfold isNilF at h
    split at h
    · rename_i he; injection he with he; subst he; simp at h; subst h; exact .inl ⟨rfl, rfl⟩
    · rename_i he; cases he
    · cases h
  | f fn x y =>
    simp [isNilF] at h; subst h
    obtain ⟨vx, vy, rfl, _, _⟩ := vrel_f_inv hr
    exact .inr ⟨rfl, _, _, _, rfl⟩
  | _ => simp [isNilF] at h

def EqOk (P : Program) (w : World) (t : TypeId) (vx vy : Value) (b : Bool) : Prop :=
  (Op.equal t vx vy).run P w = .ok b w ∧ (∀ op a b, (eqGuard op t a b vx vy).run P w = .ok () w) ∧
    binOp .eql t vx vy = (do pure (.bool (← Op.equal t vx vy))) ∧ binOp .neq t vx vy = (do pure (.bool (!(← Op.equal t vx vy))))

theorem eqNil_rel {t : TypeId} {x y : D} {b : Bool} (h : eqNil P t x y = some b) {vx vy : Value} (hx : VRel φ F w x vx) (hy : VRel φ F w y vy) :
    EqOk P w t vx vy b := by
  obtain ⟨dd, he⟩ : ∃ dd, Op.equal t vx vy = Op.equalIn (dd + 1) t vx vy := ⟨9999, rfl⟩
  unfold eqNil at h
  split at h
  · rename_i e hu
    have key : ∀ bx by_, isNilS x = some bx → isNilS y = some by_ → (bx = true ∨ by_ = true) → b = (bx && by_) → EqOk P w t vx vy b := fun bx by_ hbx hby hor hb => by
      obtain ⟨A, n, c, rfl, hA⟩ := isNilS_rel hbx hx
      obtain ⟨B, m, c', rfl, hB⟩ := isNilS_rel hby hy
      refine ⟨?_, fun op a b => by unfold eqGuard; cases op <;> rfl, rfl, rfl⟩
      rw [he]
      clear he
      simp only [Op.equalIn, Sem.run_bind, run_underlying hu, Result.andThen_ok]
      cases A <;> cases B <;> simp at hA hB <;> subst hA <;> subst hB <;> simp [hb] at hor ⊢
    split at h
    · rename_i b' hbx hby; simp at h; subst h; exact key _ _ hbx hby (.inl rfl) rfl
    · rename_i hbx hby; simp at h; subst h; exact key _ _ hbx hby (.inr rfl) rfl
    · cases h
  · rename_i e hu
    have key : ∀ bx by_, isNilP x = some bx → isNilP y = some by_ → (bx = true ∨ by_ = true) → b = (bx && by_) → EqOk P w t vx vy b := fun bx by_ hbx hby hor hb => by
      obtain ⟨A, rfl, hA⟩ := isNilP_rel hbx hx
      obtain ⟨B, rfl, hB⟩ := isNilP_rel hby hy
      refine ⟨?_, fun op a b => by unfold eqGuard; cases op <;> rfl, rfl, rfl⟩
      rw [he]
      clear he
      simp only [Op.equalIn, Sem.run_bind, run_underlying hu, Result.andThen_ok]
      cases A <;> cases B <;> simp at hA hB <;> subst hA <;> subst hB <;> simp [hb] at hor ⊢
    split at h
    · rename_i b' hbx hby; simp at h; subst h; exact key _ _ hbx hby (.inl rfl) rfl
    · rename_i hbx hby; simp at h; subst h; exact key _ _ hbx hby (.inr rfl) rfl
    · cases h
  · rename_i e hu
    have key : ∀ bx by_, isNilF x = some bx → isNilF y = some by_ → (bx = true ∨ by_ = true) → b = (bx && by_) → EqOk P w t vx vy b := fun bx by_ hbx hby hor hb => by
      rcases isNilF_rel hbx hx with ⟨rfl, rfl⟩ | ⟨rfl, f1, x1, y1, rfl⟩ <;> rcases isNilF_rel hby hy with ⟨rfl, rfl⟩ | ⟨rfl, f2, x2, y2, rfl⟩ <;>
      first
      | (simp at hor; done)
      | (refine ⟨?_, fun op a b => by unfold eqGuard; cases op <;> rfl, rfl, rfl⟩
         rw [he]
         simp only [Op.equalIn, Sem.run_bind, run_underlying hu, Result.andThen_ok]
         simp [hb])
    split at h
    · rename_i b' hbx hby; simp at h; subst h; exact key _ _ hbx hby (.inl rfl) rfl
    · rename_i hbx hby; simp at h; subst h; exact key _ _ hbx hby (.inr rfl) rfl
    · cases h
  · cases h

theorem binD_rel {op : BinOp} {t : TypeId} {x y d : D} (h : binD P op t x y = some d) {vx vy : Value} (hx : VRel φ F w x vx) (hy : VRel φ F w y vy) (ox oy : Operand) :
    ∃ v, (do eqGuard op t ox oy vx vy; binOp op t vx vy : Sem Value).run P w = .ok v w ∧ VRel φ F w d v := by
  unfold binD at h
  split at h
  · rename_i v u hv hu
    have := toVal_rel hv hx
    subst this
    have := toVal_rel hu hy
    subst this
    split at h
    · cases h
    · rename_i hg
      split at h
      · rename_i r hr
        simp at h; subst h
        refine ⟨r, ?_, ofValue_rel r⟩
        have hgr : (eqGuard op t ox oy vx vy).run P w = .ok () w := by
          by_cases h1 : op = .eql
          · subst h1
            simp [isEq] at hg
            exact eqGuard_run hg.1 (fun e => by subst e; simp [isNilI] at hg)
          · by_cases h2 : op = .neq
            · subst h2
              simp [isEq] at hg
              exact eqGuard_run hg.1 (fun e => by subst e; simp [isNilI] at hg)
            · exact eqGuard_other h1 h2
        simp only [Sem.run_bind, hgr, Result.andThen_ok, val_run hr w]
      · cases h
  · split at h
    · split at h
      · rename_i b hb
        simp at h; subst h
        obtain ⟨h1, h2, h3, _⟩ := eqNil_rel hb hx hy
        exact ⟨.bool b, by simp only [Sem.run_bind, h2, Result.andThen_ok, h3, h1, Sem.run_pure], vrel_s _⟩
      · cases h
    · split at h
      · rename_i b hb
        simp at h; subst h
        obtain ⟨h1, h2, _, h3⟩ := eqNil_rel hb hx hy
        exact ⟨.bool !b, by simp only [Sem.run_bind, h2, Result.andThen_ok, h3, h1, Sem.run_pure], vrel_s _⟩
      · cases h
    · cases h

theorem mm_min {k : IntKind} : ∀ {ds : List D} {x : Int} {d : D} (_ : op0.mm false k x ds = some d) {vs : List Value} (_ : LRel (VRel φ F w) ds vs), ∃ v, (vs.foldlM Builtin.min2 (.int k x)).run P w = .ok v w ∧ VRel φ F w d v
  | [], x, d, h, vs, hr => by
    simp [op0.mm] at h; subst h
    rw [hr.of_nil]
    exact ⟨_, rfl, vrel_s _⟩
  | d0 :: ds, x, d, h, vs, hr => by
    obtain ⟨v, vs', rfl, hd, ht⟩ := hr.head
    cases d0 with
    | s u =>
      cases u <;> simp only [op0.mm] at h <;> try (cases h; done)
      rename_i k' y
      have := vrel_s_inv hd
      subst this
      obtain ⟨v, hv, hvr⟩ := mm_min h ht
      exact ⟨v, by simpa [Builtin.min2] using hv, hvr⟩
    | _ => simp [op0.mm] at h
theorem mm_max {k : IntKind} : ∀ {ds : List D} {x : Int} {d : D} (_ : op0.mm true k x ds = some d) {vs : List Value} (_ : LRel (VRel φ F w) ds vs), ∃ v, (vs.foldlM Builtin.max2 (.int k x)).run P w = .ok v w ∧ VRel φ F w d v
  | [], x, d, h, vs, hr => by
    simp [op0.mm] at h; subst h
    rw [hr.of_nil]
    exact ⟨_, rfl, vrel_s _⟩
  | d0 :: ds, x, d, h, vs, hr => by
    obtain ⟨v, vs', rfl, hd, ht⟩ := hr.head
    cases d0 with
    | s u =>
      cases u <;> simp only [op0.mm] at h <;> try (cases h; done)
      rename_i k' y
      have := vrel_s_inv hd
      subst this
      obtain ⟨v, hv, hvr⟩ := mm_max h ht
      exact ⟨v, by simpa [Builtin.max2] using hv, hvr⟩
    | _ => simp [op0.mm] at h

theorem minmax_rel {mx : Bool} {ds : List D} {d : D} (h : op0.minmax mx ds = some d) {vs : List Value} (hr : LRel (VRel φ F w) ds vs) (ts : Array TypeId) (t : TypeId) :
    ∃ v, (if mx then Builtin.max_ ts t vs.toArray else Builtin.min_ ts t vs.toArray : Sem Value).run P w = .ok v w ∧ VRel φ F w d v := by
  cases ds with
  | nil => simp [op0.minmax] at h
  | cons d0 ds =>
    obtain ⟨v, vs', rfl, hd, ht⟩ := hr.head
    cases d0 with
    | s u =>
      cases u <;> simp only [op0.minmax] at h <;> try (cases h; done)
      rename_i k x
      have := vrel_s_inv hd
      subst this
      cases mx
      · simpa [Builtin.min_] using mm_min h ht
      · simpa [Builtin.max_] using mm_max h ht
    | _ => simp [op0.minmax] at h

theorem lenD_rel {x : D} {n : Nat} {t : TypeId} (ht : lenT P t x = true) (h : lenD x = some n) {v : Value} (hr : VRel φ F w x v) (rest : List TypeId) (ty : TypeId) :
    (Builtin.len_ (t :: rest).toArray ty #[v]).run P w = .ok (.int .i64 n) w := by
  have hs : (∀ b, x ≠ .s (.string b)) → ∃ e, P.underlying t = some (.slice e) := by
    intro hne
    unfold lenT at ht
    split at ht
    · rename_i b; exact absurd rfl (hne b)
    · split at ht
      · exact ⟨_, by assumption⟩
      · cases ht
  cases x with
  | s u =>
    have := vrel_s_inv hr
    subst this
    cases v <;> try (simp [lenD] at h; done)
    · rename_i b
      simp [lenD] at h
      subst h
      simp [lenT] at ht
      split at ht
      · rename_i hu
        simp [Builtin.len_, run_underlying hu, goInt]
      · cases ht
    · rename_i A m c
      unfold lenD at h
      split at h
      · rename_i he; injection he with he; injection he with h1 h2 h3; subst h1; subst h2; subst h3
        simp at h; subst h
        obtain ⟨e, hu⟩ := hs (fun b => by simp)
        simp [Builtin.len_, run_underlying hu, goInt]
      · rename_i he; cases he
      · rename_i he; cases he
      · rename_i he; cases he
      · cases h
  | l cap es =>
    simp [lenD] at h; subst h
    obtain ⟨e, hu⟩ := hs (fun b => by simp)
    have := vrel_l_inv hr
    cases this
    simp [Builtin.len_, run_underlying hu, goInt]
  | a id lo m z =>
    simp [lenD] at h; subst h
    obtain ⟨e, hu⟩ := hs (fun b => by simp)
    obtain ⟨b, c, ad, _, _, _, rfl⟩ := vrel_a_inv hr
    simp [Builtin.len_, run_underlying hu, goInt]
  | _ => simp [lenD] at h

end
end Vm
end Go.Proofs.YtffgjmfkkfinlaaGreat

/-
  An operation that asks no memory: the machine of values and the model give the same value.
-/
namespace Go.Proofs.YtffgjmfkkfinlaaGreat
namespace Vm
open Go Go.RowKit

section
variable {P : Program} {φ : Ph} {F : Fz} {w : World}

theorem add_field {b o n : Nat} : (⟨b, o, none⟩ : Addr).add n = ⟨b, o + n, none⟩ := by
  unfold Addr.add
  split
  · rename_i h; subst h; rfl
  · rfl
theorem add_none {ad : Addr} (h : ad.spot = none) (n : Nat) : ad.add n = ⟨ad.block, ad.off + n, none⟩ := by
  obtain ⟨b, o, s⟩ := ad
  simp only at h
  subst h
  exact add_field
theorem add_block (ad : Addr) (n : Nat) : (ad.add n).block = ad.block := by unfold Addr.add; split <;> rfl
theorem add_off (ad : Addr) (n : Nat) : (ad.add n).off = ad.off + n := by
  unfold Addr.add
  split
  · rename_i h; subst h; rfl
  · rfl
theorem add_spot {ad : Addr} {n : Nat} (h : ad.spot = none) : (ad.add n).spot = none := by rw [add_none h]

/-- A pointer into what nobody writes, moved on. -/
theorem prel_drop {cs : List D} {v : Value} (h : PRel F w (.q cs) v) (o : Nat) : ∃ ad : Addr, v = .pointer (some ad) ∧ PRel F w (.q (cs.drop o)) (.pointer (some (ad.add o))) := by
  cases h with
  | q cs ad vs hsp hF hw h1 hr =>
    refine ⟨ad, rfl, .q _ _ (fun j => vs (o + j)) ?_ ?_ ?_ ?_ ?_⟩
    · intro hne
      exact add_spot (hsp fun e => hne (by rw [e]; simp))
    · intro j d hd
      rw [List.getElem?_drop] at hd
      rw [add_block, add_off, Nat.add_assoc]; exact hF _ _ hd
    · intro j d hd
      rw [List.getElem?_drop] at hd
      rw [add_block, add_off, Nat.add_assoc]; exact hw _ _ hd
    · intro j d hd
      rw [List.getElem?_drop] at hd
      exact h1 _ _ hd
    · intro j d hd
      rw [List.getElem?_drop] at hd
      exact hr _ _ hd

/-- A pointer to an element of a slice that nobody writes. -/
theorem prel_elem {cap : Option Nat} {es : List (List D)} {v : Value} (h : PRel F w (.l cap es) v) {n m : Nat} {c : List D} (hc : es[n]? = some c) (hm : c.length = m) :
    ∃ (ad : Addr) (k : Nat), v = .slice (some ad) es.length k ∧ n < es.length ∧ PRel F w (.q c) (.pointer (some (ad.add (n * m)))) := by
  cases h with
  | l cap es ad k z vs hle hcap hz hsp hF hw h1 hr =>
    have hn : n < es.length := by
      rcases Nat.lt_or_ge n es.length with h | h
      · exact h
      · simp [List.getElem?_eq_none h] at hc
    have hzm : z = m := by rw [← hm]; exact (hz n c hc).symm
    subst hzm
    have hspn : ad.spot = none := hsp (fun e => by subst e; simp at hn)
    refine ⟨ad, k, rfl, hn, .q c _ (fun j => vs n j) (fun _ => add_spot hspn) ?_ ?_ ?_ ?_⟩
    · intro j d hd; rw [add_block, add_off, Nat.add_assoc]; exact hF n c j d hc hd
    · intro j d hd; rw [add_block, add_off, Nat.add_assoc]; exact hw n c j d hc hd
    · intro j d hd; exact h1 n c j d hc hd
    · intro j d hd; exact hr n c j d hc hd

theorem map_eval (xs : Array Operand) (a : Act) : xs.map a.eval = (xs.toList.map a.eval).toArray := by
  apply Array.ext'; simp

theorem partsOf_rel {t : TypeId} {tm : List (Nat × D)} {a : Act} (ht : TRel φ F w tm a) : ∀ {ps : List (Nat × Operand)} {qs : List (Nat × List D)}, partsOf P t tm ps = some qs →
    ∃ us : List (Nat × List Value), us.length = ps.length ∧ (∀ (j : Nat) (p : Nat × Operand) (u : Nat × List Value), ps[j]? = some p → us[j]? = some u → u.2 = (a.eval p.2).cells.toList ∧
        ((∃ n e k, arr P t = some (n, e) ∧ sz P e = some k ∧ u.1 = p.1 * k ∧ u.2.length = k) ∨ (arr P t = none ∧ fld P t p.1 = some (u.1, u.2.length)))) ∧
      qs.length = us.length ∧ ∀ (j : Nat) (q : Nat × List D) (u : Nat × List Value), qs[j]? = some q → us[j]? = some u → q.1 = u.1 ∧ LRel (VRel φ F w) q.2 u.2 ∧ ∀ v ∈ u.2, one v = true
  | [], qs, h => by
    simp [partsOf] at h; subst h
    exact ⟨[], rfl, fun j p u h => by simp at h, rfl, fun j q u h => by simp at h⟩
  | (i, x) :: ps, qs, h => by
    simp only [partsOf] at h
    split at h
    · cases h
    · rename_i v hv
      split at h
      · rename_i off hoff
        split at h
        · rename_i qs' hqs
          simp at h; subst h
          obtain ⟨us, h1, h2, h3, h4⟩ := partsOf_rel ht hqs
          obtain ⟨hl, ho⟩ := cellsOf_rel hv (ht.ev x)
          refine ⟨(off, (a.eval x).cells.toList) :: us, by simp [h1], ?_, by simp [h3], ?_⟩
          · intro j p u hp hu
            cases j with
            | zero =>
              simp at hp hu; subst hp; subst hu
              refine ⟨rfl, ?_⟩
              split at hoff
              · rename_i n e ha
                split at hoff
                · rename_i k hk
                  split at hoff
                  · rename_i hlen
                    simp at hoff
                    exact .inl ⟨n, e, k, ha, hk, hoff.symm, by rw [hl.1]; exact hlen⟩
                  · cases hoff
                · cases hoff
              · rename_i ha
                split at hoff
                · rename_i o n hf
                  split at hoff
                  · rename_i hlen
                    simp at hoff; subst hoff
                    refine .inr ⟨ha, ?_⟩
                    simp only [hf]
                    rw [hl.1, hlen]
                  · cases hoff
                · cases hoff
            | succ j => simp at hp hu; exact h2 j p u hp hu
          · intro j q u hq hu
            cases j with
            | zero => simp at hq hu; subst hq; subst hu; exact ⟨rfl, hl, ho⟩
            | succ j => simp at hq hu; exact h4 j q u hq hu
        · cases h
      · cases h

theorem fillD_rel : ∀ {qs : List (Nat × List D)} {us : List (Nat × List Value)} {ds : List D} {vs : List Value} {r : List D}, qs.length = us.length →
    (∀ (j : Nat) (q : Nat × List D) (u : Nat × List Value), qs[j]? = some q → us[j]? = some u → q.1 = u.1 ∧ LRel (VRel φ F w) q.2 u.2 ∧ ∀ v ∈ u.2, one v = true) →
    LRel (VRel φ F w) ds vs → (∀ v ∈ vs, one v = true) → fillD ds qs = some r → ∃ rv, fillD vs us = some rv ∧ LRel (VRel φ F w) r rv ∧ ∀ v ∈ rv, one v = true
  | [], us, ds, vs, r, hl, _, hr, h1, h => by
    have : us = [] := by simpa using hl.symm
    subst this
    simp [fillD] at h; subst h
    exact ⟨vs, rfl, hr, h1⟩
  | (off, q) :: qs, us, ds, vs, r, hl, hq, hr, h1, h => by
    cases us with
    | nil => simp at hl
    | cons u us =>
      obtain ⟨off', u⟩ := u
      obtain ⟨e, hqu, hu1⟩ := hq 0 _ _ rfl rfl
      simp only at e hqu hu1
      subst e
      simp only [fillD] at h
      split at h
      · rename_i hle
        have hle' : off + u.length ≤ vs.length := by rw [hqu.1, hr.1]; exact hle
        simp only [fillD, if_pos hle']
        refine fillD_rel (by simpa using hl) (fun j q u h h' => hq (j + 1) q u (by simpa using h) (by simpa using h')) ?_ ?_ h
        · rw [← hqu.1]
          exact ((hr.take off).append hqu).append (hr.drop _)
        · intro v hv
          simp only [List.mem_append] at hv
          rcases hv with (hv | hv) | hv
          · exact h1 v (List.mem_of_mem_take hv)
          · exact hu1 v hv
          · exact h1 v (List.mem_of_mem_drop hv)
      · cases h

theorem zer_inv {t : TypeId} {z : List D} (h : zer P t = some z) : ∃ i zv, P.info? t = some i ∧ i.zero = some zv ∧ z = zv.cells.toList.map .s ∧ ∀ v ∈ zv.cells.toList, one v = true := by
  unfold zer at h
  split at h
  · rename_i i hi
    split at h
    · rename_i zv hz
      split at h
      · rename_i h1
        simp at h
        exact ⟨i, zv, hi, hz, h.symm, fun v hv => (List.all_eq_true.1 h1) v hv⟩
      · cases h
    · cases h
  · cases h

theorem mapM_all {fs : List Field} (h : fs.all (fun f => (P.info? f.type).isSome) = true) : ∃ places, fs.mapM (fun f => (P.info? f.type).map fun i => (f.offset, i.size)) = some places ∧ places.length = fs.length ∧
    ∀ (i : Nat) (f : Field), fs[i]? = some f → ∃ inf, P.info? f.type = some inf ∧ places[i]? = some (f.offset, inf.size) := by
  induction fs with
  | nil => exact ⟨[], rfl, rfl, fun i f h => by simp at h⟩
  | cons f fs ih =>
    simp only [List.all_cons, Bool.and_eq_true] at h
    obtain ⟨places, h1, h2, h3⟩ := ih h.2
    obtain ⟨inf, hi⟩ := Option.isSome_iff_exists.1 h.1
    refine ⟨(f.offset, inf.size) :: places, by simp [List.mapM_cons, hi, h1], by simp [h2], ?_⟩
    intro i f' hf
    cases i with
    | zero => simp at hf; subst hf; exact ⟨inf, hi, rfl⟩
    | succ i => simp at hf; simpa using h3 i f' hf

theorem sz_info {t : TypeId} {n : Nat} (h : sz P t = some n) : ∃ i, P.info? t = some i ∧ i.size = n := by
  unfold sz at h
  cases hi : P.info? t with
  | none => simp [hi] at h
  | some i =>
    cases hu : P.underlying t with
    | none => simp [hi, hu] at h
    | some d => simp [hi, hu] at h; exact ⟨i, rfl, h⟩

theorem build_rel {t : TypeId} {tm : List (Nat × D)} {a : Act} (ht : TRel φ F w tm a) {ps : Array (Nat × Operand)} {z cs : List D} {qs : List (Nat × List D)} (hz : zer P t = some z) (hq : partsOf P t tm ps.toList = some qs)
    (hag : (agg P t && structOk P t) = true) (hf : fillD z qs = some cs) : ∃ v, (Instr.build t (ps.map fun (i, x) => (i, a.eval x))).run P w = .ok v w ∧ VRel φ F w (.g cs) v := by
  obtain ⟨us, u1, u2, u3, u4⟩ := partsOf_rel ht hq
  obtain ⟨inf, zv, hi, hzv, rfl, hone⟩ := zer_inv hz
  obtain ⟨rv, hrv, hrr, hr1⟩ := fillD_rel u3 u4 (lrel_s _) hone hf
  refine ⟨.agg rv.toArray, run_build w t _ _ ?_, vrel_g hr1 hrr⟩
  rw [Bool.and_eq_true] at hag
  have hparts : (ps.map fun (i, x) => (i, a.eval x)).toList = ps.toList.map fun p => (p.1, a.eval p.2) := by simp
  unfold Program.built
  rw [hi]
  cases hu : P.underlying t with
  | none => simp [agg, hu] at hag
  | some d =>
    cases d <;> try (simp [agg, hu] at hag; done)
    · rename_i n e
      have harr : arr P t = some (n, e) := by simp [arr, hu]
      -- an array: each part's size
      cases hsz : P.info? e with
      | none =>
        cases hps : ps.toList with
        | nil =>
          exfalso
          -- no part: the element's type is asked all the same
          have : structOk P t = true := hag.2
          simp [structOk, hu] at this
          rw [hsz] at this
          simp at this
        | cons p ps' =>
          have hl : 0 < us.length := by rw [u1, hps]; simp
          obtain ⟨_, hh⟩ := u2 0 p us[0] (by rw [hps]; rfl) (List.getElem?_eq_getElem hl)
          rcases hh with ⟨n', e', k, h1, h2, _⟩ | ⟨h1, _⟩
          · rw [harr] at h1; simp at h1; obtain ⟨_, rfl⟩ := h1
            obtain ⟨i', hi', _⟩ := sz_info h2
            rw [hsz] at hi'; cases hi'
          · rw [harr] at h1; cases h1
      | some ie =>
        simp only [hzv, hsz]
        rw [hparts]
        refine fill_eq _ (ps.toList.map fun p => (p.1, a.eval p.2)) us _ (by simp [u1]) (fun j p o hp ho => ?_) rv hrv
        rw [List.getElem?_map] at hp
        cases hpp : ps.toList[j]? with
        | none => simp [hpp] at hp
        | some pp =>
          simp [hpp] at hp; subst hp
          obtain ⟨h1, hh⟩ := u2 j pp o hpp ho
          refine ⟨h1, ?_⟩
          rcases hh with ⟨n', e', k, h2, h3, h4, h5⟩ | ⟨h2, _⟩
          · rw [harr] at h2; simp at h2; obtain ⟨_, rfl⟩ := h2
            obtain ⟨i', hi', hk⟩ := sz_info h3
            rw [hsz] at hi'; simp at hi'; subst hi'
            rw [h1] at h5
            simp at h5
            simp [h4, hk, h5]
          · rw [harr] at h2; cases h2
    · rename_i fs
      have hok := hag.2
      simp only [structOk, hu] at hok
      obtain ⟨places, p1, p2, p3⟩ := mapM_all hok
      simp only [hzv, p1]
      rw [hparts]
      refine fill_eq _ (ps.toList.map fun p => (p.1, a.eval p.2)) us _ (by simp [u1]) (fun j p o hp ho => ?_) rv hrv
      rw [List.getElem?_map] at hp
      cases hpp : ps.toList[j]? with
      | none => simp [hpp] at hp
      | some pp =>
        simp [hpp] at hp; subst hp
        obtain ⟨h1, hh⟩ := u2 j pp o hpp ho
        refine ⟨h1, ?_⟩
        rcases hh with ⟨n', e', k, h2, _⟩ | ⟨_, h3⟩
        · simp [arr, hu] at h2
        · obtain ⟨fs', f, hu', hf', ho', hs', _⟩ := fld_inv h3
          rw [hu] at hu'; simp at hu'; subst hu'
          obtain ⟨inf', hi', hpl⟩ := p3 pp.1 f (by simpa using hf')
          obtain ⟨i'', hi'', hk⟩ := sz_info hs'
          rw [hi'] at hi''; simp at hi''; subst hi''
          rw [h1] at hk
          simp at hk
          simp [hpl, ho', hk]


/-- AN OPERATION THAT ASKS NO MEMORY. -/
theorem op0_sim {tm : List (Nat × D)} {a : Act} (ht : TRel φ F w tm a) {o : Oper} {d : D} (h : op0 P tm o = some d) : ∃ v, (execOp a.eval o).run P w = .ok (.value v) w ∧ VRel φ F w d v := by
  unfold op0 at h
  unfold execOp
  have lift : ∀ (s : Sem Value), (∃ v, s.run P w = .ok v w ∧ VRel φ F w d v) → ∃ v, (do pure (.value (← s)) : Sem Next).run P w = .ok (.value v) w ∧ VRel φ F w d v := by
    rintro s ⟨v, h1, h2⟩
    exact ⟨v, by simp only [Sem.run_bind, h1, Result.andThen_ok, Sem.run_pure], h2⟩
  cases ho : o.op <;> simp only [ho] at h ⊢ <;> try (cases h; done)
  case move x => simp at h; subst h; exact ⟨_, rfl, ht.ev x⟩
  case assign x => simp at h; subst h; exact ⟨_, rfl, ht.ev x⟩
  case pick c x y =>
    split at h
    · rename_i t hc
      simp at h
      have hb := vrel_s_inv (hc ▸ ht.ev c)
      refine ⟨if t then a.eval x else a.eval y, by simp [hb, asBool], ?_⟩
      subst h
      cases t
      · exact ht.ev y
      · exact ht.ev x
    · cases h
  case build t ps =>
    split at h
    · rename_i z qs hz hq hag
      split at h
      · rename_i cs hf
        simp at h; subst h
        exact lift _ (build_rel ht hz hq hag hf)
      · cases h
    · cases h
  case nilCheck x =>
    have hx := ht.ev x
    split at h
    · rename_i id i off he
      simp at h; subst h
      rw [he] at hx
      obtain ⟨b, c, z, _, hv⟩ := vrel_p_inv hx
      rw [hv]
      exact ⟨_, rfl, hv ▸ hx⟩
    · rename_i cs he
      simp at h; subst h
      rw [he] at hx
      have hp := vrel_q_inv hx
      generalize a.eval x = v at *
      cases hp
      exact ⟨_, rfl, hx⟩
    · rename_i g x' y' he
      simp at h; subst h
      rw [he] at hx
      obtain ⟨vx, vy, hv, _, _⟩ := vrel_f_inv hx
      rw [hv]
      exact ⟨_, rfl, hv ▸ hx⟩
    · cases h
  case binOp op t x y yt => exact lift _ (binD_rel h (ht.ev x) (ht.ev y) x y)
  case unOp op t x =>
    split at h
    · rename_i v hv
      split at h
      · rename_i r hr
        simp at h; subst h
        have := vrel_s_inv (hv ▸ ht.ev x)
        rw [this]
        exact lift _ ⟨r, val_run hr w, ofValue_rel r⟩
      · cases h
    · cases h
  case convert s t x =>
    split at h
    · rename_i v hv
      split at h
      · rename_i r hr
        simp at h; subst h
        have := vrel_s_inv (hv ▸ ht.ev x)
        rw [this]
        exact lift _ ⟨r, val_run hr w, ofValue_rel r⟩
      · cases h
    · cases h
  case index t x i =>
    split at h
    · rename_i k n hn
      have hi := vrel_s_inv (hn ▸ ht.ev i)
      rw [hi]
      split at h
      · rename_i cs hx
        obtain ⟨vs, hv, h1, hl⟩ := vrel_g_inv (hx ▸ ht.ev x)
        rw [hv]
        split at h
        · rename_i len el ha
          split at h
          · rename_i m hm
            split at h
            · rename_i hin
              obtain ⟨v, hrun, hr⟩ := loadD_part hm h h1 hl
              refine lift _ ⟨v, ?_, hr⟩
              simp [Instr.index, asIntOf, run_underlying (arr_under ha), hin, sz_run hm, hrun]
            · cases h
          · cases h
        · cases h
      · rename_i b hx
        have hv := vrel_s_inv (hx ▸ ht.ev x)
        rw [hv]
        split at h
        · rename_i hu
          split at h
          · rename_i hpos
            split at h
            · rename_i u hb
              simp at h; subst h
              refine lift _ ⟨_, ?_, vrel_s _⟩
              simp [Instr.index, asIntOf, run_underlying hu, hpos, hb]
            · cases h
          · cases h
        · cases h
      · cases h
    · cases h
  case field t x i =>
    split at h
    · rename_i cs off n hx hf
      obtain ⟨vs, hv, h1, hl⟩ := vrel_g_inv (hx ▸ ht.ev x)
      rw [hv]
      obtain ⟨fs, f, hu, hfi, ho', hs, _⟩ := fld_inv hf
      simp only [hu, hfi, Option.map_some] at h
      obtain ⟨v, hrun, hr⟩ := loadD_part hs h h1 hl
      refine lift _ ⟨v, ?_, hr⟩
      simp [Instr.field, run_underlying hu, hfi, asAgg, ho', hrun]
    · cases h
  case makeFunc fn x y =>
    simp at h; subst h
    refine lift _ ⟨_, rfl, ?_⟩
    rw [map_eval, map_eval]
    have hx := ht.evs x.toList
    have hy := ht.evs y.toList
    simpa using VRel.f fn _ _ _ _ hx.1 hy.1 hx.2 hy.2
  case fieldAddr t x i =>
    split at h
    · rename_i id j off o n hx hf
      simp at h; subst h
      obtain ⟨b, c, z, hφ, hv⟩ := vrel_p_inv (hx ▸ ht.ev x)
      obtain ⟨fs, f, hu, hfi, ho', hs, hn0⟩ := fld_inv hf
      rw [hv]
      refine lift _ ⟨.pointer (some ⟨b, j * z + (off + o), none⟩), ?_, .p _ _ _ _ _ _ hφ⟩
      simp [Instr.fieldAt, run_underlying hu, hfi, Instr.sureAddr, fieldPlace, sz_run hs, hn0, add_field, ho', Nat.add_assoc]
    · rename_i cs o n hx hf
      simp at h; subst h
      obtain ⟨ad, hv, hr⟩ := prel_drop (vrel_q_inv (hx ▸ ht.ev x)) o
      obtain ⟨fs, f, hu, hfi, ho', hs, hn0⟩ := fld_inv hf
      rw [hv]
      refine lift _ ⟨_, ?_, .pure hr⟩
      simp [Instr.fieldAt, run_underlying hu, hfi, Instr.sureAddr, fieldPlace, sz_run hs, hn0, ho']
    · cases h
  case indexAddr t x i =>
    split at h
    · rename_i k n hn
      have hi := vrel_s_inv (hn ▸ ht.ev i)
      rw [hi]
      split at h
      · rename_i el he
        have hu := elt_under he
        split at h
        · rename_i m hm
          split at h
          · rename_i hpos
            split at h
            · rename_i cap es hx
              split at h
              · rename_i c hc
                split at h
                · rename_i hlen
                  simp at h; subst h
                  obtain ⟨ad, kk, hv, hlt, hr⟩ := prel_elem (vrel_l_inv (hx ▸ ht.ev x)) hc hlen
                  rw [hv]
                  refine lift _ ⟨_, ?_, .pure hr⟩
                  have hlt' : n < (es.length : Int) := by omega
                  simp [Instr.indexAt, asIntOf, run_underlying hu, hpos, hlt', sz_run hm]
                · cases h
              · cases h
            · rename_i id lo len z hx
              split at h
              · rename_i hlt
                simp at h; subst h
                obtain ⟨b, c, ad, hφ, hle, had, hv⟩ := vrel_a_inv (hx ▸ ht.ev x)
                obtain ⟨hlt, rfl⟩ := hlt
                have hadd := had (by omega)
                subst hadd
                rw [hv]
                refine lift _ ⟨.pointer (some ⟨b, (lo + n.toNat) * z + 0, none⟩), ?_, .p _ _ _ _ _ _ hφ⟩
                simp [Instr.indexAt, asIntOf, run_underlying hu, hpos, hlt, sz_run hm, add_field, Nat.add_mul]
              · cases h
            · cases h
          · cases h
        · cases h
      · rename_i he
        split at h
        · rename_i len el ha
          have hu := arr_under ha
          split at h
          · rename_i m hm
            split at h
            · rename_i hin
              split at h
              · rename_i id j off hx
                simp at h; subst h
                obtain ⟨b, c, z, hφ, hv⟩ := vrel_p_inv (hx ▸ ht.ev x)
                rw [hv]
                refine lift _ ⟨.pointer (some ⟨b, j * z + (off + n.toNat * m), none⟩), ?_, .p _ _ _ _ _ _ hφ⟩
                simp [Instr.indexAt, asIntOf, run_underlying hu, Instr.sureAddr, hin, sz_run hm, add_field, Nat.add_assoc]
              · rename_i cs hx
                simp at h; subst h
                obtain ⟨ad, hv, hr⟩ := prel_drop (vrel_q_inv (hx ▸ ht.ev x)) (n.toNat * m)
                rw [hv]
                refine lift _ ⟨_, ?_, .pure hr⟩
                simp [Instr.indexAt, asIntOf, run_underlying hu, Instr.sureAddr, hin, sz_run hm]
              · cases h
            · cases h
          · cases h
        · cases h
    · cases h
  case extract x i =>
    split at h
    · rename_i vs hx
      obtain ⟨us, hv, hl⟩ := vrel_t_inv (hx ▸ ht.ev x)
      rw [hv]
      obtain ⟨v, hvi, hr⟩ := hl.get h
      refine lift _ ⟨v, ?_, hr⟩
      simp [Instr.extract, hvi]
    · cases h
  case call cl =>
    have hargs : cl.args.map a.eval = (cl.args.toList.map a.eval).toArray := map_eval _ _
    have hev := ht.evs cl.args.toList
    cases hcl : cl.callee <;> simp only [hcl] at h ⊢ <;> try (cases h; done)
    rename_i b
    obtain ⟨cons, hres⟩ : ∃ cons, resolve a.eval cl o.type = pure { target := .builtin b cl.argTypes o.type cons, args := cl.args.map a.eval } := ⟨_, by unfold resolve; simp only [hcl]; rfl⟩
    have hb : ∀ s : Sem Next, (do let d ← resolve a.eval cl o.type; invoke d.target d.args : Sem Next) = builtin b cl.argTypes o.type cons (cl.args.map a.eval) := fun _ => by rw [hres]; rfl
    rw [hb (pure .skip)]
    have cells : ∀ (s : Array Value → Sem Value) {vs : List Value}, toCells (cl.args.toList.map (ev tm)) = some vs → op0.pureB P (s vs.toArray) = some d →
        ∃ v, (s (cl.args.map a.eval)).run P w = .ok v w ∧ VRel φ F w d v := by
      intro s vs hc hp
      rw [hargs, toCells_rel hc hev]
      unfold op0.pureB at hp
      split at hp
      · rename_i r hr
        simp at hp; subst hp
        exact ⟨r, val_run hr w, ofValue_rel r⟩
      · cases hp
    cases b <;> simp only at h <;> try (split at h <;> cases h; done)
    case len =>
      split at h
      · rename_i x t he hts
        split at h
        · rename_i hlt
          split at h
          · rename_i n hn
            simp at h; subst h
            rw [he] at hev
            obtain ⟨v, vs', hvs, hd, hrest⟩ := hev.head
            rw [hrest.of_nil] at hvs
            have := lenD_rel (P := P) hlt hn hd [] o.type
            rw [hargs, hvs]
            have hta : cl.argTypes = [t].toArray := by rw [← hts]
            unfold builtin
            exact lift _ ⟨_, by rw [hta]; exact this, vrel_s _⟩
          · cases h
        · cases h
      · cases h
    case min =>
      obtain ⟨v, hv, hr⟩ := minmax_rel (P := P) h hev cl.argTypes o.type
      unfold builtin
      exact lift _ ⟨v, by rw [hargs]; simpa using hv, hr⟩
    case max =>
      obtain ⟨v, hv, hr⟩ := minmax_rel (P := P) h hev cl.argTypes o.type
      unfold builtin
      exact lift _ ⟨v, by rw [hargs]; simpa using hv, hr⟩
    case complex =>
      split at h
      · rename_i vs hc
        unfold builtin
        exact lift _ (cells (fun x => Builtin.complex_ cl.argTypes o.type x) hc h)
      · cases h
    case real =>
      split at h
      · rename_i vs hc
        unfold builtin
        exact lift _ (cells (fun x => Builtin.real_ cl.argTypes o.type x) hc h)
      · cases h
    case imag =>
      split at h
      · rename_i vs hc
        unfold builtin
        exact lift _ (cells (fun x => Builtin.imag_ cl.argTypes o.type x) hc h)
      · cases h

end
end Vm
end Go.Proofs.YtffgjmfkkfinlaaGreat

/-
  What the model does at an append, a copy, a load, a store: said for the machine of values.
-/
namespace Go.Proofs.YtffgjmfkkfinlaaGreat
namespace Vm
open Go Go.RowKit

section
variable {P : Program} {w : World}

theorem append_grow (t u ty e : TypeId) (i : TypeInfo) (z : Value) (ht : P.underlying t = some (.slice e)) (e' : TypeId) (hu : P.underlying u = some (.slice e')) (hi : P.info? e = some i) (hz : i.zero = some z)
    (base : Option Addr) (sLen sCap : Nat) (x : Value) (n : Nat) (olds news : Array Value)
    (hlen : ∀ w, (Builtin.lenOf x).run P w = .ok n w) (hold : (Builtin.firstCells i.size sLen (.slice base sLen sCap)).run P w.drew = .ok olds w.drew) (hnew : (Builtin.firstCells i.size n x).run P w.drew = .ok news w.drew)
    (hg : sCap < sLen + n) (h63 : ((sLen + n : Nat) : Int) ≤ 9223372036854775807) (hfit : Builtin.nextslicecap (sLen + n) sCap * i.bytes ≤ 281474976710656) :
    (Builtin.append_ #[t, u] ty #[.slice base sLen sCap, x]).run P w =
      .ok (.slice (some ⟨w.heap.size, 0, none⟩) (sLen + n) (grownCap w (sLen + n) sCap e))
        (w.drew.alloc (.cells (olds ++ news ++ Builtin.zeroCells z.cells (grownCap w (sLen + n) sCap e - (sLen + n))) e)) := by
  have hn : ¬ (sLen + n ≤ sCap) := by omega
  have h63' : ¬ (9223372036854775807 < ((sLen : Int) + (n : Int))) := by omega
  have h48' : ¬ (281474976710656 < Builtin.nextslicecap (sLen + n) sCap * i.bytes) := by omega
  simp [Builtin.append_, run_underlying ht, run_underlying hu, sizeOf, typeInfo, zeroValue, hi, hz, hlen, hn, h63', h48', Question.forced, hnew, hold, newRow, grownCap]

theorem append_grow_zeros (t u ty e : TypeId) (i : TypeInfo) (z : Value) (ht : P.underlying t = some (.slice e)) (k k' : IntKind) (hu : P.underlying u = some (.int k)) (hi : P.info? e = some i) (hz : i.zero = some z)
    (base : Option Addr) (sLen sCap : Nat) (n : Nat) (olds : Array Value) (hn0 : n * i.size ≠ 0)
    (hold : (Builtin.firstCells i.size sLen (.slice base sLen sCap)).run P w.drew = .ok olds w.drew)
    (hg : sCap < sLen + n) (h63 : ((sLen + n : Nat) : Int) ≤ 9223372036854775807) (hb : (sLen + n) * i.bytes ≤ 140737488355328) (hfit : Builtin.nextslicecap (sLen + n) sCap * i.bytes ≤ 281474976710656) :
    (Builtin.append_ #[t, u] ty #[.slice base sLen sCap, .int k' (n : Int)]).run P w =
      .ok (.slice (some ⟨w.heap.size, 0, none⟩) (sLen + n) (grownCap w (sLen + n) sCap e))
        (w.drew.alloc (.cells (olds ++ Builtin.zeroCells z.cells n ++ Builtin.zeroCells z.cells (grownCap w (sLen + n) sCap e - (sLen + n))) e)) := by
  have hn : ¬ (sLen + n ≤ sCap) := by omega
  have h63' : ¬ (9223372036854775807 < ((sLen : Int) + (n : Int))) := by omega
  have h48' : ¬ (281474976710656 < Builtin.nextslicecap (sLen + n) sCap * i.bytes) := by omega
  have wn : IntKind.i64.wrap (n : Int) = n := by rw [IntKind.wrap_i64]; omega
  have hneg : ¬ ((n : Int) < 0) := by omega
  have hbb : ¬ (281474976710656 < (n : Int) * (i.bytes : Int)) := by
    have h1 : n * i.bytes ≤ (sLen + n) * i.bytes := Nat.mul_le_mul_right _ (by omega)
    have h2 : ((n * i.bytes : Nat) : Int) ≤ 140737488355328 := by omega
    rw [Int.natCast_mul] at h2
    omega
  simp [Builtin.append_, run_underlying ht, run_underlying hu, sizeOf, typeInfo, zeroValue, hi, hz, asInt, asIntOf, wn, hneg, hbb, hn, h63', h48', Question.forced, hold, newRow, grownCap, hn0]

theorem append_fits (t u ty e : TypeId) (i : TypeInfo) (ht : P.underlying t = some (.slice e)) (e' : TypeId) (hu : P.underlying u = some (.slice e')) (hi : P.info? e = some i)
    (b off sLen sCap : Nat) (x : Value) (n : Nat) (news cur : Array Value) (te : TypeId)
    (hlen : ∀ w, (Builtin.lenOf x).run P w = .ok n w) (hnew : (Builtin.firstCells i.size n x).run P w = .ok news w)
    (hg : sLen + n ≤ sCap) (hb : w.heap[b]? = some (.cells cur te (0, 0))) (hl : off + sLen * i.size + news.size ≤ cur.size) (h1 : ∀ v ∈ news.toList, one v = true) :
    (Builtin.append_ #[t, u] ty #[.slice (some ⟨b, off, none⟩) sLen sCap, x]).run P w = .ok (.slice (some ⟨b, off, none⟩) (sLen + n) sCap)
      (w.setRow b (cur.toList.take (off + sLen * i.size) ++ news.toList ++ cur.toList.drop (off + sLen * i.size + news.size)).toArray) := by
  have hst := run_storeCells_at (P := P) b (off + sLen * i.size) te news.toList 0 cur w hb (by simpa using hl) (fun v hv => h1 v hv)
  simp only [Nat.add_zero] at hst
  simp [Builtin.append_, run_underlying ht, run_underlying hu, sizeOf, typeInfo, hi, hlen, hg, hnew, add_field, hst]

theorem append_fits_zeros (t u ty e : TypeId) (i : TypeInfo) (z : Value) (ht : P.underlying t = some (.slice e)) (k k' : IntKind) (hu : P.underlying u = some (.int k)) (hi : P.info? e = some i) (hz : i.zero = some z)
    (b off sLen sCap : Nat) (n : Nat) (cur : Array Value) (te : TypeId) (hn0 : n * i.size ≠ 0) (hzs : z.cells.size = i.size) (h63 : (n : Int) ≤ 9223372036854775807) (hbn : n * i.bytes ≤ 140737488355328)
    (hg : sLen + n ≤ sCap) (hb : w.heap[b]? = some (.cells cur te (0, 0))) (hl : off + sLen * i.size + n * i.size ≤ cur.size) (h1 : ∀ v ∈ (Builtin.zeroCells z.cells n).toList, one v = true) :
    (Builtin.append_ #[t, u] ty #[.slice (some ⟨b, off, none⟩) sLen sCap, .int k' (n : Int)]).run P w = .ok (.slice (some ⟨b, off, none⟩) (sLen + n) sCap)
      (w.setRow b (cur.toList.take (off + sLen * i.size) ++ (Builtin.zeroCells z.cells n).toList ++ cur.toList.drop (off + sLen * i.size + n * i.size)).toArray) := by
  have hsz : (Builtin.zeroCells z.cells n).toList.length = n * i.size := by simp [size_zeroCells, hzs]
  have hst := run_storeCells_at (P := P) b (off + sLen * i.size) te (Builtin.zeroCells z.cells n).toList 0 cur w hb (by rw [hsz]; simpa using hl) (fun v hv => h1 v hv)
  simp only [Nat.add_zero, hsz] at hst
  have wn : IntKind.i64.wrap (n : Int) = n := by rw [IntKind.wrap_i64]; omega
  have hneg : ¬ ((n : Int) < 0) := by omega
  have hbb : ¬ (281474976710656 < (n : Int) * (i.bytes : Int)) := by
    have h2 : ((n * i.bytes : Nat) : Int) ≤ 140737488355328 := by omega
    rw [Int.natCast_mul] at h2
    omega
  simp [Builtin.append_, run_underlying ht, run_underlying hu, sizeOf, typeInfo, zeroValue, hi, hz, asInt, asIntOf, wn, hneg, hbb, hg, hn0, add_field, hst]

theorem setRow_other (w : World) (b : Nat) (cs : Array Value) (k : Nat) (h : k ≠ b) : (w.setRow b cs).heap[k]? = w.heap[k]? := by
  simp only [World.setRow, Array.getElem?_modify]
  rw [if_neg (by omega)]
theorem setRow_same (w : World) (b : Nat) (cs cur : Array Value) (te : TypeId) (fz : Nat × Nat) (h : w.heap[b]? = some (.cells cur te fz)) : (w.setRow b cs).heap[b]? = some (.cells cs te fz) := by
  simp [World.setRow, Array.getElem?_modify, h]
theorem setRow_size (w : World) (b : Nat) (cs : Array Value) : (w.setRow b cs).heap.size = w.heap.size := by simp [World.setRow]

theorem cellAt_row {w : World} {b : Nat} {cs : Array Value} {te : TypeId} {fz : Nat × Nat} (h : w.heap[b]? = some (.cells cs te fz)) (o : Nat) : cellAt w b o = cs[o]? := by
  simp [cellAt, World.cell?, h]

end
end Vm
end Go.Proofs.YtffgjmfkkfinlaaGreat

/-
  How the memories stand to each other behind a new block, a locked one, a written one, one that goes on under a new name.
-/
namespace Go.Proofs.YtffgjmfkkfinlaaGreat
namespace Vm
open Go Go.RowKit

section
variable {W : Nat → Prop} {φ : Ph} {F : Fz} {w w' : World} {hp : List (Nat × Blk)} {nx : Nat}

def upd (φ : Ph) (i : Nat) (x : Nat × Nat × Nat) : Ph := fun id => if id = i then some x else φ id

theorem upd_same (φ : Ph) (i : Nat) (x : Nat × Nat × Nat) : upd φ i x i = some x := by simp [upd]
theorem upd_other {φ : Ph} {i id : Nat} {x : Nat × Nat × Nat} (h : id ≠ i) : upd φ i x id = φ id := by simp [upd, h]
theorem upd_sub {i : Nat} (hf : φ i = none) {x y : Nat × Nat × Nat} {id : Nat} (h : φ id = some y) : upd φ i x id = some y := by
  rw [upd_other (fun e => by subst e; rw [hf] at h; cases h)]; exact h

theorem rdH_cons_same (id : Nat) (B : Blk) (hp : List (Nat × Blk)) : rdH ((id, B) :: hp) id = B := by simp [rdH]
theorem rdH_cons_other {id i : Nat} (B : Blk) (hp : List (Nat × Blk)) (h : i ≠ id) : rdH ((i, B) :: hp) id = rdH hp id := by simp [rdH, h]

/-- What is below is as it was. -/
theorem MR.cells_of (hm : MR φ F w hp nx) (hb : Below w.heap.size w w') : ∀ b o, F b o → cellAt w' b o = cellAt w b o :=
  fun b o hf => cellAt_block (hb.block b (hm.Fb b o hf)) o

theorem MR.below (hm : MR φ F w hp nx) (hb : Below w.heap.size w w') : MR φ F w' hp nx where
  blk := fun id b c z hid hl => (hm.blk id b c z hid hl).keep (hb.block b (hm.pb id b c z hid)) (fun _ _ h => h) (fun _ _ h => h) (hm.cells_of hb)
  rw := hm.rw
  tip := hm.tip
  inj := hm.inj
  fresh := hm.fresh
  Fb := fun b o h => Nat.lt_of_lt_of_le (hm.Fb b o h) hb.size
  pb := fun id b c z h => Nat.lt_of_lt_of_le (hm.pb id b c z h) hb.size

theorem MR.ext_below (hm : MR φ F w hp nx) (hb : Below w.heap.size w w') (k : Nat) : Ext k W φ F w φ F w' :=
  ⟨hb.os, hb.tape, hb.output, hb.size, fun _ _ => rfl, fun id b c z h => .inr ⟨id, c, z, h, fun x => x⟩, fun _ _ h => h, hm.cells_of hb, fun b h _ => hb.block b h, fun _ _ h => .inl h⟩

theorem MR.ext_new (hm : MR φ F w hp nx) (hb : Below w.heap.size w w') {k : Nat} (hk : k ≤ nx) {b0 c z : Nat} (h0 : w.heap.size ≤ b0) : Ext k W φ F w (upd φ nx (b0, c, z)) F w' :=
  ⟨hb.os, hb.tape, hb.output, hb.size, fun id hid => upd_other (by omega), fun id b c' z' h => by
      by_cases e : id = nx
      · subst e; rw [upd_same] at h; simp at h; exact .inl (by omega)
      · rw [upd_other e] at h; exact .inr ⟨id, c', z', h, fun x => x⟩,
    fun _ _ h => h, hm.cells_of hb, fun b h _ => hb.block b h, fun _ _ h => .inl h⟩

theorem MR.new (hm : MR φ F w hp nx) (hb : Below w.heap.size w w') {b0 c z : Nat} (h0 : w.heap.size ≤ b0) {B : Blk} (hB : BRel (upd φ nx (b0, c, z)) F w' B b0 c z) :
    MR (upd φ nx (b0, c, z)) F w' ((nx, B) :: hp) (nx + 1) where
  blk := fun id b c' z' hid hl => by
    by_cases e : id = nx
    · subst e; rw [upd_same] at hid; simp at hid; obtain ⟨rfl, rfl, rfl⟩ := hid
      rw [rdH_cons_same] at hl ⊢; exact hB
    · rw [upd_other e] at hid
      rw [rdH_cons_other B hp (fun x => e x.symm)] at hl ⊢
      exact (hm.blk id b c' z' hid hl).keep (hb.block b (hm.pb id b c' z' hid)) (fun _ _ h => upd_sub (hm.fresh nx (Nat.le_refl _)) h) (fun _ _ h => h) (hm.cells_of hb)
  rw := fun id b c' z' hid hl o hf => by
    by_cases e : id = nx
    · subst e; rw [upd_same] at hid; simp at hid; obtain ⟨rfl, rfl, rfl⟩ := hid
      have := hm.Fb _ _ hf; omega
    · rw [upd_other e] at hid
      rw [rdH_cons_other B hp (fun x => e x.symm)] at hl
      exact hm.rw id b c' z' hid hl o hf
  tip := fun id b c' z' hid hl ha o ho hf => by
    by_cases e : id = nx
    · subst e; rw [upd_same] at hid; simp at hid; obtain ⟨rfl, rfl, rfl⟩ := hid
      have := hm.Fb _ _ hf; omega
    · rw [upd_other e] at hid
      rw [rdH_cons_other B hp (fun x => e x.symm)] at hl ha ho
      exact hm.tip id b c' z' hid hl ha o ho hf
  inj := fun id id' b c1 z1 c2 z2 h1 h2 l1 l2 => by
    by_cases e : id = nx <;> by_cases e' : id' = nx
    · rw [e, e']
    · subst e; rw [upd_same] at h1; simp at h1; rw [upd_other e'] at h2
      have := hm.pb _ _ _ _ h2; omega
    · subst e'; rw [upd_same] at h2; simp at h2; rw [upd_other e] at h1
      have := hm.pb _ _ _ _ h1; omega
    · rw [upd_other e] at h1; rw [upd_other e'] at h2
      rw [rdH_cons_other B hp (fun x => e x.symm)] at l1
      rw [rdH_cons_other B hp (fun x => e' x.symm)] at l2
      exact hm.inj id id' b c1 z1 c2 z2 h1 h2 l1 l2
  fresh := fun id h => by rw [upd_other (by omega)]; exact hm.fresh id (by omega)
  Fb := fun b o h => Nat.lt_of_lt_of_le (hm.Fb b o h) hb.size
  pb := fun id b c' z' hid => by
    by_cases e : id = nx
    · subst e; rw [upd_same] at hid; simp at hid; obtain ⟨rfl, rfl, rfl⟩ := hid
      exact hB.lt
    · rw [upd_other e] at hid
      exact Nat.lt_of_lt_of_le (hm.pb id b c' z' hid) hb.size

/-- More cells that nobody writes: those of a block that is locked, or of a new block of the model's. -/
theorem MR.lock (hm : MR φ F w hp nx) {id b c z : Nat} (hid : φ id = some (b, c, z)) (hl : (rdH hp id).md < 2) (harr : (rdH hp id).arr = true) {hp' : List (Nat × Blk)}
    (hp1 : ∀ i, i ≠ id → rdH hp' i = rdH hp i) (hp2 : rdH hp' id = { rdH hp id with md := 1 }) :
    MR φ (fun b' o => F b' o ∨ (b' = b ∧ o < (rdH hp id).es.length * z)) w hp' nx where
  blk := fun i b' c' z' hi hli => by
    by_cases e : i = id
    · subst e
      rw [hp2]
      have h := (hm.blk i b' c' z' hi hl).keep (w' := w) (φ' := φ) (F' := fun b' o => F b' o ∨ (b' = b ∧ o < (rdH hp i).es.length * z)) rfl (fun _ _ h => h) (fun _ _ h => .inl h) (fun _ _ _ => rfl)
      exact ⟨h.heap, h.cell, h.len, h.le, h.pos, h.cap, h.single, h.pu⟩
    · rw [hp1 i e] at hli ⊢
      exact (hm.blk i b' c' z' hi hli).keep rfl (fun _ _ h => h) (fun _ _ h => .inl h) (fun _ _ _ => rfl)
  rw := fun i b' c' z' hi hli o hf => by
    by_cases e : i = id
    · subst e; rw [hp2] at hli; simp at hli
    · rw [hp1 i e] at hli
      rcases hf with hf | ⟨rfl, _⟩
      · exact hm.rw i b' c' z' hi hli o hf
      · exact e (hm.inj i id _ _ _ _ _ hi hid (by omega) hl)
  tip := fun i b' c' z' hi hli ha o ho hf => by
    by_cases e : i = id
    · subst e
      rw [hp2] at ha ho
      rw [hi] at hid; simp at hid; obtain ⟨rfl, rfl, rfl⟩ := hid
      rcases hf with hf | ⟨_, hf⟩
      · exact hm.tip i b' c' z' hi hl ha o ho hf
      · simp only at ho; omega
    · rw [hp1 i e] at hli ha ho
      rcases hf with hf | ⟨rfl, _⟩
      · exact hm.tip i b' c' z' hi hli ha o ho hf
      · exact e (hm.inj i id _ _ _ _ _ hi hid hli hl)
  inj := fun i j b' c1 z1 c2 z2 h1 h2 l1 l2 => by
    refine hm.inj i j b' c1 z1 c2 z2 h1 h2 ?_ ?_
    · by_cases e : i = id
      · subst e; exact hl
      · rw [hp1 i e] at l1; exact l1
    · by_cases e : j = id
      · subst e; exact hl
      · rw [hp1 j e] at l2; exact l2
  fresh := hm.fresh
  Fb := fun b' o hf => by
    rcases hf with hf | ⟨rfl, _⟩
    · exact hm.Fb _ _ hf
    · exact hm.pb _ _ _ _ hid
  pb := hm.pb

theorem MR.ext_lock {id b c z m : Nat} (hid : φ id = some (b, c, z)) (k : Nat) : Ext k W φ F w φ (fun b' o => F b' o ∨ (b' = b ∧ o < m)) w :=
  ⟨rfl, rfl, rfl, Nat.le_refl _, fun _ _ => rfl, fun id b c z h => .inr ⟨id, c, z, h, fun x => x⟩, fun _ _ h => .inl h, fun _ _ _ => rfl, fun _ _ _ => rfl, fun b' o h => by
    rcases h with h | ⟨rfl, _⟩
    · exact .inl h
    · exact .inr (.inr ⟨id, c, z, hid⟩)⟩

/-- A slice of a block reads as what nobody writes, once its cells are such. -/
theorem PRel.of_block {F' : Fz} {B : Blk} {b c z : Nat} (hB : BRel φ F w B b c z) (harr : B.arr = true) (hpu : B.pu = true) (hF : ∀ b o, F b o → F' b o) (hF' : ∀ o, o < B.es.length * z → F' b o)
    {lo n : Nat} (hn : lo + n ≤ B.es.length) {ad : Addr} (had : lo < c → ad = ⟨b, lo * z, none⟩) (hc : B.es.length ≤ c) (cap : Option Nat) (cc : Nat) (hcc : n ≤ cc) (hcap : ∀ k, cap = some k → cc = k) :
    PRel F' w (.l cap ((B.es.drop lo).take n)) (.slice (some ad) n cc) := by
  have hlen : ((B.es.drop lo).take n).length = n := by rw [List.length_take, List.length_drop]; omega
  have get : ∀ (i : Nat) (e : List D), ((B.es.drop lo).take n)[i]? = some e → i < n ∧ B.es[lo + i]? = some e := by
    intro i e h
    rw [List.getElem?_take] at h
    split at h
    · rename_i hi; rw [List.getElem?_drop] at h; exact ⟨hi, h⟩
    · cases h
  have hbase : ∀ (i : Nat) (e : List D), ((B.es.drop lo).take n)[i]? = some e → ad = ⟨b, lo * z, none⟩ := fun i e h => had (by have := (get i e h).1; omega)
  have hcell : ∀ (i : Nat) (e : List D) (j : Nat) (d : D), ((B.es.drop lo).take n)[i]? = some e → e[j]? = some d → ∃ v, cellAt w b (lo * z + (i * z + j)) = some v ∧ one v = true ∧ PRel F w d v := by
    intro i e j d he hd
    obtain ⟨v, h1, h2, h3⟩ := hB.cell (lo + i) e j d (get i e he).2 hd
    refine ⟨v, by rw [← h1]; congr 1; rw [Nat.add_mul]; omega, h2, vrel_pure (hB.pu hpu (lo + i) e j d (get i e he).2 hd) h3⟩
  have := PRel.l (F := F') (w := w) cap ((B.es.drop lo).take n) ad cc z (fun i j => (cellAt w b (lo * z + (i * z + j))).getD undef) (by rw [hlen]; exact hcc) hcap
    (fun i e he => hB.len harr _ e (get i e he).2)
    (fun hne => by
      obtain ⟨e, he⟩ : ∃ e, ((B.es.drop lo).take n)[0]? = some e := by
        cases hx : (B.es.drop lo).take n with
        | nil => exact absurd hx hne
        | cons e r => exact ⟨e, rfl⟩
      rw [hbase 0 e he])
    (fun i e j d he hd => by
      rw [hbase i e he]
      refine hF' _ ?_
      have hj : j < z := by
        have hlz := hB.len harr _ e (get i e he).2
        rcases Nat.lt_or_ge j e.length with h | h
        · omega
        · simp [List.getElem?_eq_none h] at hd
      have hi := (get i e he).1
      have h1 : (lo + i + 1) * z ≤ B.es.length * z := Nat.mul_le_mul_right _ (by omega)
      rw [Nat.add_mul, Nat.add_mul] at h1
      simp only
      omega)
    (fun i e j d he hd => by
      rw [hbase i e he]
      obtain ⟨v, h1, _, _⟩ := hcell i e j d he hd
      simp only [h1, Option.getD_some])
    (fun i e j d he hd => by
      obtain ⟨v, h1, h2, _⟩ := hcell i e j d he hd
      simp only [h1, Option.getD_some]; exact h2)
    (fun i e j d he hd => by
      obtain ⟨v, h1, _, h3⟩ := hcell i e j d he hd
      simp only [h1, Option.getD_some]; exact h3.mono hF (fun _ _ _ => rfl))
  rw [hlen] at this
  exact this

/-- What has turned where a value is handed out to be read. -/
def Lk (W : Nat → Prop) (φ : Ph) (F : Fz) (w : World) (hp' : List (Nat × Blk)) (nx : Nat) (F' : Fz) : Prop := MR φ F' w hp' nx ∧ (∀ b o, F b o → F' b o) ∧ ∀ k, Ext k W φ F w φ F' w

theorem Lk.refl (hm : MR φ F w hp nx) : Lk W φ F w hp nx F := ⟨hm, fun _ _ h => h, fun k => Ext.refl k W φ F w⟩
theorem Lk.trans {F' F'' : Fz} {hp' hp'' : List (Nat × Blk)} (h : Lk W φ F w hp' nx F') (g : Lk W φ F' w hp'' nx F'') : Lk W φ F w hp'' nx F'' :=
  ⟨g.1, fun b o hf => g.2.1 _ _ (h.2.1 _ _ hf), fun k => (h.2.2 k).trans (g.2.2 k)⟩
theorem Lk.vrel {F' : Fz} {hp' : List (Nat × Blk)} (h : Lk W φ F w hp' nx F') {d : D} {v : Value} (hr : VRel φ F w d v) : VRel φ F' w d v := hr.mono (fun _ _ h => h) h.2.1 (fun _ _ _ => rfl)

theorem frz_sim {dr : Bool} (hm : MR φ F w hp nx) {d d' : D} {hp' : List (Nat × Blk)} (h : frz dr hp d = some (d', hp')) {v : Value} (hr : VRel φ F w d v) : ∃ F', Lk W φ F w hp' nx F' ∧ VRel φ F' w d' v := by
  have same : frz dr hp d = some (d, hp) → ∃ F', Lk W φ F w hp' nx F' ∧ VRel φ F' w d' v := fun h' => by
    rw [h'] at h; simp at h; obtain ⟨rfl, rfl⟩ := h
    exact ⟨F, Lk.refl hm, hr⟩
  cases d <;> try (exact same rfl)
  rename_i id lo n z
  simp only [frz] at h
  split at h
  · rename_i hc
    obtain ⟨hpu, harr, hle⟩ := hc
    obtain ⟨b, c, ad, hid, hn, had, rfl⟩ := vrel_a_inv hr
    have go : ∀ (md : (rdH hp id).md < 2) (hp'' : List (Nat × Blk)), (∀ i, i ≠ id → rdH hp'' i = rdH hp i) → rdH hp'' id = { rdH hp id with md := 1 } →
        ∃ F', Lk W φ F w hp'' nx F' ∧ VRel φ F' w (.l none (((rdH hp id).es.drop lo).take n)) (.slice (some ad) n (c - lo)) := by
      intro md hp'' h1 h2
      have hB := hm.blk id b c z hid md
      refine ⟨_, ⟨hm.lock hid md harr h1 h2, fun _ _ h => .inl h, fun k => MR.ext_lock hid k⟩, .pure ?_⟩
      exact PRel.of_block hB harr hpu (fun _ _ h => .inl h) (fun o ho => .inr ⟨rfl, ho⟩) hle had (hB.le harr) none (c - lo) (by omega) (fun k h => by cases h)
    split at h
    · split at h
      · cases h
      · rename_i hmd _
        simp at h; obtain ⟨rfl, rfl⟩ := h
        exact go (by omega) _ (fun i hi => rdH_cons_other _ _ (fun e => hi e.symm)) (rdH_cons_same _ _ _)
    · rename_i hmd
      simp at h; obtain ⟨rfl, rfl⟩ := h
      refine go (by omega) _ (fun i _ => rfl) ?_
      generalize rdH hp id = B at *
      obtain ⟨es, a, md, pu, cap⟩ := B
      simp only at hmd; subst hmd; rfl
    · cases h
  · cases h

theorem frzs_sim {dr : Bool} : ∀ {ds ds' : List D} {F : Fz} {hp hp' : List (Nat × Blk)} (_ : MR φ F w hp nx) (_ : frzs dr hp ds = some (ds', hp')) {vs : List Value} (_ : LRel (VRel φ F w) ds vs),
    ∃ F', Lk W φ F w hp' nx F' ∧ LRel (VRel φ F' w) ds' vs
  | [], ds', F, hp, hp', hm, h, vs, hr => by
    simp [frzs] at h; obtain ⟨rfl, rfl⟩ := h
    exact ⟨F, Lk.refl hm, hr.of_nil ▸ LRel.nil⟩
  | d :: ds, ds', F, hp, hp', hm, h, vs, hr => by
    simp only [frzs] at h
    split at h
    · rename_i d1 hp1 h1
      split at h
      · rename_i ds1 hp2 h2
        simp at h; obtain ⟨rfl, rfl⟩ := h
        obtain ⟨v, vs', rfl, hd, ht⟩ := hr.head
        obtain ⟨F1, hk1, hr1⟩ := frz_sim hm h1 hd
        obtain ⟨F2, hk2, hr2⟩ := frzs_sim hk1.1 h2 (ht.imp fun _ _ h => hk1.vrel h)
        exact ⟨F2, hk1.trans hk2, .cons (hk2.vrel hr1) hr2⟩
      · cases h
    · cases h

theorem frzG_sim {dr : Bool} (hm : MR φ F w hp nx) {d d' : D} {hp' : List (Nat × Blk)} (h : frzG dr hp d = some (d', hp')) {v : Value} (hr : VRel φ F w d v) : ∃ F', Lk W φ F w hp' nx F' ∧ VRel φ F' w d' v := by
  cases d with
  | g cs =>
    simp only [frzG] at h
    split at h
    · rename_i cs' hp1 h1
      simp at h; obtain ⟨rfl, rfl⟩ := h
      obtain ⟨vs, rfl, hone, hl⟩ := vrel_g_inv hr
      obtain ⟨F', hk, hl'⟩ := frzs_sim hm h1 hl
      exact ⟨F', hk, vrel_g hone hl'⟩
    · cases h
  | _ =>
    simp only [frzG] at h
    exact frz_sim hm h hr

theorem frzGs_sim {dr : Bool} : ∀ {ds ds' : List D} {F : Fz} {hp hp' : List (Nat × Blk)} (_ : MR φ F w hp nx) (_ : frzGs dr hp ds = some (ds', hp')) {vs : List Value} (_ : LRel (VRel φ F w) ds vs),
    ∃ F', Lk W φ F w hp' nx F' ∧ LRel (VRel φ F' w) ds' vs
  | [], ds', F, hp, hp', hm, h, vs, hr => by
    simp [frzGs] at h; obtain ⟨rfl, rfl⟩ := h
    exact ⟨F, Lk.refl hm, hr.of_nil ▸ LRel.nil⟩
  | d :: ds, ds', F, hp, hp', hm, h, vs, hr => by
    simp only [frzGs] at h
    split at h
    · rename_i d1 hp1 h1
      split at h
      · rename_i ds1 hp2 h2
        simp at h; obtain ⟨rfl, rfl⟩ := h
        obtain ⟨v, vs', rfl, hd, ht⟩ := hr.head
        obtain ⟨F1, hk1, hr1⟩ := frzG_sim hm h1 hd
        obtain ⟨F2, hk2, hr2⟩ := frzGs_sim hk1.1 h2 (ht.imp fun _ _ h => hk1.vrel h)
        exact ⟨F2, hk1.trans hk2, .cons (hk2.vrel hr1) hr2⟩
      · cases h
    · cases h

end
end Vm
end Go.Proofs.YtffgjmfkkfinlaaGreat

/-
  Operations on memory: a new block, a load, a store.
-/
namespace Go.Proofs.YtffgjmfkkfinlaaGreat
namespace Vm
open Go Go.RowKit

section
variable {P : Program} {W : Nat → Prop} {φ : Ph} {F : Fz} {w : World} {hp : List (Nat × Blk)} {nx : Nat}

/-- What an operation leaves. -/
structure Post (k : Nat) (W : Nat → Prop) (φ : Ph) (F : Fz) (w : World) (nx : Nat) (d : D) (v : Value) (hp' : List (Nat × Blk)) (nx' : Nat) (φ' : Ph) (F' : Fz) (w' : World) : Prop where
  sub : ∀ id x, φ id = some x → φ' id = some x
  old : ∀ id, id < nx → φ' id = φ id
  ext : Ext k W φ F w φ' F' w'
  val : VRel φ' F' w' d v
  mem : MR φ' F' w' hp' nx'
  le : nx ≤ nx'

theorem Post.quiet (hm : MR φ F w hp nx) (k : Nat) {d : D} {v : Value} (hr : VRel φ F w d v) : Post k W φ F w nx d v hp nx φ F w :=
  ⟨fun _ _ h => h, fun _ _ => rfl, Ext.refl _ _ _ _ _, hr, hm, Nat.le_refl _⟩
theorem Post.lk {F' : Fz} {hp' : List (Nat × Blk)} (h : Lk W φ F w hp' nx F') (k : Nat) {d : D} {v : Value} (hr : VRel φ F' w d v) : Post k W φ F w nx d v hp' nx φ F' w :=
  ⟨fun _ _ h => h, fun _ _ => rfl, h.2.2 k, hr, h.1, Nat.le_refl _⟩

/-- A new block. -/
theorem Post.new (hm : MR φ F w hp nx) {k : Nat} (hk : k ≤ nx) {w' : World} (hb : Below w.heap.size w w') {b0 c z : Nat} (h0 : w.heap.size ≤ b0) {B : Blk} (hB : BRel (upd φ nx (b0, c, z)) F w' B b0 c z) {d : D} {v : Value}
    (hr : VRel (upd φ nx (b0, c, z)) F w' d v) : Post k W φ F w nx d v ((nx, B) :: hp) (nx + 1) (upd φ nx (b0, c, z)) F w' :=
  ⟨fun _ _ h => upd_sub (hm.fresh nx (Nat.le_refl _)) h, fun _ h => upd_other (by omega), hm.ext_new hb hk h0, hr, hm.new hb h0 hB, by omega⟩

theorem below_alloc (w : World) (o : Obj) : Below w.heap.size w (w.alloc o) := (Below.refl _ _).alloc (Nat.le_refl _) o
theorem alloc_row (w : World) (cs : Array Value) (t : TypeId) : (w.alloc (.cells cs t)).heap[w.heap.size]? = some (.cells cs t (0, 0)) := by
  show (w.heap.push (.cells cs t))[w.heap.size]? = _
  simp

theorem newVar_post (hm : MR φ F w hp nx) {k : Nat} (hk : k ≤ nx) {cs : List D} {vs : List Value} (hl : LRel (VRel φ F w) cs vs) (h1 : ∀ v ∈ vs, one v = true) (t : TypeId) :
    Post k W φ F w nx (.p nx 0 0) (.pointer (some ⟨w.heap.size, 0, none⟩)) ((nx, ⟨[cs], false, 0, allPure cs, none⟩) :: hp) (nx + 1) (upd φ nx (w.heap.size, 0, 0)) F (w.alloc (.cells vs.toArray t)) := by
  have hb := below_alloc w (.cells vs.toArray t)
  refine Post.new hm hk hb (Nat.le_refl _) ?_ ?_
  · refine ⟨⟨vs.toArray, t, alloc_row w _ t, (fun h => by cases h)⟩, ?_, (fun h => by cases h), (fun h => by cases h), (fun h => by cases h), (fun k h => by cases h), (fun _ => by simp), ?_⟩
    · intro i e j d he hd
      cases i with
      | succ i => simp at he
      | zero =>
        simp at he; subst he
        obtain ⟨v, hv, hr⟩ := hl.get hd
        refine ⟨v, ?_, h1 v (List.mem_of_getElem? hv), hr.mono (fun _ _ h => upd_sub (hm.fresh nx (Nat.le_refl _)) h) (fun _ _ h => h) (hm.cells_of hb)⟩
        rw [cellAt_row (alloc_row w _ t)]
        simpa using hv
    · intro hp i e j d he hd
      cases i with
      | succ i => simp at he
      | zero =>
        simp at he; subst he
        simp only at hp
        clear hl
        induction cs generalizing j with
        | nil => simp at hd
        | cons c cs ih =>
          simp only [allPure, Bool.and_eq_true] at hp
          cases j with
          | zero => simp at hd; subst hd; exact hp.1
          | succ j => simp at hd; exact ih hp.2 j hd
  · have := VRel.p (φ := upd φ nx (w.heap.size, 0, 0)) (F := F) (w := w.alloc (.cells vs.toArray t)) nx 0 0 _ _ _ (upd_same _ _ _)
    simpa using this

theorem load_rel {t : TypeId} {n : Nat} {cs : List D} {d : D} (hs : sz P t = some n) (h : loadD (agg P t) n cs = some d) {ad : Addr}
    (hc : ∀ (j : Nat) (d : D), cs[j]? = some d → ∃ v, w.cell? (ad.add j) = some v ∧ one v = true ∧ VRel φ F w d v) : ∃ v, (Instr.loadAt t (.pointer (some ad))).run P w = .ok v w ∧ VRel φ F w d v := by
  obtain ⟨dd, hu⟩ := sz_under hs
  simp only [Instr.loadAt, Instr.sureAddr, pure_bind, loadVar, Sem.run_bind, agg_run hu, Result.andThen_ok]
  cases hag : agg P t with
  | true =>
    simp only [hag, loadD] at h
    split at h
    · rename_i hle
      simp at h; subst h
      have hex : ∃ vs : List Value, LRel (VRel φ F w) (cs.take n) vs ∧ (∀ v ∈ vs, one v = true) ∧ ∀ (j : Nat) (v : Value), vs[j]? = some v → w.cell? (ad.add j) = some v := by
        clear hag hu hs
        generalize hk : cs.take n = ds
        have hd : ∀ (j : Nat) (d : D), ds[j]? = some d → ∃ v, w.cell? (ad.add j) = some v ∧ one v = true ∧ VRel φ F w d v := by
          intro j d h
          rw [← hk, List.getElem?_take] at h
          split at h
          · exact hc j d h
          · cases h
        clear hk hc hle
        have gen : ∀ (ds : List D) (k : Nat), (∀ (j : Nat) (d : D), ds[j]? = some d → ∃ v, w.cell? (ad.add (k + j)) = some v ∧ one v = true ∧ VRel φ F w d v) →
            ∃ vs : List Value, LRel (VRel φ F w) ds vs ∧ (∀ v ∈ vs, one v = true) ∧ ∀ (j : Nat) (v : Value), vs[j]? = some v → w.cell? (ad.add (k + j)) = some v := by
          intro ds
          induction ds with
          | nil => intro k _; exact ⟨[], .nil, fun v h => by simp at h, fun j v h => by simp at h⟩
          | cons d ds ih =>
            intro k hd
            obtain ⟨v, h1, h2, h3⟩ := hd 0 d rfl
            obtain ⟨vs, g1, g2, g3⟩ := ih (k + 1) (fun j d h => by
              obtain ⟨v, q1, q2, q3⟩ := hd (j + 1) d (by simpa using h)
              exact ⟨v, by rw [← q1]; congr 2; omega, q2, q3⟩)
            refine ⟨v :: vs, .cons h3 g1, fun u hu => by
              rcases List.mem_cons.1 hu with rfl | hu
              · exact h2
              · exact g2 u hu, fun j u hu => ?_⟩
            cases j with
            | zero => simp at hu; subst hu; simpa using h1
            | succ j =>
              simp at hu
              rw [← g3 j u hu]; congr 2; omega
        have := gen ds 0 (fun j d h => by simpa using hd j d h)
        simpa using this
      obtain ⟨vs, hl, h1, hv⟩ := hex
      have hlen : vs.length = n := by rw [hl.1, List.length_take]; omega
      have := run_loadCells_list (P := P) w ad vs hv
      rw [hlen] at this
      simp only [if_true, Sem.run_bind, sz_run hs, Result.andThen_ok, this, Sem.run_pure]
      exact ⟨_, rfl, vrel_g h1 hl⟩
    · cases h
  | false =>
    simp only [hag, loadD] at h
    cases cs with
    | nil => simp at h
    | cons c rest =>
      simp at h; subst h
      obtain ⟨v, h1, h2, h3⟩ := hc 0 c rfl
      have h1' : w.cell? ad = some v := by simpa [Addr.add] using h1
      refine ⟨v, ?_, h3⟩
      simp [run_load, h1']

theorem memAt_rel (hm : MR φ F w hp nx) {x : D} {cs : List D} (h : memAt hp x = some cs) {v : Value} (hr : VRel φ F w x v) :
    ∃ ad : Addr, v = .pointer (some ad) ∧ ∀ (j : Nat) (d : D), cs[j]? = some d → ∃ u, w.cell? (ad.add j) = some u ∧ one u = true ∧ VRel φ F w d u := by
  cases x with
  | q cs' =>
    simp [memAt] at h; subst h
    have := vrel_q_inv hr
    cases this with
    | q cs ad vs hsp hF hw h1 hrr =>
      refine ⟨ad, rfl, fun j d hd => ⟨vs j, ?_, h1 j d hd, .pure (hrr j d hd)⟩⟩
      rw [add_none (hsp (fun e => by subst e; simp at hd))]
      exact hw j d hd
  | p id i off =>
    simp only [memAt] at h
    split at h
    · rename_i hlt
      split at h
      · rename_i e he
        simp at h; subst h
        obtain ⟨b, c, z, hid, rfl⟩ := vrel_p_inv hr
        refine ⟨_, rfl, fun j d hd => ?_⟩
        rw [List.getElem?_drop] at hd
        obtain ⟨u, h1, h2, h3⟩ := (hm.blk id b c z hid hlt).cell i e (off + j) d he hd
        refine ⟨u, ?_, h2, h3⟩
        rw [add_field, Nat.add_assoc]; exact h1
      · cases h
    · cases h
  | _ => simp [memAt] at h

end
end Vm
end Go.Proofs.YtffgjmfkkfinlaaGreat

/-
  Operations on memory: what is written.
-/
namespace Go.Proofs.YtffgjmfkkfinlaaGreat
namespace Vm
open Go Go.RowKit

section
variable {P : Program} {W : Nat → Prop} {φ : Ph} {F : Fz} {w : World} {hp : List (Nat × Blk)} {nx : Nat}

/-- A block's cells with some of them written. -/
def wrote (cur : Array Value) (o : Nat) (vs : List Value) : Array Value := (cur.toList.take o ++ vs ++ cur.toList.drop (o + vs.length)).toArray

theorem wrote_size {cur : Array Value} {o : Nat} {vs : List Value} (h : o + vs.length ≤ cur.size) : (wrote cur o vs).size = cur.size := by
  simp [wrote]; omega

theorem wrote_get {cur : Array Value} {o : Nat} {vs : List Value} (h : o + vs.length ≤ cur.size) (x : Nat) :
    (wrote cur o vs)[x]? = if x < o then cur[x]? else if x < o + vs.length then vs[x - o]? else cur[x]? := by
  have hl : (cur.toList.take o).length = o := by rw [List.length_take]; simp; omega
  simp only [wrote, List.getElem?_toArray]
  rw [List.getElem?_append, List.getElem?_append, List.length_append, hl, List.getElem?_take, List.getElem?_drop]
  by_cases h1 : x < o
  · have : x < o + vs.length := by omega
    simp [h1, this]
  · by_cases h2 : x < o + vs.length
    · simp [h1, h2]
    · have e : o + vs.length + (x - (o + vs.length)) = x := by omega
      simp [h1, h2, e]

theorem wrote_in {w : World} {b : Nat} {cur : Array Value} {te : TypeId} (hcur : w.heap[b]? = some (.cells cur te (0, 0))) {o : Nat} {vs : List Value} (h : o + vs.length ≤ cur.size) {m : Nat} (hm : m < vs.length) :
    cellAt (w.setRow b (wrote cur o vs)) b (o + m) = vs[m]? := by
  rw [cellAt_row (setRow_same w b _ cur te (0, 0) hcur), wrote_get h, if_neg (by omega), if_pos (by omega)]
  congr 1; omega
theorem wrote_out {w : World} {b : Nat} {cur : Array Value} {te : TypeId} (hcur : w.heap[b]? = some (.cells cur te (0, 0))) {o : Nat} {vs : List Value} (h : o + vs.length ≤ cur.size) {x : Nat} (hx : x < o ∨ o + vs.length ≤ x) :
    cellAt (w.setRow b (wrote cur o vs)) b x = cellAt w b x := by
  rw [cellAt_row (setRow_same w b _ cur te (0, 0) hcur), wrote_get h, cellAt_row hcur]
  rcases hx with hx | hx
  · rw [if_pos hx]
  · rw [if_neg (by omega), if_neg (by omega)]

/-- A write where nothing lies that must not be written. -/
theorem wrote_cells {w : World} {b : Nat} {cur : Array Value} {te : TypeId} (hcur : w.heap[b]? = some (.cells cur te (0, 0))) {o : Nat} {vs : List Value} (h : o + vs.length ≤ cur.size)
    (hF : ∀ x, o ≤ x → x < o + vs.length → ¬ F b x) : ∀ b' x, F b' x → cellAt (w.setRow b (wrote cur o vs)) b' x = cellAt w b' x := by
  intro b' x hf
  by_cases e : b' = b
  · subst e
    refine wrote_out hcur h ?_
    rcases Nat.lt_or_ge x o with h1 | h1
    · exact .inl h1
    · rcases Nat.lt_or_ge x (o + vs.length) with h2 | h2
      · exact absurd hf (hF x h1 h2)
      · exact .inr h2
  · exact cellAt_block (setRow_other w b _ b' e) x

/-- The block behind a write. -/
theorem BRel.write {B B' : Blk} {b c z : Nat} (hB : BRel φ F w B b c z) {cur : Array Value} {te : TypeId} (hcur : w.heap[b]? = some (.cells cur te (0, 0))) {o : Nat} {ds : List D} {vs : List Value} (hr : LRel (VRel φ F w) ds vs)
    (h1 : ∀ v ∈ vs, one v = true) (hle : o + vs.length ≤ cur.size) (hF : ∀ x, o ≤ x → x < o + vs.length → ¬ F b x) {φ' : Ph} (hφ : ∀ id x, φ id = some x → φ' id = some x)
    (hcell : ∀ (i : Nat) (e : List D) (j : Nat) (d : D), B'.es[i]? = some e → e[j]? = some d → (∃ m, i * z + j = o + m ∧ ds[m]? = some d) ∨ (∃ e', B.es[i]? = some e' ∧ e'[j]? = some d ∧ (i * z + j < o ∨ o + ds.length ≤ i * z + j)))
    (harr : B'.arr = B.arr) (hlen : B'.arr = true → ∀ (i : Nat) (e : List D), B'.es[i]? = some e → e.length = z) (hlc : B'.arr = true → B'.es.length ≤ c) (hcap : ∀ k, B'.cap = some k → c = k)
    (hsi : B'.arr = false → B'.es.length ≤ 1) (hpu : B'.pu = true → ∀ (i : Nat) (e : List D) (j : Nat) (d : D), B'.es[i]? = some e → e[j]? = some d → isPure d = true) :
    BRel φ' F (w.setRow b (wrote cur o vs)) B' b c z where
  heap := by
    obtain ⟨cs, ty, h, h2⟩ := hB.heap
    rw [hcur] at h; simp at h; obtain ⟨rfl, rfl⟩ := h
    exact ⟨_, te, setRow_same w b _ cur te (0, 0) hcur, fun ha => by rw [wrote_size hle]; exact h2 (harr ▸ ha)⟩
  cell := fun i e j d he hd => by
    have hc := wrote_cells (F := F) hcur hle hF
    rcases hcell i e j d he hd with ⟨m, hm, hdm⟩ | ⟨e', he', hd', hx⟩
    · obtain ⟨v, hv, hrv⟩ := hr.get hdm
      have hml : m < vs.length := by
        rcases Nat.lt_or_ge m vs.length with h | h
        · exact h
        · simp [List.getElem?_eq_none h] at hv
      exact ⟨v, by rw [hm, wrote_in hcur hle hml]; exact hv, h1 v (List.mem_of_getElem? hv), hrv.mono hφ (fun _ _ h => h) hc⟩
    · obtain ⟨v, hv, hv1, hrv⟩ := hB.cell i e' j d he' hd'
      exact ⟨v, by rw [wrote_out hcur hle (by rw [hr.1]; exact hx)]; exact hv, hv1, hrv.mono hφ (fun _ _ h => h) hc⟩
  len := hlen
  le := hlc
  pos := fun ha => hB.pos (harr ▸ ha)
  cap := hcap
  single := hsi
  pu := hpu

theorem MR.set (hm : MR φ F w hp nx) {id b c z : Nat} (hid : φ id = some (b, c, z)) (hW : W id) (hmd : (rdH hp id).md = 0) {B' : Blk} (hB'm : B'.md = 0) {cs' : Array Value}
    (hB' : BRel φ F (w.setRow b cs') B' b c z) (k : Nat) : MR φ F (w.setRow b cs') ((id, B') :: hp) nx ∧ Ext k W φ F w φ F (w.setRow b cs') := by
  have hF : ∀ o, ¬ F b o := hm.rw id b c z hid hmd
  have hc : ∀ b' x, F b' x → cellAt (w.setRow b cs') b' x = cellAt w b' x := fun b' x hf => cellAt_block (setRow_other w b _ b' (fun e => by subst e; exact hF x hf)) x
  refine ⟨⟨?_, ?_, ?_, ?_, hm.fresh, fun b o h => by rw [setRow_size]; exact hm.Fb b o h, fun i b c z h => by rw [setRow_size]; exact hm.pb i b c z h⟩,
    ⟨rfl, rfl, rfl, by rw [setRow_size]; exact Nat.le_refl _, fun _ _ => rfl, fun i b c z h => .inr ⟨i, c, z, h, fun x => x⟩, fun _ _ h => h, hc, fun b' _ hn => setRow_other w b _ b' (fun e => by subst e; exact hn id c z hid hW), fun _ _ h => .inl h⟩⟩
  · intro i b' c' z' hi hl
    by_cases e : i = id
    · subst e
      rw [hi] at hid; simp at hid; obtain ⟨rfl, rfl, rfl⟩ := hid
      rw [rdH_cons_same]; exact hB'
    · rw [rdH_cons_other B' hp (fun x => e x.symm)] at hl ⊢
      have hne : b' ≠ b := fun hb => by
        subst hb
        exact e (hm.inj i id _ _ _ _ _ hi hid hl (by omega))
      exact (hm.blk i b' c' z' hi hl).keep (setRow_other w b _ b' hne) (fun _ _ h => h) (fun _ _ h => h) hc
  · intro i b' c' z' hi hl
    by_cases e : i = id
    · subst e
      rw [hi] at hid; simp at hid; obtain ⟨rfl, rfl, rfl⟩ := hid
      exact hF
    · rw [rdH_cons_other B' hp (fun x => e x.symm)] at hl
      exact hm.rw i b' c' z' hi hl
  · intro i b' c' z' hi hl ha o ho
    by_cases e : i = id
    · subst e
      rw [hi] at hid; simp at hid; obtain ⟨rfl, rfl, rfl⟩ := hid
      exact hF o
    · rw [rdH_cons_other B' hp (fun x => e x.symm)] at hl ha ho
      exact hm.tip i b' c' z' hi hl ha o ho
  · intro i j b' c1 z1 c2 z2 h1 h2 l1 l2
    refine hm.inj i j b' c1 z1 c2 z2 h1 h2 ?_ ?_
    · by_cases e : i = id
      · subst e; omega
      · rw [rdH_cons_other B' hp (fun x => e x.symm)] at l1; exact l1
    · by_cases e : j = id
      · subst e; omega
      · rw [rdH_cons_other B' hp (fun x => e x.symm)] at l2; exact l2

theorem sizesOk_get {n : Nat} : ∀ {es : List (List D)} (_ : sizesOk n es = true) (i : Nat) (e : List D), es[i]? = some e → e.length = n
  | [], _, i, e, h => by simp at h
  | x :: es, hs, i, e, h => by
    simp only [sizesOk, Bool.and_eq_true, beq_iff_eq] at hs
    cases i with
    | zero => simp at h; subst h; exact hs.1
    | succ i => simp at h; exact sizesOk_get hs.2 i e h

theorem flat_len {n : Nat} : ∀ {es : List (List D)} (_ : sizesOk n es = true), es.flatten.length = es.length * n
  | [], _ => by simp
  | x :: es, hs => by
    simp only [sizesOk, Bool.and_eq_true, beq_iff_eq] at hs
    simp [flat_len hs.2, hs.1, Nat.add_mul, Nat.add_comm]

theorem flat_get {n : Nat} : ∀ {es : List (List D)} (_ : sizesOk n es = true) (i : Nat) (e : List D) (j : Nat) (d : D), es[i]? = some e → e[j]? = some d → es.flatten[i * n + j]? = some d
  | [], _, i, e, j, d, h, _ => by simp at h
  | x :: es, hs, i, e, j, d, h, hd => by
    simp only [sizesOk, Bool.and_eq_true, beq_iff_eq] at hs
    cases i with
    | zero =>
      simp at h; subst h
      have hj : j < x.length := by
        rcases Nat.lt_or_ge j x.length with h | h
        · exact h
        · simp [List.getElem?_eq_none h] at hd
      simp only [List.flatten_cons, Nat.zero_mul, Nat.zero_add]
      rw [List.getElem?_append_left hj]; exact hd
    | succ i =>
      simp at h
      have := flat_get hs.2 i e j d h hd
      simp only [List.flatten_cons]
      rw [List.getElem?_append_right (by rw [hs.1, Nat.add_mul]; omega)]
      rw [← this]
      congr 1
      rw [hs.1, Nat.add_mul]; omega

end
end Vm
end Go.Proofs.YtffgjmfkkfinlaaGreat

/-
  Operations on memory: a store, what is appended or copied, an append, a copy.
-/
namespace Go.Proofs.YtffgjmfkkfinlaaGreat
namespace Vm
open Go Go.RowKit

section
variable {P : Program} {W : Nat → Prop} {φ : Ph} {F : Fz} {w : World} {hp : List (Nat × Blk)} {nx : Nat}

theorem flat_inv {n : Nat} : ∀ {es : List (List D)} (_ : sizesOk n es = true) (k : Nat) (d : D), es.flatten[k]? = some d → ∃ i e j, es[i]? = some e ∧ e[j]? = some d ∧ k = i * n + j
  | [], _, k, d, h => by simp at h
  | x :: es, hs, k, d, h => by
    simp only [sizesOk, Bool.and_eq_true, beq_iff_eq] at hs
    simp only [List.flatten_cons] at h
    by_cases hk : k < x.length
    · rw [List.getElem?_append_left hk] at h
      exact ⟨0, x, k, rfl, h, by simp⟩
    · rw [List.getElem?_append_right (by omega)] at h
      obtain ⟨i, e, j, h1, h2, h3⟩ := flat_inv hs.2 _ d h
      refine ⟨i + 1, e, j, by simpa using h1, h2, ?_⟩
      rw [hs.1] at h3 hk
      rw [Nat.add_mul]; omega

theorem cell_of_heap {w w1 : World} (h : w1.heap = w.heap) (a : Addr) : w1.cell? a = w.cell? a := by simp [World.cell?, h]

theorem vals_of {w : World} {ad : Addr} : ∀ {ds : List D} (k : Nat), (∀ (j : Nat) (d : D), ds[j]? = some d → ∃ v, w.cell? (ad.add (k + j)) = some v ∧ one v = true ∧ VRel φ F w d v) →
    ∃ vs : List Value, LRel (VRel φ F w) ds vs ∧ (∀ v ∈ vs, one v = true) ∧ ∀ (j : Nat) (v : Value), vs[j]? = some v → w.cell? (ad.add (k + j)) = some v
  | [], k, _ => ⟨[], .nil, fun v h => by simp at h, fun j v h => by simp at h⟩
  | d :: ds, k, hd => by
    obtain ⟨v, h1, h2, h3⟩ := hd 0 d rfl
    obtain ⟨vs, g1, g2, g3⟩ := vals_of (ds := ds) (k + 1) (fun j d h => by
      obtain ⟨v, q1, q2, q3⟩ := hd (j + 1) d (by simpa using h)
      exact ⟨v, by rw [← q1]; congr 2; omega, q2, q3⟩)
    refine ⟨v :: vs, .cons h3 g1, fun u hu => by
      rcases List.mem_cons.1 hu with rfl | hu
      · exact h2
      · exact g2 u hu, fun j u hu => ?_⟩
    cases j with
    | zero => simp at hu; subst hu; simpa using h1
    | succ j =>
      simp at hu
      rw [← g3 j u hu]; congr 2; omega

/-- What is appended or copied, as the model reads it. -/
def SrcOk (P : Program) (φ : Ph) (F : Fz) (w : World) (n : Nat) (es : List (List D)) (v : Value) : Prop :=
  ∃ news : List Value, LRel (VRel φ F w) es.flatten news ∧ (∀ u ∈ news, one u = true) ∧ (∀ (i : Nat) (e : List D) (j : Nat) (d : D), es[i]? = some e → e[j]? = some d → isPure d = true) ∧ (∀ w1, (Builtin.lenOf v).run P w1 = .ok es.length w1) ∧
      ∀ m w1, m ≤ es.length → w1.heap = w.heap → (Builtin.firstCells n m v).run P w1 = .ok (news.take (m * n)).toArray w1

theorem src_rel {n : Nat} (hm : MR φ F w hp nx) {y : D} {es : List (List D)} (h : peek hp y = some es) (hs : sizesOk n es = true) {v : Value} (hr : VRel φ F w y v) : SrcOk P φ F w n es v := by
  have fin : ∀ (ad : Addr) (k c : Nat), (∀ (j : Nat) (d : D), es.flatten[j]? = some d → ∃ v, w.cell? (ad.add j) = some v ∧ one v = true ∧ VRel φ F w d v) → v = .slice (some ad) es.length c →
      (∀ (i : Nat) (e : List D) (j : Nat) (d : D), es[i]? = some e → e[j]? = some d → isPure d = true) → SrcOk P φ F w n es v := fun ad k c hc hv hpure => by
    obtain ⟨vs, h1, h2, h3⟩ := vals_of (ds := es.flatten) 0 (fun j d h => by simpa using hc j d h)
    refine ⟨vs, h1, h2, hpure, fun w1 => by rw [hv]; rfl, fun m w1 hle hw => ?_⟩
    rw [hv]
    have hlen : (vs.take (m * n)).length = m * n := by
      rw [List.length_take, h1.1, flat_len hs]
      exact Nat.min_eq_left (Nat.mul_le_mul_right _ hle)
    exact run_firstCells_some (P := P) w1 n m ad es.length c (vs.take (m * n)) hlen (fun j u hu => by
      rw [cell_of_heap hw]
      rw [List.getElem?_take] at hu
      split at hu
      · simpa using h3 j u hu
      · cases hu)
  unfold peek at h
  split at h
  · simp at h; subst h
    have := vrel_s_inv hr
    subst this
    exact ⟨[], .nil, fun u h => by simp at h, fun i e j d h => by simp at h, fun w1 => rfl, fun m w1 hle _ => by
      have : m = 0 := by simpa using hle
      subst this
      simp [Builtin.firstCells]⟩
  · rename_i cap es'
    simp at h; subst h
    have := vrel_l_inv hr
    cases this with
    | l cap es ad c z vs hle hcap hz hsp hF hw h1 hrr =>
      refine fin ad 0 c (fun k d hk => ?_) rfl (fun i e j d he hd => ?_)
      · obtain ⟨i, e, j, he, hd, rfl⟩ := flat_inv hs k d hk
        have hzn : z = n := by rw [← hz i e he]; exact sizesOk_get hs i e he
        subst hzn
        refine ⟨vs i j, ?_, h1 i e j d he hd, .pure (hrr i e j d he hd)⟩
        rw [add_none (hsp (fun x => by subst x; simp at he))]
        exact hw i e j d he hd
      · have := hrr i e j d he hd
        cases d <;> first | rfl | cases this
  · rename_i id lo k z
    dsimp only at h
    split at h
    · rename_i hc
      obtain ⟨ha, hpu, hmd, hle⟩ := hc
      simp at h; subst h
      obtain ⟨b, c, ad, hid, hn, had, rfl⟩ := vrel_a_inv hr
      have hB := hm.blk id b c z hid hmd
      have hlen : (((rdH hp id).es.drop lo).take k).length = k := by rw [List.length_take, List.length_drop]; omega
      have get : ∀ (i : Nat) (e : List D), (((rdH hp id).es.drop lo).take k)[i]? = some e → i < k ∧ (rdH hp id).es[lo + i]? = some e := by
        intro i e h
        rw [List.getElem?_take] at h
        split at h
        · rename_i hi; rw [List.getElem?_drop] at h; exact ⟨hi, h⟩
        · cases h
      refine fin ad 0 (c - lo) (fun x d hk => ?_) (by rw [hlen]) (fun i e j d he hd => hB.pu hpu _ e j d (get i e he).2 hd)
      obtain ⟨i, e, j, he, hd, rfl⟩ := flat_inv hs x d hk
      obtain ⟨hi, he'⟩ := get i e he
      have hzn : z = n := by rw [← hB.len ha _ e he']; exact sizesOk_get hs i e he
      subst hzn
      have hle2 := hB.le ha
      have hadd := had (by omega)
      subst hadd
      obtain ⟨u, h1, h2, h3⟩ := hB.cell _ e j d he' hd
      refine ⟨u, ?_, h2, h3⟩
      rw [add_field]
      rw [← h1]
      show w.cell? _ = w.cell? _
      congr 2
      rw [Nat.add_mul]; omega
    · cases h
  · cases h

/-- Memory for a write into elements of a slice's block. -/
theorem elems_write {B : Blk} {b c z : Nat} (hB : BRel φ F w B b c z) (ha : B.arr = true) : ∃ cur te, w.heap[b]? = some (.cells cur te (0, 0)) ∧ c * z ≤ cur.size := by
  obtain ⟨cs, ty, h, h2⟩ := hB.heap
  exact ⟨cs, ty, h, h2 ha⟩

/-- Elements that are written over others, from one on. -/
theorem over_cell {es new : List (List D)} {lo z : Nat} (hs : sizesOk z new = true) (hle : lo + new.length ≤ es.length) {i : Nat} {e : List D} {j : Nat} {d : D}
    (hz : ∀ (i : Nat) (e : List D), es[i]? = some e → e.length = z) (he : (es.take lo ++ new ++ es.drop (lo + new.length))[i]? = some e) (hd : e[j]? = some d) :
    (∃ m, i * z + j = lo * z + m ∧ new.flatten[m]? = some d) ∨ (∃ e', es[i]? = some e' ∧ e'[j]? = some d ∧ (i * z + j < lo * z ∨ lo * z + new.flatten.length ≤ i * z + j)) := by
  have hl : (es.take lo).length = lo := by rw [List.length_take]; omega
  have jlt : ∀ {e : List D}, e.length = z → e[j]? = some d → j < z := by
    intro e he hd
    rcases Nat.lt_or_ge j e.length with h | h
    · omega
    · simp [List.getElem?_eq_none h] at hd
  rw [List.getElem?_append, List.getElem?_append, List.length_append, hl] at he
  by_cases h1 : i < lo
  · have h2 : i < lo + new.length := by omega
    simp only [h1, h2, if_true] at he
    rw [List.getElem?_take, if_pos h1] at he
    refine .inr ⟨e, he, hd, .inl ?_⟩
    have hj := jlt (hz i e he) hd
    have : (i + 1) * z ≤ lo * z := Nat.mul_le_mul_right _ h1
    rw [Nat.add_mul] at this; omega
  · by_cases h2 : i < lo + new.length
    · simp only [h1, h2, if_true, if_false] at he
      refine .inl ⟨(i - lo) * z + j, ?_, flat_get hs _ e j d he hd⟩
      have : i * z = lo * z + (i - lo) * z := by rw [← Nat.add_mul]; congr 1; omega
      omega
    · simp only [h2, if_false] at he
      rw [List.getElem?_drop] at he
      have hi : lo + new.length + (i - (lo + new.length)) = i := by omega
      rw [hi] at he
      refine .inr ⟨e, he, hd, .inr ?_⟩
      rw [flat_len hs, ← Nat.add_mul]
      have : (lo + new.length) * z ≤ i * z := Nat.mul_le_mul_right _ (by omega)
      omega

theorem over_get {es new : List (List D)} {lo : Nat} {p : List D → Prop} (hn : ∀ (i : Nat) (e : List D), new[i]? = some e → p e) (hz : ∀ (i : Nat) (e : List D), es[i]? = some e → p e) {k : Nat} {i : Nat} {e : List D}
    (he : (es.take lo ++ new ++ es.drop k)[i]? = some e) : p e := by
  have hmem := List.mem_of_getElem? he
  simp only [List.mem_append] at hmem
  rcases hmem with (h | h) | h
  · obtain ⟨j, hj⟩ := List.getElem?_of_mem (List.mem_of_mem_take h); exact hz j e hj
  · obtain ⟨j, hj⟩ := List.getElem?_of_mem h; exact hn j e hj
  · obtain ⟨j, hj⟩ := List.getElem?_of_mem (List.mem_of_mem_drop h); exact hz j e hj

/-- A write over elements: the memories behind it. -/
theorem over_post (hm : MR φ F w hp nx) {id b c z : Nat} (hid : φ id = some (b, c, z)) (hW : W id) (hmd : (rdH hp id).md = 0) (ha : (rdH hp id).arr = true) {new : List (List D)} {lo : Nat} (hs : sizesOk z new = true)
    (hle : lo + new.length ≤ (rdH hp id).es.length) {news : List Value} (hr : LRel (VRel φ F w) new.flatten news) (h1 : ∀ u ∈ news, one u = true)
    (hpure : ∀ (i : Nat) (e : List D) (j : Nat) (d : D), new[i]? = some e → e[j]? = some d → isPure d = true) (k : Nat) :
    ∃ cur te, w.heap[b]? = some (.cells cur te (0, 0)) ∧ lo * z + news.length ≤ cur.size ∧
      MR φ F (w.setRow b (wrote cur (lo * z) news)) ((id, { rdH hp id with es := (rdH hp id).es.take lo ++ new ++ (rdH hp id).es.drop (lo + new.length) }) :: hp) nx ∧ Ext k W φ F w φ F (w.setRow b (wrote cur (lo * z) news)) := by
  have hB := hm.blk id b c z hid (by omega)
  obtain ⟨cur, te, hcur, hsz⟩ := elems_write hB ha
  have hlen : news.length = new.length * z := by rw [hr.1, flat_len hs]
  have hfit : lo * z + news.length ≤ cur.size := by
    rw [hlen, ← Nat.add_mul]
    have h1 : (lo + new.length) * z ≤ c * z := Nat.mul_le_mul_right _ (Nat.le_trans hle (hB.le ha))
    omega
  refine ⟨cur, te, hcur, hfit, hm.set (B' := { rdH hp id with es := (rdH hp id).es.take lo ++ new ++ (rdH hp id).es.drop (lo + new.length) }) hid hW hmd hmd ?_ k⟩
  have hl2 : ((rdH hp id).es.take lo ++ new ++ (rdH hp id).es.drop (lo + new.length)).length = (rdH hp id).es.length := by
    simp; omega
  refine hB.write hcur hr h1 hfit (fun x _ _ => hm.rw id b c z hid hmd x) (fun _ _ h => h) ?_ rfl ?_ ?_ hB.cap ?_ ?_
  · intro i e j d he hd
    exact over_cell hs hle (fun i e he => hB.len ha i e he) he hd
  · intro _ i e he
    exact over_get (p := fun e => e.length = z) (fun i e h => sizesOk_get hs i e h) (fun i e h => hB.len ha i e h) he
  · intro _; simp only [hl2]; exact hB.le ha
  · intro h; simp only [ha] at h; cases h
  · intro hp' i e j d he hd
    exact over_get (p := fun e => ∀ (j : Nat) (d : D), e[j]? = some d → isPure d = true) (fun i e h j d hd => hpure i e j d h hd) (fun i e h j d hd => hB.pu hp' i e j d h hd) he j d hd

theorem store_rel (hm : MR φ F w hp nx) {id i off n : Nat} {t : TypeId} (hs : sz P t = some n) {cs : List D} {vy : Value} (hl : LRel (VRel φ F w) cs vy.cells.toList) (h1 : ∀ u ∈ vy.cells.toList, one u = true)
    (hmd : (rdH hp id).md = 0) (hlen : cs.length = n) (hn : 0 < n) (hW : W id) {el : List D} (hel : (rdH hp id).es[i]? = some el) (hle : off + n ≤ el.length) {v : Value} (hr : VRel φ F w (.p id i off) v) (k : Nat) :
    ∃ w', (Instr.storeAt t v vy).run P w = .ok () w' ∧
      MR φ F w' ((id, { rdH hp id with es := (rdH hp id).es.set i (el.take off ++ cs ++ el.drop (off + n)), pu := (rdH hp id).pu && allPure cs }) :: hp) nx ∧ Ext k W φ F w φ F w' := by
  obtain ⟨b, c, z, hid, rfl⟩ := vrel_p_inv hr
  have hB := hm.blk id b c z hid (by omega)
  obtain ⟨cur, te, hcur, _⟩ := hB.heap
  have hvl : vy.cells.toList.length = n := by rw [hl.1, hlen]
  have hlast : off + n - 1 < el.length := by omega
  obtain ⟨u, hu, _, _⟩ := hB.cell i el (off + n - 1) el[off + n - 1] hel (List.getElem?_eq_getElem hlast)
  rw [cellAt_row hcur] at hu
  have hfit : i * z + off + vy.cells.toList.length ≤ cur.size := by
    rw [hvl]
    have : i * z + (off + n - 1) < cur.size := by
      rcases Nat.lt_or_ge (i * z + (off + n - 1)) cur.size with h | h
      · exact h
      · simp [Array.getElem?_eq_none h] at hu
    omega
  have hst := run_storeCells_at (P := P) b (i * z + off) te vy.cells.toList 0 cur w hcur (by simpa using hfit) h1
  simp only [Nat.add_zero] at hst
  refine ⟨w.setRow b (wrote cur (i * z + off) vy.cells.toList), ?_, hm.set (B' := { rdH hp id with es := (rdH hp id).es.set i (el.take off ++ cs ++ el.drop (off + n)), pu := (rdH hp id).pu && allPure cs }) hid hW hmd hmd ?_ k⟩
  · have hsz : vy.cells.size = n := by simpa using hvl
    simp only [Instr.storeAt, Instr.sureAddr, pure_bind, storeVar, Sem.run_bind, sz_run hs, Result.andThen_ok, hsz, ne_eq, not_true, if_false]
    exact hst
  · have hi : i < (rdH hp id).es.length := by
      rcases Nat.lt_or_ge i (rdH hp id).es.length with h | h
      · exact h
      · simp [List.getElem?_eq_none h] at hel
    have hnl : (el.take off ++ cs ++ el.drop (off + n)).length = el.length := by simp [hlen]; omega
    have seti : ∀ (i' : Nat) (e : List D), ((rdH hp id).es.set i (el.take off ++ cs ++ el.drop (off + n)))[i']? = some e → (i' = i ∧ e = el.take off ++ cs ++ el.drop (off + n)) ∨ (i' ≠ i ∧ (rdH hp id).es[i']? = some e) := by
      intro i' e h
      rw [List.getElem?_set] at h
      by_cases e' : i = i'
      · subst e'; simp only [if_true, hi] at h; injection h with h; exact .inl ⟨rfl, h.symm⟩
      · simp [e'] at h; exact .inr ⟨fun x => e' x.symm, h⟩
    have ell : (rdH hp id).arr = true → el.length = z := fun ha => hB.len ha i el hel
    refine hB.write hcur hl h1 hfit (fun x _ _ => hm.rw id b c z hid hmd x) (fun _ _ h => h) ?_ rfl ?_ ?_ hB.cap ?_ ?_
    · intro i' e j d he hd
      rcases seti i' e he with ⟨rfl, rfl⟩ | ⟨hne, he'⟩
      · rw [List.getElem?_append, List.getElem?_append, List.length_append, List.length_take, Nat.min_eq_left (by omega), hlen] at hd
        by_cases h1 : j < off
        · have h2 : j < off + n := by omega
          simp only [h1, h2, if_true] at hd
          rw [List.getElem?_take, if_pos h1] at hd
          exact .inr ⟨el, hel, hd, .inl (by omega)⟩
        · by_cases h2 : j < off + n
          · simp only [h1, h2, if_true, if_false] at hd
            exact .inl ⟨j - off, by omega, hd⟩
          · simp only [h2, if_false] at hd
            rw [List.getElem?_drop] at hd
            have : off + n + (j - (off + n)) = j := by omega
            rw [this] at hd
            exact .inr ⟨el, hel, hd, .inr (by rw [hlen]; omega)⟩
      · refine .inr ⟨e, he', hd, ?_⟩
        cases ha : (rdH hp id).arr with
        | false =>
          have := hB.single ha
          have hi' : i' < (rdH hp id).es.length := by
            rcases Nat.lt_or_ge i' (rdH hp id).es.length with h | h
            · exact h
            · simp [List.getElem?_eq_none h] at he'
          omega
        | true =>
          have hz := ell ha
          have hez := hB.len ha i' e he'
          have hj : j < e.length := by
            rcases Nat.lt_or_ge j e.length with h | h
            · exact h
            · simp [List.getElem?_eq_none h] at hd
          rcases Nat.lt_or_ge i' i with h | h
          · have : (i' + 1) * z ≤ i * z := Nat.mul_le_mul_right _ h
            rw [Nat.add_mul] at this
            left; omega
          · have : (i + 1) * z ≤ i' * z := Nat.mul_le_mul_right _ (by omega)
            rw [Nat.add_mul] at this
            right; rw [hlen]; omega
    · intro ha i' e he
      rcases seti i' e he with ⟨_, rfl⟩ | ⟨_, he'⟩
      · rw [hnl]; exact ell ha
      · exact hB.len ha i' e he'
    · intro ha; simpa using hB.le ha
    · intro ha; simpa using hB.single ha
    · intro hp' i' e j d he hd
      simp only [Bool.and_eq_true] at hp'
      have pureCs : ∀ {cs : List D}, allPure cs = true → ∀ d ∈ cs, isPure d = true := by
        intro cs
        induction cs with
        | nil => intro _ d h; simp at h
        | cons c cs ih =>
          intro h d hd
          simp only [allPure, Bool.and_eq_true] at h
          rcases List.mem_cons.1 hd with rfl | hd
          · exact h.1
          · exact ih h.2 d hd
      rcases seti i' e he with ⟨_, rfl⟩ | ⟨_, he'⟩
      · have hmem := List.mem_of_getElem? hd
        simp only [List.mem_append] at hmem
        have old : ∀ d ∈ el, isPure d = true := fun d hd => by
          obtain ⟨j, hj⟩ := List.getElem?_of_mem hd
          exact hB.pu hp'.1 i el j d hel hj
        rcases hmem with (h | h) | h
        · exact old d (List.mem_of_mem_take h)
        · exact pureCs hp'.2 d h
        · exact old d (List.mem_of_mem_drop h)
      · exact hB.pu hp'.1 i' e j d he' hd

end
end Vm
end Go.Proofs.YtffgjmfkkfinlaaGreat

section
/-
  Operations on memory: an append.
-/
namespace Go.Proofs.YtffgjmfkkfinlaaGreat
namespace Vm
open Go Go.RowKit

section
variable {P : Program} {W : Nat → Prop} {φ : Ph} {F : Fz} {w : World} {hp : List (Nat × Blk)} {nx : Nat}

theorem MR.kill (hm : MR φ F w hp nx) (id : Nat) (B : Blk) (hB : B.md = 2) : MR φ F w ((id, B) :: hp) nx where
  blk := fun i b c z hi hl => by
    by_cases e : i = id
    · subst e; rw [rdH_cons_same] at hl; omega
    · rw [rdH_cons_other B hp (fun x => e x.symm)] at hl ⊢; exact hm.blk i b c z hi hl
  rw := fun i b c z hi hl => by
    by_cases e : i = id
    · subst e; rw [rdH_cons_same] at hl; omega
    · rw [rdH_cons_other B hp (fun x => e x.symm)] at hl; exact hm.rw i b c z hi hl
  tip := fun i b c z hi hl ha o ho => by
    by_cases e : i = id
    · subst e; rw [rdH_cons_same] at hl; omega
    · rw [rdH_cons_other B hp (fun x => e x.symm)] at hl ha ho; exact hm.tip i b c z hi hl ha o ho
  inj := fun i j b c1 z1 c2 z2 h1 h2 l1 l2 => by
    by_cases e : i = id
    · subst e; rw [rdH_cons_same] at l1; omega
    · by_cases e' : j = id
      · subst e'; rw [rdH_cons_same] at l2; omega
      · rw [rdH_cons_other B hp (fun x => e x.symm)] at l1
        rw [rdH_cons_other B hp (fun x => e' x.symm)] at l2
        exact hm.inj i j b c1 z1 c2 z2 h1 h2 l1 l2
  fresh := hm.fresh
  Fb := hm.Fb
  pb := hm.pb

theorem MR.goOn (hm : MR φ F w hp nx) {id b c z : Nat} (hid : φ id = some (b, c, z)) (hW : W id) (hl : (rdH hp id).md < 2) {B' Bd : Blk} (hd : Bd.md = 2) (hB'm : B'.md = (rdH hp id).md) {cs' : Array Value}
    (hB' : BRel (upd φ nx (b, c, z)) F (w.setRow b cs') B' b c z) (hF : ∀ b' x, F b' x → cellAt (w.setRow b cs') b' x = cellAt w b' x) (htip : ∀ o, B'.es.length * z ≤ o → ¬ F b o) {k : Nat} (hk : k ≤ nx) :
    MR (upd φ nx (b, c, z)) F (w.setRow b cs') ((nx, B') :: (id, Bd) :: hp) (nx + 1) ∧ Ext k W φ F w (upd φ nx (b, c, z)) F (w.setRow b cs') := by
  have hne : id ≠ nx := fun e => by subst e; rw [hm.fresh id (Nat.le_refl _)] at hid; cases hid
  have rdo : ∀ i, i ≠ nx → i ≠ id → rdH ((nx, B') :: (id, Bd) :: hp) i = rdH hp i := fun i h1 h2 => by
    rw [rdH_cons_other B' _ (fun x => h1 x.symm), rdH_cons_other Bd _ (fun x => h2 x.symm)]
  have rdn : rdH ((nx, B') :: (id, Bd) :: hp) nx = B' := rdH_cons_same _ _ _
  have rdi : rdH ((nx, B') :: (id, Bd) :: hp) id = Bd := by rw [rdH_cons_other B' _ (fun x => hne x.symm), rdH_cons_same]
  have sub : ∀ i x, φ i = some x → upd φ nx (b, c, z) i = some x := fun i x h => upd_sub (hm.fresh nx (Nat.le_refl _)) h
  refine ⟨⟨?_, ?_, ?_, ?_, ?_, fun b o h => by rw [setRow_size]; exact hm.Fb b o h, ?_⟩,
    ⟨rfl, rfl, rfl, by rw [setRow_size]; exact Nat.le_refl _, fun i hi => upd_other (by omega), ?_, fun _ _ h => h, hF, fun b' _ hn => setRow_other w b _ b' (fun e => by subst e; exact hn id c z hid hW), fun _ _ h => .inl h⟩⟩
  · intro i b' c' z' hi hli
    by_cases e : i = nx
    · subst e; rw [upd_same] at hi; simp at hi; obtain ⟨rfl, rfl, rfl⟩ := hi; rw [rdn]; exact hB'
    · by_cases e2 : i = id
      · subst e2; rw [rdi] at hli; omega
      · rw [upd_other e] at hi
        rw [rdo i e e2] at hli ⊢
        have hnb : b' ≠ b := fun hb => by
          subst hb
          exact e2 (hm.inj i id _ _ _ _ _ hi hid hli hl)
        exact (hm.blk i b' c' z' hi hli).keep (setRow_other w b _ b' hnb) sub (fun _ _ h => h) hF
  · intro i b' c' z' hi hli
    by_cases e : i = nx
    · subst e; rw [upd_same] at hi; simp at hi; obtain ⟨rfl, rfl, rfl⟩ := hi
      rw [rdn, hB'm] at hli
      exact hm.rw id b c z hid hli
    · by_cases e2 : i = id
      · subst e2; rw [rdi] at hli; omega
      · rw [upd_other e] at hi; rw [rdo i e e2] at hli; exact hm.rw i b' c' z' hi hli
  · intro i b' c' z' hi hli ha o ho
    by_cases e : i = nx
    · subst e; rw [upd_same] at hi; simp at hi; obtain ⟨rfl, rfl, rfl⟩ := hi
      rw [rdn] at ho
      exact htip o ho
    · by_cases e2 : i = id
      · subst e2; rw [rdi] at hli; omega
      · rw [upd_other e] at hi; rw [rdo i e e2] at hli ha ho; exact hm.tip i b' c' z' hi hli ha o ho
  · intro i j b' c1 z1 c2 z2 h1 h2 l1 l2
    have key : ∀ i, i ≠ nx → (rdH ((nx, B') :: (id, Bd) :: hp) i).md < 2 → i ≠ id ∧ (rdH hp i).md < 2 := fun i hi hli => by
      by_cases e2 : i = id
      · subst e2; rw [rdi] at hli; omega
      · rw [rdo i hi e2] at hli; exact ⟨e2, hli⟩
    by_cases e : i = nx <;> by_cases e' : j = nx
    · rw [e, e']
    · subst e; rw [upd_same] at h1; simp at h1; obtain ⟨rfl, rfl, rfl⟩ := h1
      rw [upd_other e'] at h2
      obtain ⟨hj, lj⟩ := key j e' l2
      exact absurd (hm.inj j id _ _ _ _ _ h2 hid lj hl) hj
    · subst e'; rw [upd_same] at h2; simp at h2; obtain ⟨rfl, rfl, rfl⟩ := h2
      rw [upd_other e] at h1
      obtain ⟨hi, li⟩ := key i e l1
      exact absurd (hm.inj i id _ _ _ _ _ h1 hid li hl) hi
    · rw [upd_other e] at h1; rw [upd_other e'] at h2
      exact hm.inj i j b' c1 z1 c2 z2 h1 h2 (key i e l1).2 (key j e' l2).2
  · intro i hi; rw [upd_other (by omega)]; exact hm.fresh i (by omega)
  · intro i b' c' z' hi
    rw [setRow_size]
    by_cases e : i = nx
    · subst e; rw [upd_same] at hi; simp at hi; obtain ⟨rfl, rfl, rfl⟩ := hi; exact hm.pb id _ _ _ hid
    · rw [upd_other e] at hi; exact hm.pb i b' c' z' hi
  · intro i b' c' z' hi
    by_cases e : i = nx
    · subst e; rw [upd_same] at hi; simp at hi; obtain ⟨rfl, rfl, rfl⟩ := hi
      exact .inr ⟨id, _, _, hid, fun _ => hW⟩
    · rw [upd_other e] at hi; exact .inr ⟨i, c', z', hi, fun x => x⟩

/-- A new row of elements. -/
theorem newRow_post (hm : MR φ F w hp nx) {k : Nat} (hk : k ≤ nx) {w' : World} (hb : Below w.heap.size w w') {es : List (List D)} {n c : Nat} (hs : sizesOk n es = true) (hn : 0 < n) (hc : es.length ≤ c) {vs : List Value} (hl : LRel (VRel φ F w) es.flatten vs)
    (h1 : ∀ v ∈ vs, one v = true) {cs : Array Value} {te : TypeId} (hrow : w'.heap[w.heap.size]? = some (.cells cs te (0, 0))) (hcs : c * n ≤ cs.size) (hpre : ∀ (i : Nat) (v : Value), vs[i]? = some v → cs[i]? = some v) (md : Nat) (pu : Bool)
    (hpu : pu = true → ∀ (i : Nat) (e : List D) (j : Nat) (d : D), es[i]? = some e → e[j]? = some d → isPure d = true) (cap : Option Nat) (hcap : ∀ k, cap = some k → c = k) :
    Post k W φ F w nx (.a nx 0 es.length n) (.slice (some ⟨w.heap.size, 0, none⟩) es.length c) ((nx, ⟨es, true, md, pu, cap⟩) :: hp) (nx + 1) (upd φ nx (w.heap.size, c, n)) F w' := by
  refine Post.new hm hk hb (Nat.le_refl _) ⟨⟨cs, te, hrow, fun _ => hcs⟩, ?_, fun _ i e h => sizesOk_get hs i e h, fun _ => hc, fun _ => hn, hcap, (fun h => by cases h), hpu⟩ ?_
  · intro i e j d he hd
    obtain ⟨v, hv, hr⟩ := hl.get (flat_get hs i e j d he hd)
    exact ⟨v, by rw [cellAt_row hrow]; exact hpre _ _ hv, h1 v (List.mem_of_getElem? hv), hr.mono (fun _ _ h => upd_sub (hm.fresh nx (Nat.le_refl _)) h) (fun _ _ h => h) (hm.cells_of hb)⟩
  · have := VRel.a (φ := upd φ nx (w.heap.size, c, n)) (F := F) (w := w') nx 0 es.length w.heap.size c n ⟨w.heap.size, 0, none⟩ (upd_same _ _ _) (by omega) (fun _ => by simp)
    simpa using this

theorem sizesOk_append {n : Nat} {a b : List (List D)} (ha : sizesOk n a = true) (hb : sizesOk n b = true) : sizesOk n (a ++ b) = true := by
  induction a with
  | nil => exact hb
  | cons x a ih => simp only [sizesOk, Bool.and_eq_true] at ha; simp only [List.cons_append, sizesOk, Bool.and_eq_true]; exact ⟨ha.1, ih ha.2⟩
theorem sizesOk_of {n : Nat} {a : List (List D)} (h : ∀ (i : Nat) (e : List D), a[i]? = some e → e.length = n) : sizesOk n a = true := by
  induction a with
  | nil => rfl
  | cons x a ih =>
    simp only [sizesOk, Bool.and_eq_true, beq_iff_eq]
    exact ⟨h 0 x rfl, ih fun i e he => h (i + 1) e (by simpa using he)⟩

/-- What an append is asked to append: how the model runs, where it grows and where it fits. -/
structure Src (P : Program) (φ : Ph) (F : Fz) (w : World) (t u ty e : TypeId) (n bytes : Nat) (new : List (List D)) (x : Value) : Prop where
  vals : ∃ news : List Value, LRel (VRel φ F w) new.flatten news ∧ (∀ v ∈ news, one v = true) ∧ (∀ (i : Nat) (e : List D) (j : Nat) (d : D), new[i]? = some e → e[j]? = some d → isPure d = true) ∧
    (∀ (base : Option Addr) (sLen sCap : Nat) (olds : Array Value), (Builtin.firstCells n sLen (.slice base sLen sCap)).run P w.drew = .ok olds w.drew → sCap < sLen + new.length → sLen + new.length ≤ 140737488355328 → (sLen + new.length) * bytes ≤ 140737488355328 →
      ∃ (c : Nat) (rest : Array Value), sLen + new.length ≤ c ∧ c * n = (sLen + new.length) * n + rest.size ∧ (Builtin.append_ #[t, u] ty #[.slice base sLen sCap, x]).run P w = .ok (.slice (some ⟨w.heap.size, 0, none⟩) (sLen + new.length) c) (w.drew.alloc (.cells (olds ++ news.toArray ++ rest) e))) ∧
    (∀ (b off sLen sCap : Nat) (cur : Array Value) (te : TypeId), new ≠ [] → sLen + new.length ≤ sCap → sLen + new.length ≤ 140737488355328 → (sLen + new.length) * bytes ≤ 140737488355328 → w.heap[b]? = some (.cells cur te (0, 0)) → off + sLen * n + news.length ≤ cur.size →
      (Builtin.append_ #[t, u] ty #[.slice (some ⟨b, off, none⟩) sLen sCap, x]).run P w = .ok (.slice (some ⟨b, off, none⟩) (sLen + new.length) sCap) (w.setRow b (wrote cur (off + sLen * n) news))) ∧
    (new = [] → ∀ (base : Option Addr) (sLen sCap : Nat), sLen ≤ sCap → (Builtin.append_ #[t, u] ty #[.slice base sLen sCap, x]).run P w = .ok (.slice base sLen sCap) w)

set_option maxHeartbeats 2000000 in
theorem append_sim {fr : Fr} {t u ty e : TypeId} {n bytes : Nat} (hm : MR φ F w hp nx) (hW : ∀ id, fr.ro = false ∨ fr.k ≤ id → W id) {tm : List (Nat × D)} {x y d : D} {st' : St} {new : List (List D)} (hpk : peek hp y = some new) (hn : 0 < n) {vx vy : Value} (hx : VRel φ F w x vx)
    (hsrc : sizesOk n new = true → Src P φ F w t u ty e n bytes new vy) (h : appendD fr n bytes ⟨tm, hp, nx⟩ x y = some (d, st')) (hk : fr.k ≤ nx) :
    ∃ v w' φ' F', (Builtin.append_ #[t, u] ty #[vx, vy]).run P w = .ok v w' ∧ Post fr.k W φ F w nx d v st'.hp st'.nx φ' F' w' ∧ st'.tm = tm := by
  unfold appendD at h
  simp only [hpk] at h
  split at h
  · rename_i hcond
    simp only [Bool.and_eq_true, decide_eq_true_eq] at hcond
    obtain ⟨⟨hs, hbytes⟩, h47⟩ := hcond
    obtain ⟨news, hl, hone, hpure, hgrow, hfits, hempty⟩ := (hsrc hs).vals
    have hbd : Below w.heap.size w w.drew := (Below.refl _ _).drew
    have grow : ∀ (es : List (List D)) (hp1 : List (Nat × Blk)) (hm1 : MR φ F w hp1 nx) (md : Nat) (pu : Bool) (base : Option Addr) (sCap : Nat) (olds : List Value), sizesOk n es = true → LRel (VRel φ F w) es.flatten olds → (∀ v ∈ olds, one v = true) →
        (pu = true → ∀ (i : Nat) (e : List D) (j : Nat) (d : D), es[i]? = some e → e[j]? = some d → isPure d = true) → (Builtin.firstCells n es.length (.slice base es.length sCap)).run P w.drew = .ok olds.toArray w.drew → sCap < es.length + new.length →
        (es.length + new.length) * bytes ≤ 140737488355328 → es.length + new.length ≤ 140737488355328 → appendD.mk n ⟨tm, hp, nx⟩ hp1 es md pu new = some (d, st') → ∃ v w' φ' F', (Builtin.append_ #[t, u] ty #[.slice base es.length sCap, vy]).run P w = .ok v w' ∧ Post fr.k W φ F w nx d v st'.hp st'.nx φ' F' w' ∧ st'.tm = tm := by
      intro es hp1 hm1 md pu base sCap olds hse hlo holds hpu hfc hlt hb h4 hmk
      obtain ⟨c, rest, h1, h2, h3⟩ := hgrow base es.length sCap olds.toArray hfc hlt h4 hb
      simp only [appendD.mk, Option.some.injEq, Prod.mk.injEq] at hmk
      obtain ⟨rfl, rfl⟩ := hmk
      have hs2 := sizesOk_append hse hs
      have hb2 : Below w.heap.size w (w.drew.alloc (.cells (olds.toArray ++ news.toArray ++ rest) e)) := hbd.alloc (Nat.le_refl _) _
      have hrow : (w.drew.alloc (.cells (olds.toArray ++ news.toArray ++ rest) e)).heap[w.heap.size]? = some (.cells (olds.toArray ++ news.toArray ++ rest) e (0, 0)) := alloc_row w.drew _ e
      have hlen : (olds ++ news).length = (es.length + new.length) * n := by rw [List.length_append, hlo.1, hl.1, flat_len hse, flat_len hs, Nat.add_mul]
      have := newRow_post (W := W) hm1 hk hb2 (es := es ++ new) (n := n) (c := c) hs2 hn (by simpa using h1) (vs := olds ++ news) (by rw [List.flatten_append]; exact hlo.append hl) (fun v hv => by
          rcases List.mem_append.1 hv with h | h
          · exact holds v h
          · exact hone v h) hrow (by
          have : (olds.toArray ++ news.toArray ++ rest).size = (olds ++ news).length + rest.size := by simp
          rw [this, hlen]; omega) (fun i v hv => by
          have hi : i < (olds ++ news).length := by
            rcases Nat.lt_or_ge i (olds ++ news).length with h | h
            · exact h
            · simp [List.getElem?_eq_none h] at hv
          have e1 : olds.toArray ++ news.toArray ++ rest = (olds ++ news ++ rest.toList).toArray := by
            apply Array.ext'; simp
          rw [e1, List.getElem?_toArray, List.getElem?_append_left hi]; exact hv) md pu (fun hp i e' j d he hd => by
          rw [List.getElem?_append] at he
          split at he
          · exact hpu hp i e' j d he hd
          · exact hpure _ e' j d he hd) none (fun k h => by cases h)
      rw [List.length_append] at this
      exact ⟨_, _, _, _, h3, this, rfl⟩
    split at h
    · -- nil
      have := vrel_s_inv hx
      subst this
      simp only [appendD.lenOr, lenD, Nat.zero_add] at hbytes h47
      split at h
      · rename_i he
        simp at h; obtain ⟨rfl, rfl⟩ := h
        have hne : new = [] := by simpa using he
        refine ⟨_, w, φ, F, hempty hne none 0 0 (Nat.le_refl _), Post.quiet hm fr.k (vrel_s _), rfl⟩
      · rename_i he
        have hpos : 0 < new.length := by
          cases new with
          | nil => simp at he
          | cons a b => simp
        exact grow [] hp hm 0 true none 0 [] rfl .nil (fun v hv => by simp at hv) (fun _ i e j d h => by simp at h) (by simp [Builtin.firstCells]) (by simpa using hpos) (by simpa using hbytes) (by simpa using h47) h
    · -- a slice that nobody writes
      rename_i c es
      have hxl := vrel_l_inv hx
      simp only [appendD.lenOr, lenD] at hbytes h47
      generalize hvx : vx = vx' at hxl
      cases hxl with
      | l cap' es' ad c' z vs hle hcap hz hsp hF hw h1 hrr =>
        have hcc := hcap c rfl
        subst hcc
        split at h
        · rename_i he
          simp at h; obtain ⟨rfl, rfl⟩ := h
          have hne : new = [] := by simpa using he
          rw [hvx] at hx
          exact ⟨_, w, φ, F, hempty hne _ _ _ hle, Post.quiet hm fr.k hx, rfl⟩
        · split at h
          · rename_i hc
            simp only [Bool.and_eq_true, decide_eq_true_eq] at hc
            have hzn : es ≠ [] → z = n := fun hne => by
              obtain ⟨e0, h0⟩ : ∃ e0, es[0]? = some e0 := by
                cases es with
                | nil => exact absurd rfl hne
                | cons a b => exact ⟨a, rfl⟩
              rw [← hz 0 e0 h0]; exact sizesOk_get hc.2 0 e0 h0
            obtain ⟨olds, o1, o2, o3⟩ := vals_of (φ := φ) (F := F) (w := w) (ad := ad) (ds := es.flatten) 0 (fun k d hk => by
              obtain ⟨i, e', j, he, hd, rfl⟩ := flat_inv hc.2 k d hk
              have hne : es ≠ [] := fun x => by subst x; simp at he
              have := hzn hne
              subst this
              refine ⟨vs i j, ?_, h1 i e' j d he hd, .pure (hrr i e' j d he hd)⟩
              rw [Nat.zero_add, add_none (hsp hne)]
              exact hw i e' j d he hd)
            exact grow es hp hm 0 true (some ad) c' olds hc.2 o1 o2 (fun _ i e' j d he hd => by
                have := hrr i e' j d he hd
                cases d <;> first | rfl | cases this) (run_firstCells_some (P := P) w.drew n es.length ad es.length c' olds (by rw [o1.1, flat_len hc.2]) (fun j v hv => by
                have := o3 j v hv
                simpa using this)) hc.1 hbytes h47 h
          · cases h
    · -- a block's slice
      rename_i id lo k z
      simp only [appendD.lenOr, lenD] at hbytes h47
      obtain ⟨b, c, ad, hid, hlc, had, rfl⟩ := vrel_a_inv hx
      split at h
      · rename_i hc
        obtain ⟨ha, hmd, hle, hro, rfl⟩ := hc
        have hWid := hW id hro
        have hB := hm.blk id b c z hid hmd
        obtain ⟨cur, te, hcur, hcsz⟩ := elems_write hB ha
        split at h
        · rename_i he
          simp at h; obtain ⟨rfl, rfl⟩ := h
          have hne : new = [] := by simpa using he
          exact ⟨_, w, φ, F, hempty hne _ _ _ (by omega), Post.quiet hm fr.k hx, rfl⟩
        · rename_i hne0
          have hne : new ≠ [] := fun x => hne0 (by simp [x])
          have hpos : 0 < new.length := by
            cases new with
            | nil => exact absurd rfl hne
            | cons a b => simp
          split at h
          · rename_i hin
            obtain ⟨hin, hmd0⟩ := hin
            simp only [Option.some.injEq, Prod.mk.injEq] at h
            obtain ⟨rfl, rfl⟩ := h
            have hlec := hB.le ha
            obtain ⟨cur', te', hcur', hfit, hmr, hext⟩ := over_post hm hid hWid hmd0 ha hs (lo := lo + k) (by omega) hl hone hpure fr.k
            rw [hcur] at hcur'; simp at hcur'; obtain ⟨rfl, rfl⟩ := hcur'
            have hadd := had (by omega)
            subst hadd
            have hmul : lo * z + k * z = (lo + k) * z := by rw [Nat.add_mul]
            have hrun := hfits b (lo * z) k (c - lo) cur te hne (by omega) h47 hbytes hcur (by rw [hmul]; exact hfit)
            rw [hmul] at hrun
            refine ⟨_, _, φ, F, hrun, ⟨fun _ _ h => h, fun _ _ => rfl, hext, ?_, hmr, Nat.le_refl _⟩, rfl⟩
            exact VRel.a id lo (k + new.length) b c z _ hid (by omega) (fun _ => rfl)
          · split at h
            · rename_i hno hlast
              obtain ⟨rfl, htl⟩ := hlast
              simp only [Nat.zero_add] at hlc hle
              have hlec := hB.le ha
              by_cases hroom : k + new.length ≤ c
              · -- there is room
                have hadd := had (by omega)
                subst hadd
                have hnl : news.length = new.length * z := by rw [hl.1, flat_len hs]
                have hfit : k * z + news.length ≤ cur.size := by
                  rw [hnl, ← Nat.add_mul]
                  have := Nat.mul_le_mul_right z hroom
                  omega
                have e0 : 0 * z + k * z = k * z := by rw [Nat.zero_mul, Nat.zero_add]
                have hrun := hfits b (0 * z) k (c - 0) cur te hne (by omega) h47 hbytes hcur (by rw [e0]; exact hfit)
                rw [e0] at hrun
                simp only [appendD.mk, Option.some.injEq, Prod.mk.injEq] at h
                obtain ⟨rfl, rfl⟩ := h
                have hnF : ∀ x, k * z ≤ x → ¬ F b x := fun x hx => by
                  rcases htl with h0 | h0
                  · exact hm.rw id b c z hid h0 x
                  · exact hm.tip id b c z hid hmd ha x (by rw [← h0]; exact hx)
                have hcells := wrote_cells (F := F) hcur hfit (fun x hx _ => hnF x hx)
                have htake : ((rdH hp id).es.take k).length = k := by rw [List.length_take]; omega
                have hB' : BRel (upd φ nx (b, c, z)) F (w.setRow b (wrote cur (k * z) news)) ⟨(rdH hp id).es.take k ++ new, true, (rdH hp id).md, (rdH hp id).pu, none⟩ b c z := by
                  refine hB.write hcur hl hone hfit (fun x hx _ => hnF x hx) (fun _ _ h => upd_sub (hm.fresh nx (Nat.le_refl _)) h) ?_ ha.symm ?_ ?_ (fun k h => by cases h) (fun h => by cases h) ?_
                  · intro i e' j d he hd
                    simp only at he
                    rw [List.getElem?_append, htake] at he
                    by_cases hi : i < k
                    · simp only [hi, if_true] at he
                      rw [List.getElem?_take, if_pos hi] at he
                      refine .inr ⟨e', he, hd, .inl ?_⟩
                      have hj : j < z := by
                        have := hB.len ha i e' he
                        rcases Nat.lt_or_ge j e'.length with h | h
                        · omega
                        · simp [List.getElem?_eq_none h] at hd
                      have : (i + 1) * z ≤ k * z := Nat.mul_le_mul_right _ hi
                      rw [Nat.add_mul] at this; omega
                    · simp only [hi, if_false] at he
                      refine .inl ⟨(i - k) * z + j, ?_, flat_get hs _ e' j d he hd⟩
                      have : i * z = k * z + (i - k) * z := by rw [← Nat.add_mul]; congr 1; omega
                      omega
                  · intro _ i e' he
                    simp only at he
                    rw [List.getElem?_append, htake] at he
                    split at he
                    · rename_i hi; rw [List.getElem?_take, if_pos hi] at he; exact hB.len ha i e' he
                    · exact sizesOk_get hs _ e' he
                  · intro _; simp only [List.length_append, htake]; exact hroom
                  · intro hp' i e' j d he hd
                    simp only at he hp'
                    rw [List.getElem?_append, htake] at he
                    split at he
                    · rename_i hi; rw [List.getElem?_take, if_pos hi] at he; exact hB.pu hp' i e' j d he hd
                    · exact hpure _ e' j d he hd
                obtain ⟨g1, g2⟩ := hm.goOn hid hWid hmd (B' := ⟨(rdH hp id).es.take k ++ new, true, (rdH hp id).md, (rdH hp id).pu, none⟩) (Bd := { rdH hp id with md := 2 }) rfl rfl hB' hcells (fun o ho => by
                  simp only [List.length_append, htake] at ho
                  refine hnF o ?_
                  have : k * z ≤ (k + new.length) * z := Nat.mul_le_mul_right _ (by omega)
                  omega) hk
                have hval : VRel (upd φ nx (b, c, z)) F (w.setRow b (wrote cur (k * z) news)) (.a nx 0 (((rdH hp id).es.take k).length + new.length) z) (.slice (some ⟨b, 0 * z, none⟩) (k + new.length) (c - 0)) := by
                  rw [htake]
                  exact VRel.a nx 0 (k + new.length) b c z ⟨b, 0 * z, none⟩ (upd_same _ _ _) (by omega) (fun _ => rfl)
                have hpost : Post fr.k W φ F w nx (.a nx 0 (((rdH hp id).es.take k).length + new.length) z) (.slice (some ⟨b, 0 * z, none⟩) (k + new.length) (c - 0)) ((nx, ⟨(rdH hp id).es.take k ++ new, true, (rdH hp id).md, (rdH hp id).pu, none⟩) :: (id, { rdH hp id with md := 2 }) :: hp) (nx + 1) (upd φ nx (b, c, z)) F (w.setRow b (wrote cur (k * z) news)) :=
                  ⟨fun _ _ h => upd_sub (hm.fresh nx (Nat.le_refl _)) h, fun i hi => upd_other (by omega), g2, hval, g1, by omega⟩
                exact ⟨_, _, _, _, hrun, hpost, rfl⟩
              · -- there is none
                have hse : sizesOk z ((rdH hp id).es.take k) = true := sizesOk_of fun i e' h => by
                  rw [List.getElem?_take] at h
                  split at h
                  · exact hB.len ha i e' h
                  · cases h
                have htake : ((rdH hp id).es.take k).length = k := by rw [List.length_take]; omega
                have hadk : 0 < k → ad = ⟨b, 0, none⟩ := fun hk0 => by have := had (by omega); simpa using this
                obtain ⟨olds, o1, o2, o3⟩ := vals_of (φ := φ) (F := F) (w := w) (ad := ad) (ds := ((rdH hp id).es.take k).flatten) 0 (fun x d hx => by
                  obtain ⟨i, e', j, he, hd, rfl⟩ := flat_inv hse x d hx
                  rw [List.getElem?_take] at he
                  split at he
                  · rename_i hi
                    obtain ⟨u, u1, u2, u3⟩ := hB.cell i e' j d he hd
                    refine ⟨u, ?_, u2, u3⟩
                    rw [hadk (by omega), add_field]
                    simpa [cellAt] using u1
                  · cases he)
                have hfc : (Builtin.firstCells z ((rdH hp id).es.take k).length (.slice (some ad) ((rdH hp id).es.take k).length (c - 0))).run P w.drew = .ok olds.toArray w.drew := by
                  refine run_firstCells_some (P := P) w.drew z _ ad _ _ olds ?_ ?_
                  · rw [o1.1, flat_len hse]
                  · intro j v hv
                    have h3 := o3 j v hv
                    rw [Nat.zero_add] at h3
                    exact h3
                have hpu' : (rdH hp id).pu = true → ∀ (i : Nat) (e : List D) (j : Nat) (d : D), ((rdH hp id).es.take k)[i]? = some e → e[j]? = some d → isPure d = true := by
                  intro hp' i e' j d he hd
                  rw [List.getElem?_take] at he
                  split at he
                  · exact hB.pu hp' i e' j d he hd
                  · cases he
                have hlt : c - 0 < ((rdH hp id).es.take k).length + new.length := by rw [htake]; exact Nat.lt_of_not_le hroom
                have hb1 : (((rdH hp id).es.take k).length + new.length) * bytes ≤ 140737488355328 := by rw [htake]; exact hbytes
                have hb2 : ((rdH hp id).es.take k).length + new.length ≤ 140737488355328 := by rw [htake]; exact h47
                have hg := grow ((rdH hp id).es.take k) ((id, { rdH hp id with md := 2 }) :: hp) (hm.kill id _ rfl) (rdH hp id).md (rdH hp id).pu (some ad) (c - 0) olds hse o1 o2 hpu' hfc hlt hb1 hb2 h
                rw [htake] at hg
                exact hg
            · cases h
      · cases h
    · cases h
  · cases h

end
end Vm
end Go.Proofs.YtffgjmfkkfinlaaGreat
end

/-
  Operations on memory: what is appended, a literal slice, a slice made, a slice cut.
-/
namespace Go.Proofs.YtffgjmfkkfinlaaGreat
namespace Vm
open Go Go.RowKit

section
variable {P : Program} {W : Nat → Prop} {φ : Ph} {F : Fz} {w : World} {hp : List (Nat × Blk)} {nx : Nat}

theorem byt_info {t : TypeId} {n : Nat} (h : byt P t = some n) : ∃ i, P.info? t = some i ∧ i.bytes = n := by
  unfold byt at h
  split at h
  · rename_i i hi; simp at h; exact ⟨i, hi, h⟩
  · cases h

theorem store_nil (ad : Addr) (w : World) : (storeCells ad []).run P w = .ok () w := rfl

theorem src_slice {t u ty e e' : TypeId} {n bytes : Nat} {new : List (List D)} {x : Value} {zd : List D} (ht : P.underlying t = some (.slice e)) (hu : P.underlying u = some (.slice e')) (hsz : sz P e = some n) (hby : byt P e = some bytes) (hze : zer P e = some zd)
    (hzl : zd.length = n) (hs : sizesOk n new = true) (h : SrcOk P φ F w n new x) : Src P φ F w t u ty e n bytes new x := by
  obtain ⟨news, h1, h2, h3, h4, h5⟩ := h
  obtain ⟨i, hi, hin⟩ := sz_info hsz
  obtain ⟨i', hi', hib⟩ := byt_info hby
  obtain ⟨i'', zv, hi'', hzv, hzd, _⟩ := zer_inv hze
  rw [hi] at hi'; simp at hi'; subst hi'
  rw [hi] at hi''; simp at hi''; subst hi''
  have hzs : zv.cells.size = n := by rw [← hzl, hzd]; simp
  have hlen : news.length = new.length * n := by rw [h1.1, flat_len hs]
  have htk : news.take (new.length * n) = news := List.take_of_length_le (by omega)
  refine ⟨news, h1, h2, h3, ?_, ?_, ?_⟩
  · intro base sLen sCap olds hold hlt h47 hb
    have hnew := h5 new.length w.drew (Nat.le_refl _) rfl
    rw [htk] at hnew
    have hfit := growslice_fits hlt (bytes := i.bytes) (by rw [hib]; exact hb)
    refine ⟨grownCap w (sLen + new.length) sCap e, Builtin.zeroCells zv.cells (grownCap w (sLen + new.length) sCap e - (sLen + new.length)), grownCap_ge _ _ _ _, ?_, ?_⟩
    · rw [size_zeroCells, hzs, ← Nat.add_mul]
      congr 1
      have := grownCap_ge w (sLen + new.length) sCap e
      omega
    · exact append_grow t u ty e i zv ht e' hu hi hzv base sLen sCap x new.length olds news.toArray h4 (by rw [hin]; exact hold) (by rw [hin]; exact hnew) hlt (by omega) hfit
  · intro b off sLen sCap cur te _ hle h47 hb hcur hfit
    have hnew := h5 new.length w (Nat.le_refl _) rfl
    rw [htk] at hnew
    have := append_fits t u ty e i ht e' hu hi b off sLen sCap x new.length news.toArray cur te h4 (by rw [hin]; exact hnew) hle hcur (by rw [hin]; simpa using hfit) (fun v hv => h2 v (by simpa using hv))
    rw [hin] at this
    simpa [wrote] using this
  · intro hne base sLen sCap hle
    subst hne
    have hnew := h5 0 w (Nat.zero_le _) rfl
    have h40 : ∀ w1, (Builtin.lenOf x).run P w1 = .ok 0 w1 := by simpa using h4
    rw [Nat.zero_mul] at hnew
    rw [← hin] at hnew
    cases base with
    | none => simp [Builtin.append_, run_underlying ht, run_underlying hu, sizeOf, typeInfo, hi, h40, hle, hnew]
    | some ad => simp [Builtin.append_, run_underlying ht, run_underlying hu, sizeOf, typeInfo, hi, h40, hle, hnew, store_nil]

theorem repl_flat_get {m : Nat} {zd : List D} {k : Nat} {d : D} (hz : 0 < zd.length) (h : (List.replicate m zd).flatten[k]? = some d) : k < m * zd.length ∧ zd[k % zd.length]? = some d := by
  have hs : sizesOk zd.length (List.replicate m zd) = true := sizesOk_of fun i e h => by
    rw [List.getElem?_replicate] at h
    split at h
    · simp at h; rw [h]
    · cases h
  obtain ⟨i, e, j, he, hd, hk⟩ := flat_inv hs k d h
  rw [List.getElem?_replicate] at he
  split at he
  · rename_i hi
    simp at he; subst he
    have hj : j < zd.length := by
      rcases Nat.lt_or_ge j zd.length with h | h
      · exact h
      · simp [List.getElem?_eq_none h] at hd
    have h1 : (i + 1) * zd.length ≤ m * zd.length := Nat.mul_le_mul_right _ hi
    rw [Nat.add_mul] at h1
    refine ⟨by omega, ?_⟩
    rw [hk, Nat.mul_comm i, Nat.mul_add_mod, Nat.mod_eq_of_lt hj]; exact hd
  · cases he

theorem sizesOk_repl (m : Nat) (zd : List D) : sizesOk zd.length (List.replicate m zd) = true := sizesOk_of fun i e h => by
  rw [List.getElem?_replicate] at h
  split at h
  · simp at h; rw [h]
  · cases h

/-- Elements that are all zero, as the model lays them. -/
theorem zeros_rel {zv : Value} {zd : List D} (hzd : zd = zv.cells.toList.map .s) (hone : ∀ v ∈ zv.cells.toList, one v = true) (hz : 0 < zd.length) (m : Nat) :
    LRel (VRel φ F w) (List.replicate m zd).flatten (Builtin.zeroCells zv.cells m).toList ∧ (∀ v ∈ (Builtin.zeroCells zv.cells m).toList, one v = true) := by
  have hzs : zv.cells.size = zd.length := by rw [hzd]; simp
  have get : ∀ (k : Nat) (v : Value), (Builtin.zeroCells zv.cells m).toList[k]? = some v → k < m * zd.length ∧ zv.cells.toList[k % zd.length]? = some v := by
    intro k v h
    simp only [Builtin.zeroCells, Array.toList_map, Array.toList_range, List.getElem?_map] at h
    cases hr : (List.range (m * zv.cells.size))[k]? with
    | none => simp [hr] at h
    | some q =>
      have hk : k < m * zv.cells.size := by
        rcases Nat.lt_or_ge k (m * zv.cells.size) with h | h
        · exact h
        · rw [List.getElem?_eq_none (by simpa using h)] at hr; cases hr
      rw [List.getElem?_range hk] at hr
      simp at hr; subst hr
      simp [List.getElem?_range hk] at h
      rw [hzs] at hk
      refine ⟨hk, ?_⟩
      have hlt : k % zd.length < zv.cells.toList.length := by simp [hzs]; exact Nat.mod_lt _ hz
      rw [List.getElem?_eq_getElem hlt]
      rw [← h, hzs]
      have : k % zd.length < zv.cells.size := by rw [hzs]; exact Nat.mod_lt _ hz
      simp [this]
  refine ⟨⟨?_, ?_⟩, ?_⟩
  · rw [flat_len (sizesOk_repl m zd)]
    simp [size_zeroCells, hzs]
  · intro k d v hd hv
    obtain ⟨_, h1⟩ := repl_flat_get hz hd
    obtain ⟨_, h2⟩ := get k v hv
    rw [hzd, List.getElem?_map] at h1
    have hl : (zv.cells.toList.map D.s).length = zd.length := by rw [hzd]
    rw [hl, h2] at h1
    simp at h1; subst h1
    exact vrel_s v
  · intro v hv
    obtain ⟨k, hk⟩ := List.getElem?_of_mem hv
    exact hone v (List.mem_of_getElem? (get k v hk).2)

theorem src_zeros {t u ty e : TypeId} {n bytes m : Nat} {zd : List D} {k k' : IntKind} (ht : P.underlying t = some (.slice e)) (hu : P.underlying u = some (.int k)) (hsz : sz P e = some n) (hby : byt P e = some bytes) (hze : zer P e = some zd)
    (hzl : zd.length = n) (hn : 0 < n) : Src P φ F w t u ty e n bytes (List.replicate m zd) (.int k' (m : Int)) := by
  obtain ⟨i, hi, hin⟩ := sz_info hsz
  obtain ⟨i', hi', hib⟩ := byt_info hby
  obtain ⟨i'', zv, hi'', hzv, hzd, hone⟩ := zer_inv hze
  rw [hi] at hi'; simp at hi'; subst hi'
  rw [hi] at hi''; simp at hi''; subst hi''
  have hzs : zv.cells.size = n := by rw [← hzl, hzd]; simp
  obtain ⟨r1, r2⟩ := zeros_rel (φ := φ) (F := F) (w := w) hzd hone (by omega) m
  refine ⟨(Builtin.zeroCells zv.cells m).toList, r1, r2, ?_, ?_, ?_, ?_⟩
  · intro i' e' j d he hd
    rw [List.getElem?_replicate] at he
    split at he
    · simp at he; subst he
      rw [hzd, List.getElem?_map] at hd
      cases hq : zv.cells.toList[j]? with
      | none => simp [hq] at hd
      | some q => simp [hq] at hd; subst hd; rfl
    · cases he
  · intro base sLen sCap olds hold hlt h47 hb
    simp only [List.length_replicate] at hlt h47 hb ⊢
    by_cases hm0 : m = 0
    · subst hm0
      -- nothing is appended, but more than the room is asked: the model's way is the same
      refine ⟨grownCap w (sLen + 0) sCap e, Builtin.zeroCells zv.cells (grownCap w (sLen + 0) sCap e - (sLen + 0)), grownCap_ge _ _ _ _, ?_, ?_⟩
      · rw [size_zeroCells, hzs, ← Nat.add_mul]
        congr 1
        have := grownCap_ge w (sLen + 0) sCap e
        omega
      · have hfit := growslice_fits hlt (bytes := i.bytes) (by rw [hib]; exact hb)
        have hn' : ¬ (sLen + 0 ≤ sCap) := by omega
        have h63' : ¬ (9223372036854775807 < ((sLen : Int))) := by omega
        have h48' : ¬ (281474976710656 < Builtin.nextslicecap (sLen + 0) sCap * i.bytes) := by omega
        have wn : IntKind.i64.wrap (0 : Int) = 0 := by rw [IntKind.wrap_i64]; omega
        rw [← hin] at hold
        simp only [Nat.add_zero] at hn' h48' ⊢
        simp [Builtin.append_, run_underlying ht, run_underlying hu, sizeOf, typeInfo, zeroValue, hi, hzv, asInt, asIntOf, wn, hn', h63', h48', Question.forced, hold, newRow, grownCap, Builtin.zeroCells]
    · have hfit := growslice_fits hlt (bytes := i.bytes) (by rw [hib]; exact hb)
      refine ⟨grownCap w (sLen + m) sCap e, Builtin.zeroCells zv.cells (grownCap w (sLen + m) sCap e - (sLen + m)), grownCap_ge _ _ _ _, ?_, ?_⟩
      · rw [size_zeroCells, hzs, ← Nat.add_mul]
        congr 1
        have := grownCap_ge w (sLen + m) sCap e
        omega
      · rw [Array.toArray_toList]
        exact append_grow_zeros t u ty e i zv ht k k' hu hi hzv base sLen sCap m olds (Nat.mul_ne_zero hm0 (by omega)) (by rw [hin]; exact hold) hlt (by omega) (by rw [hib]; exact hb) hfit
  · intro b off sLen sCap cur te hne hle h47 hb hcur hfit
    simp only [List.length_replicate] at hle h47 hb ⊢
    have hm0 : m ≠ 0 := fun h => by subst h; exact hne rfl
    have hlen : (Builtin.zeroCells zv.cells m).toList.length = m * n := by simp [size_zeroCells, hzs]
    rw [hlen] at hfit
    have hbm : m * bytes ≤ 140737488355328 := Nat.le_trans (Nat.mul_le_mul_right _ (by omega)) hb
    have := append_fits_zeros t u ty e i zv ht k k' hu hi hzv b off sLen sCap m cur te (Nat.mul_ne_zero hm0 (by omega)) (by rw [hin]; exact hzs) (by omega) (by rw [hib]; exact hbm) hle hcur (by rw [hin]; exact hfit) r2
    rw [hin] at this
    rw [this]
    simp only [wrote, hlen]
  · intro hne base sLen sCap hle
    have hm0 : m = 0 := by
      cases m with
      | zero => rfl
      | succ m => simp [List.replicate_succ] at hne
    subst hm0
    have wn : IntKind.i64.wrap (0 : Int) = 0 := by rw [IntKind.wrap_i64]; omega
    cases base with
    | none => simp [Builtin.append_, run_underlying ht, run_underlying hu, sizeOf, typeInfo, hi, asInt, asIntOf, wn, hle]
    | some ad => simp [Builtin.append_, run_underlying ht, run_underlying hu, sizeOf, typeInfo, hi, asInt, asIntOf, wn, hle, store_nil]

end
end Vm
end Go.Proofs.YtffgjmfkkfinlaaGreat

/-
  Operations on memory: a slice made, a literal slice, a slice cut.
-/
namespace Go.Proofs.YtffgjmfkkfinlaaGreat
namespace Vm
open Go Go.RowKit

section
variable {P : Program} {W : Nat → Prop} {φ : Ph} {F : Fz} {w : World} {hp : List (Nat × Blk)} {nx : Nat}

theorem asNat_rel {d : D} {n : Nat} (h : asNat d = some n) {v : Value} (hr : VRel φ F w d v) : ∃ k, v = .int k (n : Int) := by
  cases d <;> try (simp [asNat] at h; done)
  rename_i x
  cases x <;> simp [asNat] at h
  rename_i k m
  have := vrel_s_inv hr
  subst this
  obtain ⟨h0, h1⟩ := h
  exact ⟨k, by congr 1; omega⟩

theorem made_eq {zv : Value} {n m : Nat} (hz : zv.cells.size = n) : madeCells zv.cells (m * n) = Builtin.zeroCells zv.cells m := by
  simp [madeCells, Builtin.zeroCells, hz]

theorem make_sim (hm : MR φ F w hp nx) {k : Nat} (hk : k ≤ nx) {t e : TypeId} {n m bytes : Nat} {zd : List D} (ht : elt P t = some e) (hsz : sz P e = some n) (hby : byt P e = some bytes) (hze : zer P e = some zd) (hzl : zd.length = n) (hn : 0 < n)
    (hb : m * bytes ≤ 140737488355328) (h47 : m ≤ 140737488355328) {k1 k2 : IntKind} :
    ∃ v w' φ', (Instr.makeSlice t (.int k1 (m : Int)) (.int k2 (m : Int))).run P w = .ok v w' ∧ Post k W φ F w nx (.a nx 0 m n) v ((nx, ⟨List.replicate m zd, true, 0, true, some m⟩) :: hp) (nx + 1) φ' F w' := by
  obtain ⟨i, hi, hin⟩ := sz_info hsz
  obtain ⟨i', hi', hib⟩ := byt_info hby
  obtain ⟨i'', zv, hi'', hzv, hzd, hone⟩ := zer_inv hze
  rw [hi] at hi'; simp at hi'; subst hi'
  rw [hi] at hi''; simp at hi''; subst hi''
  have hzs : zv.cells.size = n := by rw [← hzl, hzd]; simp
  have hbb : (i.bytes : Int) * (m : Int) ≤ 281474976710656 := by
    have h2 : ((m * i.bytes : Nat) : Int) ≤ 140737488355328 := by rw [hib]; omega
    rw [Int.natCast_mul, Int.mul_comm] at h2
    omega
  have hrun := run_make (P := P) w t e i zv (elt_under ht) hi hzv k1 k2 (m : Int) (m : Int) (by omega) (by omega) hbb (by omega)
  simp only [Int.toNat_natCast] at hrun
  rw [hin, made_eq hzs] at hrun
  obtain ⟨r1, r2⟩ := zeros_rel (φ := φ) (F := F) (w := w) hzd hone (by omega) m
  have hs : sizesOk n (List.replicate m zd) = true := by rw [← hzl]; exact sizesOk_repl m zd
  have := newRow_post (W := W) hm hk (below_alloc w (.cells (Builtin.zeroCells zv.cells m) e)) (es := List.replicate m zd) (n := n) (c := m) hs hn (by simp) r1 r2 (alloc_row w _ e) (by simp [size_zeroCells, hzs])
    (fun i v hv => by simpa using hv) 0 true (fun _ i e j d he hd => by
      rw [List.getElem?_replicate] at he
      split at he
      · simp at he; subst he
        rw [hzd, List.getElem?_map] at hd
        cases hq : zv.cells.toList[j]? with
        | none => simp [hq] at hd
        | some q => simp [hq] at hd; subst hd; rfl
      · cases he) (some m) (fun k h => by simpa using h)
  rw [List.length_replicate] at this
  exact ⟨_, _, _, hrun, this⟩

theorem MR.moreF (hm : MR φ F w hp nx) {w' : World} (hb : Below w.heap.size w w') (hlt : w.heap.size < w'.heap.size) : MR φ (fun b o => F b o ∨ b = w.heap.size) w' hp nx ∧ ∀ k, Ext k W φ F w φ (fun b o => F b o ∨ b = w.heap.size) w' := by
  have h := hm.below hb
  have hne : ∀ id b c z, φ id = some (b, c, z) → b ≠ w.heap.size := fun id b c z h e => by have := hm.pb id b c z h; omega
  refine ⟨⟨fun id b c z hid hl => (h.blk id b c z hid hl).keep rfl (fun _ _ h => h) (fun _ _ h => .inl h) (fun _ _ _ => rfl), ?_, ?_, h.inj, h.fresh, ?_, h.pb⟩, fun k => ?_⟩
  · intro id b c z hid hl o hf
    rcases hf with hf | hf
    · exact hm.rw id b c z hid hl o hf
    · exact hne id b c z hid hf
  · intro id b c z hid hl ha o ho hf
    rcases hf with hf | hf
    · exact hm.tip id b c z hid hl ha o ho hf
    · exact hne id b c z hid hf
  · intro b o hf
    rcases hf with hf | hf
    · exact h.Fb b o hf
    · omega
  · have he := hm.ext_below (W := W) hb k
    exact ⟨he.os, he.tape, he.output, he.size, he.phi, he.img, fun _ _ h => .inl h, he.cells, he.other, fun b o h => by
      rcases h with h | h
      · exact .inl h
      · exact .inr (.inl (by omega))⟩

def idxFrom {α : Type} (n : Nat) : Nat → List (List α) → List (Nat × List α)
  | _, [] => []
  | j, v :: vs => (j * n, v) :: idxFrom n (j + 1) vs

theorem fillD_seq {α : Type} {n : Nat} : ∀ (vs : List (List α)) (j : Nat) (pre rest : List α), pre.length = j * n → (∀ v ∈ vs, v.length = n) → rest.length = vs.length * n → fillD (pre ++ rest) (idxFrom n j vs) = some (pre ++ vs.flatten)
  | [], j, pre, rest, _, _, hr => by
    have : rest = [] := by simpa using hr
    subst this
    simp [idxFrom, fillD]
  | v :: vs, j, pre, rest, hp, hv, hr => by
    have hvl := hv v (by simp)
    simp only [List.length_cons, Nat.add_mul, Nat.one_mul] at hr
    simp only [idxFrom, fillD]
    rw [if_pos (by simp [hp, hvl, hr])]
    have e1 : (pre ++ rest).take (j * n) = pre := by rw [← hp]; simp
    have e2 : (pre ++ rest).drop (j * n + v.length) = rest.drop n := by
      rw [← hp, hvl, List.drop_append]
      simp
    rw [e1, e2]
    have := fillD_seq vs (j + 1) (pre ++ v) (rest.drop n) (by simp [hp, hvl, Nat.add_mul]) (fun u hu => hv u (by simp [hu])) (by simp; omega)
    rw [this]
    simp

theorem elemsOf_rel {tm : List (Nat × D)} {a : Act} (ht : TRel φ F w tm a) {n : Nat} : ∀ {ps : List (Nat × Operand)} {j : Nat} {es : List (List D)}, elemsOf tm n j ps = some es →
    ∃ us : List (List Value), us.length = ps.length ∧ us.length = es.length ∧ (∀ u ∈ us, u.length = n ∧ ∀ v ∈ u, one v = true) ∧ sizesOk n es = true ∧ LRel (VRel φ F w) es.flatten us.flatten ∧
      (∀ (i : Nat) (p : Nat × Operand) (u : List Value), ps[i]? = some p → us[i]? = some u → p.1 = j + i ∧ u = (a.eval p.2).cells.toList)
  | [], j, es, h => by
    simp [elemsOf] at h; subst h
    exact ⟨[], rfl, rfl, fun u h => by simp at h, rfl, .nil, fun i p u h => by simp at h⟩
  | (i, x) :: ps, j, es, h => by
    simp only [elemsOf] at h
    split at h
    · cases h
    · rename_i v hv
      split at h
      · rename_i hc
        obtain ⟨rfl, hvl⟩ := hc
        split at h
        · rename_i es' hes
          simp at h; subst h
          obtain ⟨us, h1, h2, h3, h4, h5, h6⟩ := elemsOf_rel ht hes
          obtain ⟨hl, ho⟩ := cellsOf_rel hv (ht.ev x)
          refine ⟨(a.eval x).cells.toList :: us, by simp [h1], by simp [h2], ?_, by simp [sizesOk, hvl, h4], by simpa using hl.append h5, ?_⟩
          · intro u hu
            rcases List.mem_cons.1 hu with rfl | hu
            · exact ⟨by rw [hl.1]; exact hvl, ho⟩
            · exact h3 u hu
          · intro k p u hp hu
            cases k with
            | zero => simp at hp hu; subst hp; subst hu; exact ⟨by simp, rfl⟩
            | succ k =>
              simp at hp hu
              obtain ⟨q1, q2⟩ := h6 k p u hp hu
              exact ⟨by rw [q1]; omega, q2⟩
        · cases h
      · cases h

theorem allPureE_get {es : List (List D)} (h : allPureE es = true) {i : Nat} {e : List D} {j : Nat} {d : D} (he : es[i]? = some e) (hd : e[j]? = some d) : isPure d = true := by
  have pureCs : ∀ {cs : List D}, allPure cs = true → ∀ d ∈ cs, isPure d = true := by
    intro cs
    induction cs with
    | nil => intro _ d h; simp at h
    | cons c cs ih =>
      intro h d hd
      simp only [allPure, Bool.and_eq_true] at h
      rcases List.mem_cons.1 hd with rfl | hd
      · exact h.1
      · exact ih h.2 d hd
  induction es generalizing i with
  | nil => simp at he
  | cons x es ih =>
    simp only [allPureE, Bool.and_eq_true] at h
    cases i with
    | zero => simp at he; subst he; exact pureCs h.1 d (List.mem_of_getElem? hd)
    | succ i => simp at he; exact ih h.2 he

theorem buildSlice_sim (hm : MR φ F w hp nx) {tm : List (Nat × D)} {a : Act} (ht : TRel φ F w tm a) {t el : TypeId} {n len : Nat} {ps : Array (Nat × Operand)} {es : List (List D)} (he : elt P t = some el) (hs : sz P el = some n) (hz : (zer P el).isSome = true)
    (hes : elemsOf tm n 0 ps.toList = some es) (hlen : es.length = len) (hpure : allPureE es = true) (hsmall : len * n ≤ 16777216) (hn : 0 < n) (k : Nat) :
    ∃ v w' F', (Instr.buildSlice t len (ps.map fun (i, x) => (i, a.eval x))).run P w = .ok v w' ∧ Post k W φ F w nx (.l (some len) es) v hp nx φ F' w' := by
  obtain ⟨us, u1, u2, u3, u4, u5, u6⟩ := elemsOf_rel ht hes
  obtain ⟨ie, hie, hin⟩ := sz_info hs
  obtain ⟨zd, hzd⟩ := Option.isSome_iff_exists.1 hz
  obtain ⟨ie', zv, hie', hzv, _, _⟩ := zer_inv hzd
  rw [hie] at hie'; simp at hie'; subst hie'
  have hul : us.flatten.length = len * n := by rw [u5.1, flat_len u4, hlen]
  have hparts : (ps.map fun (i, x) => (i, a.eval x)).toList = ps.toList.map fun p => (p.1, a.eval p.2) := by simp
  by_cases h0 : len = 0
  · subst h0
    have hes0 : es = [] := by simpa using hlen
    subst hes0
    have hps : ps.toList = [] := by simpa [u2] using u1.symm
    have hps' : ps = #[] := by simpa using hps
    subst hps'
    have hb := below_alloc w (.cells #[] el)
    refine ⟨.slice (some ⟨w.heap.size, 0, none⟩) 0 0, w.alloc (.cells #[] el), F, ?_, ⟨fun _ _ h => h, fun _ _ => rfl, hm.ext_below hb k, .pure ?_, hm.below hb, Nat.le_refl _⟩⟩
    · simp [Instr.buildSlice, run_underlying (elt_under he), sizeOf, typeInfo, hie, Instr.fill, newRow, Array.range_zero']
    · exact PRel.l (some 0) [] ⟨w.heap.size, 0, none⟩ 0 0 (fun _ _ => undef) (by simp) (fun k h => by simpa using h) (fun i e h => by simp at h) (fun h => absurd rfl h) (fun i e j d h => by simp at h) (fun i e j d h => by simp at h) (fun i e j d h => by simp at h) (fun i e j d h => by simp at h)
  have hidx : ∀ (us : List (List Value)) (j i : Nat) (o : Nat × List Value), (idxFrom n j us)[i]? = some o → ∃ u, us[i]? = some u ∧ o = ((j + i) * n, u) := by
    intro us
    induction us with
    | nil => intro j i o h; simp [idxFrom] at h
    | cons u us ih =>
      intro j i o h
      cases i with
      | zero => simp [idxFrom] at h; exact ⟨u, rfl, h.symm⟩
      | succ i =>
        simp only [idxFrom, List.getElem?_cons_succ] at h
        obtain ⟨u', h1, h2⟩ := ih (j + 1) i o h
        exact ⟨u', by simpa using h1, by rw [h2]; congr 2; omega⟩
  have hidl : ∀ (us : List (List Value)) (j : Nat), (idxFrom n j us).length = us.length := by
    intro us
    induction us with
    | nil => intro j; rfl
    | cons u us ih => intro j; simp [idxFrom, ih]
  have hfill : Instr.fill (fun i => some (i * ie.size, ie.size)) ((Array.range (len * ie.size)).map (zv.cells[· % zv.cells.size]!)) (ps.map fun (i, x) => (i, a.eval x)).toList = some us.flatten.toArray := by
    rw [hparts]
    refine fill_eq _ (ps.toList.map fun p => (p.1, a.eval p.2)) (idxFrom n 0 us) _ (by simp [hidl, u1]) (fun j p o hp ho => ?_) us.flatten ?_
    · obtain ⟨u, h1, rfl⟩ := hidx us 0 j o ho
      rw [List.getElem?_map] at hp
      cases hpp : ps.toList[j]? with
      | none => simp [hpp] at hp
      | some pp =>
        simp [hpp] at hp; subst hp
        obtain ⟨q1, q2⟩ := u6 j pp u hpp h1
        refine ⟨q2, ?_⟩
        have := (u3 u (List.mem_of_getElem? h1)).1
        rw [q2] at this
        simp at this
        rw [hin, q1]
        simp [this]
    · have := fillD_seq us 0 [] ((Array.range (len * ie.size)).map (zv.cells[· % zv.cells.size]!)).toList (by simp) (fun v hv => (u3 v hv).1) (by simp [u2, hlen, hin])
      simpa using this
  have hrun := run_buildSlice (P := P) w t el len (ps.map fun (i, x) => (i, a.eval x)) us.flatten.toArray ie zv (elt_under he) hie hzv (by rw [hin]; omega) (by rw [hin]; exact Nat.mul_ne_zero (by omega) (by omega)) hfill
  have hb := below_alloc w (.cells us.flatten.toArray el)
  obtain ⟨hmr, hext⟩ := hm.moreF hb (by simp)
  refine ⟨_, _, _, hrun, ⟨fun _ _ h => h, fun _ _ => rfl, hext k, ?_, hmr, Nat.le_refl _⟩⟩
  have hcell : ∀ (i : Nat) (e : List D) (j : Nat) (d : D), es[i]? = some e → e[j]? = some d → ∃ v, cellAt (w.alloc (.cells us.flatten.toArray el)) w.heap.size (0 + (i * n + j)) = some v ∧ one v = true ∧ PRel F w d v := by
    intro i e j d he hd
    obtain ⟨v, hv, hr⟩ := u5.get (flat_get u4 i e j d he hd)
    refine ⟨v, by rw [Nat.zero_add, cellAt_row (alloc_row w _ el)]; simpa using hv, ?_, vrel_pure (allPureE_get hpure he hd) hr⟩
    obtain ⟨u, hu, hvu⟩ := List.mem_flatten.1 (List.mem_of_getElem? hv)
    exact (u3 u hu).2 v hvu
  have := PRel.l (F := fun b o => F b o ∨ b = w.heap.size) (w := w.alloc (.cells us.flatten.toArray el)) (some len) es ⟨w.heap.size, 0, none⟩ len n (fun i j => (cellAt (w.alloc (.cells us.flatten.toArray el)) w.heap.size (0 + (i * n + j))).getD undef)
    (by omega) (fun k h => by simpa using h) (fun i e h => sizesOk_get u4 i e h) (fun _ => rfl) (fun i e j d _ _ => .inr rfl)
    (fun i e j d he hd => by obtain ⟨v, h1, _, _⟩ := hcell i e j d he hd; simp only [h1, Option.getD_some])
    (fun i e j d he hd => by obtain ⟨v, h1, h2, _⟩ := hcell i e j d he hd; simp only [h1, Option.getD_some]; exact h2)
    (fun i e j d he hd => by
      obtain ⟨v, h1, _, h3⟩ := hcell i e j d he hd
      simp only [h1, Option.getD_some]
      exact h3.mono (fun _ _ h => .inl h) (hm.cells_of hb))
  rw [hlen] at this
  exact .pure this

end
end Vm
end Go.Proofs.YtffgjmfkkfinlaaGreat

/-
  Operations on memory: a slice cut; all operations on memory but calls.
-/
namespace Go.Proofs.YtffgjmfkkfinlaaGreat
namespace Vm
open Go Go.RowKit

section
variable {P : Program} {W : Nat → Prop} {φ : Ph} {F : Fz} {w : World} {hp : List (Nat × Blk)} {nx : Nat}

/-- Bounds that may lack. -/
def ORel (φ : Ph) (F : Fz) (w : World) (o : Option D) (v : Option Value) : Prop := match o, v with
  | none, none => True
  | some d, some v => VRel φ F w d v
  | _, _ => False

theorem orel_map {tm : List (Nat × D)} {a : Act} (ht : TRel φ F w tm a) (o : Option Operand) : ORel φ F w (o.map (ev tm)) (o.map a.eval) := by
  cases o with
  | none => exact True.intro
  | some x => exact ht.ev x

theorem ORel.mono {F' : Fz} (hF : ∀ b o, F b o → F' b o) {o : Option D} {v : Option Value} (h : ORel φ F w o v) : ORel φ F' w o v := by
  cases o <;> cases v <;> first | exact h | exact VRel.mono (fun _ _ h => h) hF (fun _ _ _ => rfl) h

theorem bound_run {k : IntKind} {m y : Nat} (h : m ≤ y) (code : BoundsCode) : (Instr.sliceBound (.int k (m : Int)) y code).run P w = .ok m w := by
  have : (m : Int) ≤ (y : Int) := by omega
  simp [Instr.sliceBound, asIntOf, this]

/-- The bounds of a cut. -/
theorem bnd_rel {n : Nat} {cap : Option Nat} {lo hi mx : Option D} {l h : Nat} {c : Option Nat} (hb : bnd n cap lo hi mx = some (l, h, c)) {vlo vhi vmx : Option Value} (h1 : ORel φ F w lo vlo) (h2 : ORel φ F w hi vhi) (h3 : ORel φ F w mx vmx) {cc : Nat} (hn : n ≤ cc)
    (isS : Bool) : l ≤ h ∧ h ≤ n ∧ ∃ m, (Instr.sliceBounds isS n cc vlo vhi vmx).run P w = .ok (l, h, m) w ∧ h ≤ m ∧ m ≤ cc ∧ ((mx = none ∧ m = cc ∧ c = cap.map (· - l)) ∨ (mx.isSome = true ∧ m = h ∧ c = some (h - l))) := by
  unfold bnd at hb
  split at hb
  · rename_i l' h' hl hh
    split at hb
    · rename_i hle
      have hlo : ∀ (y : Nat) (code : BoundsCode), l' ≤ y → (match vlo with | some v => Instr.sliceBound v y code | none => pure 0 : Sem Nat).run P w = .ok l' w := by
        intro y code hy
        cases lo with
        | none => simp at hl; subst hl; cases vlo with
          | none => rfl
          | some v => exact h1.elim
        | some d => cases vlo with
          | none => exact h1.elim
          | some v =>
            obtain ⟨k, rfl⟩ := asNat_rel hl h1
            exact bound_run hy code
      have hhi : ∀ (y : Nat) (code : BoundsCode), h' ≤ y → hi.isSome = true → ∃ v, vhi = some v ∧ (Instr.sliceBound v y code).run P w = .ok h' w := by
        intro y code hy hs
        cases hi with
        | none => cases hs
        | some d => cases vhi with
          | none => exact h2.elim
          | some v =>
            obtain ⟨k, rfl⟩ := asNat_rel hh h2
            exact ⟨_, rfl, bound_run hy code⟩
      have hhn : hi = none → vhi = none ∧ h' = n := by
        intro e; subst e
        simp at hh
        cases vhi with
        | none => exact ⟨rfl, hh.symm⟩
        | some v => exact h2.elim
      split at hb
      · -- no end of the capacity
        have hvm : vmx = none := by
          cases vmx with
          | none => rfl
          | some v => exact h3.elim
        subst hvm
        have hc : l' = l ∧ h' = h ∧ c = cap.map (· - l) := by
          cases cap <;> simp at hb <;> obtain ⟨rfl, rfl, rfl⟩ := hb <;> exact ⟨rfl, rfl, rfl⟩
        obtain ⟨rfl, rfl, rfl⟩ := hc
        refine ⟨hle.1, hle.2, cc, ?_, by omega, Nat.le_refl _, .inl ⟨rfl, rfl, rfl⟩⟩
        unfold Instr.sliceBounds
        cases hi with
        | none =>
          obtain ⟨rfl, rfl⟩ := hhn rfl
          have := hlo h' .sliceB hle.1
          cases vlo <;> simp at this ⊢ <;> simp [this]
        | some d =>
          obtain ⟨v, rfl, hv⟩ := hhi cc (if isS then .sliceAcap else .sliceAlen) (by omega) rfl
          have := hlo h' .sliceB hle.1
          cases vlo <;> simp at this hv ⊢ <;> simp [this, hv]
      · rename_i d
        cases vmx with
        | none => exact h3.elim
        | some vm =>
          split at hb
          · rename_i d2 m hm
            split at hb
            · rename_i hmh
              simp at hb; obtain ⟨rfl, rfl, rfl⟩ := hb
              subst hmh
              obtain ⟨km, rfl⟩ := asNat_rel hm h3
              obtain ⟨v, rfl, hv⟩ := hhi m (.slice3B) (Nat.le_refl _) rfl
              refine ⟨hle.1, hle.2, m, ?_, Nat.le_refl _, by omega, .inr ⟨rfl, rfl, rfl⟩⟩
              have hb1 := bound_run (P := P) (w := w) (k := km) (m := m) (y := cc) (by omega) (if isS then .slice3Acap else .slice3Alen)
              have := hlo m .slice3C hle.1
              unfold Instr.sliceBounds
              cases vlo <;> simp at this hv hb1 ⊢ <;> simp [this, hv, hb1]
            · cases hb
          · cases hb
    · cases hb
  · cases hb

end
end Vm
end Go.Proofs.YtffgjmfkkfinlaaGreat

/-
  Operations on memory: a slice cut; all operations on memory but calls of functions.
-/
namespace Go.Proofs.YtffgjmfkkfinlaaGreat
namespace Vm
open Go Go.RowKit

section
variable {P : Program} {W : Nat → Prop} {φ : Ph} {F : Fz} {w : World} {hp : List (Nat × Blk)} {nx : Nat}

theorem slice_run {t e : TypeId} {n : Nat} (ht : elt P t = some e) (hs : sz P e = some n) {base : Option Addr} {len cap : Nat} {lo hi mx : Option Value} {l h m : Nat} (hb : (Instr.sliceBounds true len cap lo hi mx).run P w = .ok (l, h, m) w) :
    (Instr.sliceAt t (.slice base len cap) lo hi mx).run P w = .ok (.slice (if m = l then base else base.map (·.add (l * n))) (h - l) (m - l)) w := by
  simp only [Instr.sliceAt, Sem.run_bind, run_underlying (elt_under ht), Result.andThen_ok, Instr.slice, hb, sz_run hs, Sem.run_pure]

theorem cut_l {t e : TypeId} {n : Nat} (ht : elt P t = some e) (hs : sz P e = some n) {cap : Option Nat} {es : List (List D)} {v : Value} (hr : VRel φ F w (.l cap es) v) {lo hi mx : Option D} {l h : Nat} {c : Option Nat} (hb : bnd es.length cap lo hi mx = some (l, h, c))
    (hel : elOk n es l = true) {vlo vhi vmx : Option Value} (h1 : ORel φ F w lo vlo) (h2 : ORel φ F w hi vhi) (h3 : ORel φ F w mx vmx) :
    ∃ v', (Instr.sliceAt t v vlo vhi vmx).run P w = .ok v' w ∧ VRel φ F w (.l c ((es.take h).drop l)) v' := by
  have hp := vrel_l_inv hr
  generalize hvv : v = v' at hp
  cases hp with
  | l cap es ad cc z vs hle hcap hz hsp hF hw g1 hrr =>
    obtain ⟨b1, b2, m, hrun, b3, b4, b5⟩ := bnd_rel (P := P) hb h1 h2 h3 hle true
    refine ⟨_, slice_run ht hs hrun, .pure ?_⟩
    have hlen : ((es.take h).drop l).length = h - l := by rw [List.length_drop, List.length_take]; omega
    have get : ∀ (i : Nat) (e : List D), ((es.take h).drop l)[i]? = some e → l + i < h ∧ es[l + i]? = some e := by
      intro i e he
      rw [List.getElem?_drop, List.getElem?_take] at he
      split at he
      · rename_i hi; exact ⟨hi, he⟩
      · cases he
    have hzn : ∀ (i : Nat) (e : List D), ((es.take h).drop l)[i]? = some e → z = n := by
      intro i e he
      obtain ⟨hi, _⟩ := get i e he
      unfold elOk at hel
      have hlt : l < es.length := by omega
      rw [List.getElem?_eq_getElem hlt] at hel
      simp at hel
      rw [← hz l es[l] (List.getElem?_eq_getElem hlt), hel]
    have hml : ∀ (i : Nat) (e : List D), ((es.take h).drop l)[i]? = some e → m ≠ l := by
      intro i e he
      have := (get i e he).1; omega
    have hes : ∀ (i : Nat) (e : List D), ((es.take h).drop l)[i]? = some e → es ≠ [] := fun i e he x => by
      have := (get i e he).2; rw [x] at this; simp at this
    obtain ⟨ad', had'⟩ : ∃ ad' : Addr, (if m = l then some ad else (some ad).map (·.add (l * n))) = some ad' ∧ (m ≠ l → ad' = ad.add (l * n)) := by
      by_cases e : m = l
      · exact ⟨ad, by simp [e], fun h => absurd e h⟩
      · exact ⟨ad.add (l * n), by simp [e], fun _ => rfl⟩
    rw [had'.1, ← hlen]
    refine PRel.l c ((es.take h).drop l) ad' (m - l) z (fun i j => vs (l + i) j) (by rw [hlen]; omega) ?_ (fun i e he => hz _ e (get i e he).2) ?_ ?_ ?_ ?_ ?_
    · intro k hk
      rcases b5 with ⟨_, rfl, b5⟩ | ⟨_, rfl, b5⟩
      · rw [b5] at hk
        cases cap with
        | none => cases hk
        | some c0 => simp at hk; rw [hcap c0 rfl]; exact hk
      · rw [b5] at hk; simpa using hk
    · intro hne
      obtain ⟨e0, h0⟩ : ∃ e0, ((es.take h).drop l)[0]? = some e0 := by
        cases hx : (es.take h).drop l with
        | nil => exact absurd hx hne
        | cons a b => exact ⟨a, rfl⟩
      rw [had'.2 (hml 0 e0 h0)]
      exact add_spot (hsp (hes 0 e0 h0))
    · intro i e j d he hd
      rw [had'.2 (hml i e he), add_block, add_off]
      have := hF (l + i) e j d (get i e he).2 hd
      rw [hzn i e he] at this ⊢
      rw [Nat.add_mul] at this
      rw [show ad.off + l * n + (i * n + j) = ad.off + (l * n + i * n + j) by omega]; exact this
    · intro i e j d he hd
      rw [had'.2 (hml i e he), add_block, add_off]
      have := hw (l + i) e j d (get i e he).2 hd
      rw [hzn i e he] at this ⊢
      rw [Nat.add_mul] at this
      rw [show ad.off + l * n + (i * n + j) = ad.off + (l * n + i * n + j) by omega]; exact this
    · intro i e j d he hd; exact g1 (l + i) e j d (get i e he).2 hd
    · intro i e j d he hd; exact hrr (l + i) e j d (get i e he).2 hd

theorem cut_sim (hm : MR φ F w hp nx) {t : TypeId} {dr : Bool} {x d : D} {hp' : List (Nat × Blk)} {lo hi mx : Option D} (h : cut P t dr hp x lo hi mx = some (d, hp')) {v : Value} (hr : VRel φ F w x v) {vlo vhi vmx : Option Value} (h1 : ORel φ F w lo vlo) (h2 : ORel φ F w hi vhi) (h3 : ORel φ F w mx vmx) :
    ∃ v' F', (Instr.sliceAt t v vlo vhi vmx).run P w = .ok v' w ∧ Lk W φ F w hp' nx F' ∧ VRel φ F' w d v' := by
  unfold cut at h
  split at h
  · rename_i b
    have := vrel_s_inv hr
    subst this
    split at h
    · rename_i hu
      split at h
      · rename_i l h' c hb
        simp at h; obtain ⟨rfl, rfl⟩ := h
        obtain ⟨_, _, m, hrun, _, _, _⟩ := bnd_rel (P := P) hb h1 h2 (vmx := none) True.intro (Nat.le_refl _) false
        have hvm : vmx = none := by
          cases vmx with
          | none => rfl
          | some v => exact h3.elim
        subst hvm
        refine ⟨.string (b.extract l h'), F, ?_, Lk.refl hm, vrel_s _⟩
        simp only [Instr.sliceAt, Sem.run_bind, run_underlying hu, Result.andThen_ok, Instr.slice]
        simp [hrun]
      · cases h
    · cases h
  · split at h
    · cases h
    · rename_i el hel
      split at h
      · cases h
      · rename_i n hn
        split at h
        · rename_i cap es _
          split at h
          · rename_i l h' c hb
            split at h
            · rename_i hok
              simp at h; obtain ⟨rfl, rfl⟩ := h
              obtain ⟨v', hrun, hr'⟩ := cut_l hel hn hr hb hok h1 h2 h3
              exact ⟨v', F, hrun, Lk.refl hm, hr'⟩
            · cases h
          · cases h
        · split at h
          · rename_i r hb
            simp at h; obtain ⟨rfl, rfl⟩ := h
            obtain ⟨l, h', c⟩ := r
            have := vrel_s_inv hr
            subst this
            obtain ⟨b1, b2, m, hrun, b3, b4, _⟩ := bnd_rel (P := P) hb h1 h2 h3 (Nat.le_refl _) true
            refine ⟨.slice none 0 0, F, ?_, Lk.refl hm, vrel_s _⟩
            rw [slice_run hel hn hrun]
            have e1 : h' - l = 0 := by omega
            have e2 : m - l = 0 := by omega
            rw [e1, e2]
            simp
          · cases h
        · rename_i id o m z _
          split at h
          · rename_i hz
            subst hz
            split at h
            · split at h
              · rename_i l h' c hb
                simp at h; obtain ⟨rfl, rfl⟩ := h
                obtain ⟨b, cc, ad, hid, hle, had, rfl⟩ := vrel_a_inv hr
                obtain ⟨b1, b2, mm, hrun, b3, b4, b5⟩ := bnd_rel (P := P) hb h1 h2 (mx := none) (vmx := vmx) h3 (show m ≤ cc - o by omega) true
                rcases b5 with ⟨_, rfl, _⟩ | ⟨b5, _, _⟩
                · refine ⟨_, F, slice_run hel hn hrun, Lk.refl hm, ?_⟩
                  obtain ⟨ad', had'⟩ : ∃ ad' : Addr, (if cc - o = l then some ad else (some ad).map (·.add (l * z))) = some ad' ∧ (cc - o ≠ l → ad' = ad.add (l * z)) := by
                    by_cases e : cc - o = l
                    · exact ⟨ad, by simp [e], fun h => absurd e h⟩
                    · exact ⟨ad.add (l * z), by simp [e], fun _ => rfl⟩
                  rw [had'.1, show cc - o - l = cc - (o + l) by omega]
                  refine VRel.a id (o + l) (h' - l) b cc z ad' hid (by omega) (fun hlt => ?_)
                  rw [had'.2 (by omega), had (by omega), add_field, Nat.add_mul]
                · cases b5
              · cases h
            · rename_i mx'
              split at h
              · rename_i c0 es hp1 hf
                split at h
                · rename_i l h' c hb
                  split at h
                  · rename_i hok
                    simp at h; obtain ⟨rfl, rfl⟩ := h
                    obtain ⟨F', hk, hr'⟩ := frz_sim hm hf hr
                    obtain ⟨v', hrun, hr''⟩ := cut_l hel hn hr' hb hok (h1.mono hk.2.1) (h2.mono hk.2.1) (h3.mono hk.2.1)
                    exact ⟨v', F', hrun, hk, hr''⟩
                  · cases h
                · cases h
              · cases h
          · cases h
        · cases h

end
end Vm
end Go.Proofs.YtffgjmfkkfinlaaGreat

/-
  All operations on memory but calls of functions: the machine of values and the model go the same way.
-/
namespace Go.Proofs.YtffgjmfkkfinlaaGreat
namespace Vm
open Go Go.RowKit

section
variable {P : Program} {W : Nat → Prop} {φ : Ph} {F : Fz} {w : World}

/-- Is it a call of a function? -/
def isCall (o : Oper) : Bool := match o.op with
  | .call cl => (match cl.callee with | .builtin _ => false | _ => true)
  | _ => false

/-- The outcome. -/
def Out (P : Program) (k : Nat) (W : Nat → Prop) (φ : Ph) (F : Fz) (w : World) (st : St) (a : Act) (o : Oper) (d : D) (st' : St) : Prop :=
  ∃ v w' φ' F', ((execOp a.eval o).run P w = .ok (.value v) w' ∨ ((execOp a.eval o).run P w = .ok .skip w' ∧ v = undef)) ∧ Post k W φ F w st.nx d v st'.hp st'.nx φ' F' w' ∧ st'.tm = st.tm

theorem write_sim {fr : Fr} {n : Nat} {st st' : St} (hm : MR φ F w st.hp st.nx) (hW : ∀ id, fr.ro = false ∨ fr.k ≤ id → W id) {id lo k z : Nat} {new : List (List D)} (h : writeD fr n st id lo k z new = some st') {v : Value} (hr : VRel φ F w (.a id lo k z) v)
    {news : List Value} (hl : LRel (VRel φ F w) new.flatten news) (h1 : ∀ u ∈ news, one u = true) (hpure : ∀ (i : Nat) (e : List D) (j : Nat) (d : D), new[i]? = some e → e[j]? = some d → isPure d = true) (hn : 0 < n) :
    ∃ ad c w', v = .slice (some ad) k c ∧ (storeCells ad news).run P w = .ok () w' ∧ MR φ F w' st'.hp st'.nx ∧ Ext fr.k W φ F w φ F w' ∧ st'.tm = st.tm ∧ st'.nx = st.nx := by
  unfold writeD at h
  dsimp only at h
  split at h
  · rename_i hc
    obtain ⟨ha, hmd, hle, hnk, hs, hro, rfl⟩ := hc
    simp only [Option.some.injEq] at h
    subst h
    obtain ⟨b, c, ad, hid, hlc, had, rfl⟩ := vrel_a_inv hr
    obtain ⟨cur, te, hcur, hfit, hmr, hext⟩ := over_post hm hid (hW id hro) hmd ha hs (lo := lo) (by omega) hl h1 hpure fr.k
    refine ⟨ad, c - lo, w.setRow b (wrote cur (lo * z) news), rfl, ?_, hmr, hext, rfl, rfl⟩
    by_cases he : new = []
    · subst he
      have hnn := hl.of_nil
      subst hnn
      have : wrote cur (lo * z) [] = cur := by
        simp [wrote]
      rw [this, store_nil]
      congr 1
      exact (setRow_self w b cur te (0, 0) hcur).symm
    · have hpos : 0 < new.length := by
        cases new with
        | nil => exact absurd rfl he
        | cons a b => simp
      have hB := hm.blk id b c z hid (by omega)
      have := hB.le ha
      rw [had (by omega)]
      have hst := run_storeCells_at (P := P) b (lo * z) te news 0 cur w hcur (by simpa using hfit) h1
      simpa [wrote] using hst
  · cases h

theorem mem_sim {c : Cfg} {fr : Fr} {dr : Bool} {call : Callee} {st st' : St} {o : Oper} {d : D} (hnc : isCall o = false) (hm : MR φ F w st.hp st.nx) (hW : ∀ id, fr.ro = false ∨ fr.k ≤ id → W id) (hk : fr.k ≤ st.nx) {a : Act} (ht : TRel φ F w st.tm a)
    (h : op1 P c fr dr call st o = some (d, st')) : Out P fr.k W φ F w st a o d st' := by
  unfold op1 at h
  unfold Out execOp
  have lift : ∀ (s : Sem Value) {v : Value} {w' : World}, s.run P w = .ok v w' → (do pure (.value (← s)) : Sem Next).run P w = .ok (.value v) w' := fun s v w' h1 => by
    simp only [Sem.run_bind, h1, Result.andThen_ok, Sem.run_pure]
  cases ho : o.op <;> simp only [ho] at h ⊢ <;> try (cases h; done)
  case alloc t =>
    split at h
    · rename_i z hz
      simp only [op1.newVar, Option.some.injEq, Prod.mk.injEq] at h
      obtain ⟨rfl, rfl⟩ := h
      obtain ⟨i, zv, hi, hzv, rfl, hone⟩ := zer_inv hz
      refine ⟨_, _, _, F, .inl (lift _ ?_), newVar_post hm hk (lrel_s zv.cells.toList) hone t, rfl⟩
      simp [Instr.alloc, zeroValue, typeInfo, hi, hzv, newVar, newRow]
    · cases h
  case box t x =>
    split at h
    · rename_i cs hcs
      simp only [op1.newVar, Option.some.injEq, Prod.mk.injEq] at h
      obtain ⟨rfl, rfl⟩ := h
      obtain ⟨hl, hone⟩ := cellsOf_rel hcs (ht.ev x)
      refine ⟨_, _, _, F, .inl (lift _ ?_), newVar_post hm hk hl hone t, rfl⟩
      simp [Instr.box, newVar, newRow]
    · cases h
  case buildSlice t len ps =>
    split at h
    · rename_i el hel
      split at h
      · rename_i n hn
        split at h
        · rename_i es hes
          split at h
          · rename_i hc
            obtain ⟨h1, h2, h3, h4, h5⟩ := hc
            simp at h; obtain ⟨rfl, rfl⟩ := h
            obtain ⟨v, w', F', hrun, hp⟩ := buildSlice_sim hm ht hel hn h5 hes h1 h2 h3 h4 fr.k
            exact ⟨v, w', φ, F', .inl (lift _ hrun), hp, rfl⟩
          · cases h
        · cases h
      · cases h
    · cases h
  case load t x =>
    split at h
    · rename_i cs n hcs hn
      split at h
      · rename_i d' hd
        simp at h; obtain ⟨rfl, rfl⟩ := h
        obtain ⟨ad, hv, hc⟩ := memAt_rel hm hcs (ht.ev x)
        obtain ⟨v, hrun, hr⟩ := load_rel hn hd hc
        rw [hv]
        exact ⟨v, w, φ, F, .inl (lift _ hrun), Post.quiet hm fr.k hr, rfl⟩
      · cases h
    · cases h
  case store t x y =>
    split at h
    · rename_i id i off n cs hx hn hcs
      split at h
      · rename_i hc
        obtain ⟨h1, h2, h3, h4⟩ := hc
        split at h
        · rename_i el hel
          split at h
          · rename_i hle
            simp only [Option.some.injEq, Prod.mk.injEq] at h
            obtain ⟨rfl, rfl⟩ := h
            obtain ⟨hl, hone⟩ := cellsOf_rel hcs (ht.ev y)
            obtain ⟨w', hrun, hmr, hext⟩ := store_rel hm hn hl hone h1 h2 h3 (hW id h4) hel hle (hx ▸ ht.ev x) fr.k
            refine ⟨undef, w', φ, F, .inr ⟨?_, rfl⟩, ⟨fun _ _ h => h, fun _ _ => rfl, hext, vrel_s _, hmr, Nat.le_refl _⟩, rfl⟩
            simp only [Sem.run_bind, hrun, Result.andThen_ok, Sem.run_pure]
          · cases h
        · cases h
      · cases h
    · cases h
  case makeSlice t x y =>
    split at h
    · rename_i el n m hel hx hy
      split at h
      · rename_i k by_ z hk' hby hz
        split at h
        · rename_i hc
          obtain ⟨rfl, h2, h3, h4, h5⟩ := hc
          simp only [Option.some.injEq, Prod.mk.injEq] at h
          obtain ⟨rfl, rfl⟩ := h
          obtain ⟨k1, hvx⟩ := asNat_rel hx (ht.ev x)
          obtain ⟨k2, hvy⟩ := asNat_rel hy (ht.ev y)
          rw [hvx, hvy]
          obtain ⟨v, w', φ', hrun, hp⟩ := make_sim hm hk hel hk' hby hz h2 h5 h3 h4 (k1 := k1) (k2 := k2)
          exact ⟨v, w', φ', F, .inl (lift _ hrun), hp, rfl⟩
        · cases h
      · cases h
    · cases h
  case slice t x lo hi mx =>
    split at h
    · rename_i d' hp' hc
      simp at h; obtain ⟨rfl, rfl⟩ := h
      obtain ⟨v', F', hrun, hlk, hr⟩ := cut_sim hm hc (ht.ev x) (orel_map ht lo) (orel_map ht hi) (orel_map ht mx)
      exact ⟨v', w, φ, F', .inl (lift _ hrun), Post.lk hlk fr.k hr, rfl⟩
    · cases h
  case call cl =>
    have hargs : cl.args.map a.eval = (cl.args.toList.map a.eval).toArray := map_eval _ _
    have hev := ht.evs cl.args.toList
    cases hcl : cl.callee <;> simp only [hcl] at h
    case value fx => simp [isCall, ho, hcl] at hnc
    case invoke r m => cases h
    rename_i b
    obtain ⟨cons, hres⟩ : ∃ cons, resolve a.eval cl o.type = pure { target := .builtin b cl.argTypes o.type cons, args := cl.args.map a.eval } := ⟨_, by unfold resolve; simp only [hcl]; rfl⟩
    have hb : (do let d ← resolve a.eval cl o.type; invoke d.target d.args : Sem Next) = builtin b cl.argTypes o.type cons (cl.args.map a.eval) := by rw [hres]; rfl
    rw [hb]
    have two : ∀ {x y : D} {t u : TypeId}, cl.args.toList.map (ev st.tm) = [x, y] → cl.argTypes.toList = [t, u] → ∃ vx vy, cl.args.map a.eval = #[vx, vy] ∧ cl.argTypes = #[t, u] ∧ VRel φ F w x vx ∧ VRel φ F w y vy := by
      intro x y t u he hts
      rw [he] at hev
      obtain ⟨vx, r1, h1, hx, hr1⟩ := hev.head
      obtain ⟨vy, r2, h2, hy, hr2⟩ := hr1.head
      rw [hr2.of_nil] at h2
      rw [h2] at h1
      refine ⟨vx, vy, by rw [hargs, h1], ?_, hx, hy⟩
      apply Array.ext'; rw [hts]
    have onea : ∀ {x : D} {t : TypeId}, cl.args.toList.map (ev st.tm) = [x] → cl.argTypes.toList = [t] → ∃ vx, cl.args.map a.eval = #[vx] ∧ cl.argTypes = #[t] ∧ VRel φ F w x vx := by
      intro x t he hts
      rw [he] at hev
      obtain ⟨vx, r1, h1, hx, hr1⟩ := hev.head
      rw [hr1.of_nil] at h1
      refine ⟨vx, by rw [hargs, h1], ?_, hx⟩
      apply Array.ext'; rw [hts]
    cases b <;> simp only at h <;> try (cases h; done)
    case cap =>
      split at h
      · rename_i x t he hts
        split at h
        · rename_i el n hel hn
          simp at h; obtain ⟨rfl, rfl⟩ := h
          obtain ⟨vx, e1, e2, hx⟩ := onea he hts
          rw [e1, e2]
          unfold builtin
          refine ⟨.int .i64 n, w, φ, F, .inl (lift _ ?_), Post.quiet hm fr.k (vrel_s _), rfl⟩
          have hu := elt_under hel
          unfold capD at hn
          split at hn
          · simp at hn; subst hn
            rw [vrel_s_inv hx]
            simp [Builtin.cap_, run_underlying hu, goInt]
          · simp at hn; subst hn
            have hxl := vrel_l_inv hx
            generalize vx = v' at hxl
            cases hxl with
            | l cap es ad cc z vs hle hcap hz hsp hF hw g1 hrr =>
              have := hcap _ rfl
              subst this
              simp [Builtin.cap_, run_underlying hu, goInt]
          · rename_i id lo m z
            split at hn
            · rename_i hmd
              split at hn
              · rename_i cc hcc
                simp at hn; subst hn
                obtain ⟨b, c', ad, hid, hle, had, rfl⟩ := vrel_a_inv hx
                have := (hm.blk id b c' z hid hmd).cap cc hcc
                subst this
                simp [Builtin.cap_, run_underlying hu, goInt]
              · cases hn
            · cases hn
          · cases hn
        · cases h
      · cases h
    case copy =>
      split at h
      · rename_i x y t u he hts
        split at h
        · rename_i el el' hel hel'
          split at h
          · rename_i n hn
            split at h
            · rename_i hpos
              obtain ⟨vx, vy, e1, e2, hx, hy⟩ := two he hts
              unfold copyD at h
              split at h
              · rename_i id lo k z src hpk
                split at h
                · rename_i hss
                  split at h
                  · rename_i st1 hw
                    simp only [Option.some.injEq, Prod.mk.injEq] at h
                    obtain ⟨rfl, rfl⟩ := h
                    obtain ⟨news, n1, n2, n3, n4, n5⟩ := src_rel (P := P) hm hpk hss hy
                    have hlen : (src.take k).length = min k src.length := List.length_take
                    have hflat : (src.take k).flatten = src.flatten.take ((src.take k).length * n) := by
                      have : src.flatten = (src.take k).flatten ++ (src.drop k).flatten := by rw [← List.flatten_append, List.take_append_drop]
                      rw [this]
                      have hst : sizesOk n (src.take k) = true := sizesOk_of fun i e h => by
                        rw [List.getElem?_take] at h
                        split at h
                        · exact sizesOk_get hss i e h
                        · cases h
                      rw [← flat_len hst, List.take_left]
                    have hr : LRel (VRel φ F w) (src.take k).flatten (news.take ((src.take k).length * n)) := by rw [hflat]; exact n1.take _
                    obtain ⟨ad, cc, w', hv, hst, hmr, hext, htm, hnx⟩ := write_sim hm hW hw hx hr (fun u hu => n2 u (List.mem_of_mem_take hu)) (fun i e j d he hd => by
                      rw [List.getElem?_take] at he
                      split at he
                      · exact n3 i e j d he hd
                      · cases he) hpos
                    rw [e1, e2, hv]
                    unfold builtin
                    refine ⟨.int .i64 (src.take k).length, w', φ, F, .inl (lift _ ?_), ⟨fun _ _ h => h, fun _ _ => rfl, hext, vrel_s _, hmr, by rw [hnx]; exact Nat.le_refl _⟩, htm⟩
                    have hfc := n5 (src.take k).length w (by rw [hlen]; omega) rfl
                    have hmin : Nat.min src.length k = (src.take k).length := by rw [hlen]; exact Nat.min_comm _ _
                    simp only [Builtin.copy_, List.getElem?_toArray, List.getElem?_cons_zero, List.getElem?_cons_succ, Sem.run_bind, run_underlying (elt_under hel), Result.andThen_ok, n4, sz_run hn, hmin, hfc, Sem.run_pure, goInt]
                    rw [hst]; rfl
                  · cases h
                · cases h
              · cases h
            · cases h
          · cases h
        · cases h
      · cases h
    case clear =>
      split at h
      · rename_i id lo k z0 t he hts
        split at h
        · rename_i el hel
          split at h
          · rename_i z hz
            split at h
            · rename_i st1 n hw hn
              split at h
              · rename_i hc
                obtain ⟨rfl, hpos, hk0⟩ := hc
                simp only [Option.some.injEq, Prod.mk.injEq] at h
                obtain ⟨rfl, rfl⟩ := h
                obtain ⟨vx, e1, e2, hx⟩ := onea he hts
                obtain ⟨i, zv, hi, hzv, hzd, hone⟩ := zer_inv hz
                obtain ⟨r1, r2⟩ := zeros_rel (φ := φ) (F := F) (w := w) hzd hone hpos k
                obtain ⟨ad, cc, w', hv, hst, hmr, hext, htm, hnx⟩ := write_sim hm hW hw hx r1 r2 (fun i e j d he hd => by
                  rw [List.getElem?_replicate] at he
                  split at he
                  · simp at he; subst he
                    rw [hzd, List.getElem?_map] at hd
                    cases hq : zv.cells.toList[j]? with
                    | none => simp [hq] at hd
                    | some q => simp [hq] at hd; subst hd; rfl
                  · cases he) hpos
                rw [e1, e2, hv]
                unfold builtin
                refine ⟨undef, w', φ, F, .inl (lift _ ?_), ⟨fun _ _ h => h, fun _ _ => rfl, hext, vrel_s _, hmr, by rw [hnx]; exact Nat.le_refl _⟩, htm⟩
                obtain ⟨k', rfl⟩ : ∃ k', k = k' + 1 := ⟨k - 1, by omega⟩
                simp only [Builtin.clear_, List.getElem?_toArray, List.getElem?_cons_zero, Sem.run_bind, run_underlying (elt_under hel), Result.andThen_ok]
                simp [zeroValue, typeInfo, hi, hzv, undef]
                rw [hst]; rfl
              · cases h
            · cases h
          · cases h
        · cases h
      · cases h
    case append =>
      split at h
      · rename_i x y t u he hts
        split at h
        · rename_i el hel
          split at h
          · rename_i n by_ z hn hby hz
            split at h
            · rename_i hc
              obtain ⟨hpos, hzl⟩ := hc
              obtain ⟨vx, vy, e1, e2, hx, hy⟩ := two he hts
              rw [e1, e2]
              unfold builtin
              split at h
              · rename_i el' hel'
                cases hpk : peek st.hp y with
                | none => unfold appendD at h; simp [hpk] at h
                | some new =>
                  obtain ⟨v, w', φ', F', hrun, hp, htm⟩ := append_sim (P := P) (t := t) (u := u) (ty := o.type) (e := el) (n := n) (bytes := by_) (st' := st') (tm := st.tm) hm hW hpk hpos hx
                    (fun hs => src_slice (elt_under hel) (elt_under hel') hn hby hz hzl hs (src_rel hm hpk hs hy)) h hk
                  exact ⟨v, w', φ', F', .inl (lift _ hrun), hp, htm⟩
              · rename_i m hnone hint hm'
                obtain ⟨k', rfl⟩ := asNat_rel hm' hy
                obtain ⟨kk, hkk⟩ : ∃ kk, P.underlying u = some (.int kk) := by
                  unfold intT at hint
                  split at hint
                  · exact ⟨_, by assumption⟩
                  · cases hint
                obtain ⟨v, w', φ', F', hrun, hp, htm⟩ := append_sim (P := P) (t := t) (u := u) (ty := o.type) (e := el) (n := n) (bytes := by_) (st' := st') (tm := st.tm) hm hW (y := .l none (List.replicate m z)) rfl hpos hx
                    (fun hs => src_zeros (elt_under hel) hkk hn hby hz hzl hpos) h hk
                exact ⟨v, w', φ', F', .inl (lift _ hrun), hp, htm⟩
              · cases h
            · cases h
          · cases h
        · cases h
      · cases h

end
end Vm
end Go.Proofs.YtffgjmfkkfinlaaGreat

/-
  Names made anew: values, blocks, what is reached.
-/
namespace Go.Proofs.YtffgjmfkkfinlaaGreat
namespace Vm
open Go Go.RowKit

section
variable {φ φ2 : Ph} {F : Fz} {w : World} {ρ : List (Nat × Nat)}

/-- The new names tell the same blocks. -/
def Agree (φ : Ph) (ρ : List (Nat × Nat)) (φ2 : Ph) : Prop := ∀ id x y, φ id = some x → nm ρ id = some y → φ2 y = some x

theorem prel_any {φ2 : Ph} {d : D} {v : Value} (h : PRel F w d v) : VRel φ2 F w d v := .pure h

theorem renA_rel (hA : Agree φ ρ φ2) {d : D} {v : Value} (h : VRel φ F w d v) : VRel φ2 F w (renA ρ d) v := by
  cases d with
  | p id i off =>
    obtain ⟨b, c, z, hid, rfl⟩ := vrel_p_inv h
    simp only [renA]
    split
    · rename_i y hy; exact .p _ _ _ _ _ _ (hA _ _ _ hid hy)
    · exact .u _
  | a id lo n z =>
    obtain ⟨b, c, ad, hid, hn, had, rfl⟩ := vrel_a_inv h
    simp only [renA]
    split
    · rename_i y hy; exact .a _ _ _ _ _ _ _ (hA _ _ _ hid hy) hn had
    · exact .u _
  | s x => rw [vrel_s_inv h]; exact vrel_s _
  | l c es => exact .pure (vrel_l_inv h)
  | q cs => exact .pure (vrel_q_inv h)
  | _ => exact .u _

theorem renG_rel (hA : Agree φ ρ φ2) {d : D} {v : Value} (h : VRel φ F w d v) : VRel φ2 F w (renG ρ d) v := by
  cases d with
  | g cs =>
    obtain ⟨vs, rfl, h1, hl⟩ := vrel_g_inv h
    exact vrel_g h1 (hl.map fun _ _ h => renA_rel hA h)
  | _ => exact renA_rel hA h

theorem ren_rel (hA : Agree φ ρ φ2) {d : D} {v : Value} (h : VRel φ F w d v) : VRel φ2 F w (ren ρ d) v := by
  cases d with
  | t vs =>
    obtain ⟨us, rfl, hl⟩ := vrel_t_inv h
    exact vrel_t (hl.map fun _ _ h => renG_rel hA h)
  | f fn x y =>
    obtain ⟨vx, vy, rfl, hx, hy⟩ := vrel_f_inv h
    have hx' := hx.map (f := renG ρ) (r' := VRel φ2 F w) fun _ _ h => renG_rel hA h
    have hy' := hy.map (f := renG ρ) (r' := VRel φ2 F w) fun _ _ h => renG_rel hA h
    exact .f fn _ _ vx vy hx'.1 hy'.1 hx'.2 hy'.2
  | _ => exact renG_rel hA h

theorem renB_md (ρ : List (Nat × Nat)) (B : Blk) : (renB ρ B).md = B.md := by unfold renB; split <;> rfl
theorem renB_arr (ρ : List (Nat × Nat)) (B : Blk) : (renB ρ B).arr = B.arr := by unfold renB; split <;> rfl
theorem renB_len (ρ : List (Nat × Nat)) (B : Blk) : (renB ρ B).es.length = B.es.length := by unfold renB; split <;> simp

theorem BRel.ren {B : Blk} {b c z : Nat} (h : BRel φ F w B b c z) (hA : Agree φ ρ φ2) : BRel φ2 F w (renB ρ B) b c z := by
  unfold renB
  split
  · rename_i hp
    exact ⟨h.heap, fun i e j d he hd => by
      obtain ⟨v, h1, h2, h3⟩ := h.cell i e j d he hd
      exact ⟨v, h1, h2, .pure (vrel_pure (h.pu hp i e j d he hd) h3)⟩, h.len, h.le, h.pos, h.cap, h.single, h.pu⟩
  · rename_i hp
    have inv : ∀ (i : Nat) (e : List D), (B.es.map (·.map (Vm.ren ρ)))[i]? = some e → ∃ e0, B.es[i]? = some e0 ∧ e = e0.map (Vm.ren ρ) := by
      intro i e he
      rw [List.getElem?_map] at he
      cases hb : B.es[i]? with
      | none => simp [hb] at he
      | some e0 => simp [hb] at he; exact ⟨e0, rfl, he.symm⟩
    refine ⟨h.heap, ?_, ?_, ?_, h.pos, h.cap, ?_, fun hp' => absurd hp' hp⟩
    · intro i e j d he hd
      obtain ⟨e0, h0, rfl⟩ := inv i e he
      rw [List.getElem?_map] at hd
      cases hj : e0[j]? with
      | none => simp [hj] at hd
      | some d0 =>
        simp [hj] at hd; subst hd
        obtain ⟨v, h1, h2, h3⟩ := h.cell i e0 j d0 h0 hj
        exact ⟨v, h1, h2, ren_rel hA h3⟩
    · intro ha i e he
      obtain ⟨e0, h0, rfl⟩ := inv i e he
      simpa using h.len ha i e0 h0
    · intro ha; simpa using h.le ha
    · intro ha; simpa using h.single ha

end

theorem has_iff {l : List Nat} {x : Nat} : has l x = true ↔ x ∈ l := by
  induction l with
  | nil => simp [has]
  | cons y r ih =>
    simp only [has, List.mem_cons]
    by_cases e : x = y
    · simp [e]
    · simp [e, ih]

theorem reach_spec (hp : List (Nat × Blk)) : ∀ (n : Nat) (todo seen : List Nat), seen.Nodup → (∀ x ∈ seen, (rdH hp x).md < 2) → (reach hp n todo seen).Nodup ∧ ∀ x ∈ reach hp n todo seen, (rdH hp x).md < 2
  | 0, todo, seen, h1, h2 => by unfold reach; exact ⟨h1, h2⟩
  | n + 1, [], seen, h1, h2 => by unfold reach; exact ⟨h1, h2⟩
  | n + 1, x :: todo, seen, h1, h2 => by
    unfold reach
    split
    · exact reach_spec hp n todo seen h1 h2
    · rename_i hc
      simp only [Bool.or_eq_true, decide_eq_true_eq, not_or] at hc
      have hx : x ∉ seen := fun h => hc.1 (has_iff.2 h)
      refine reach_spec hp n _ _ ?_ ?_
      · rw [List.nodup_append]
        refine ⟨h1, by simp, fun a ha b hb => ?_⟩
        simp at hb; subst hb
        exact fun e => hx (e ▸ ha)
      · intro y hy
        rcases List.mem_append.1 hy with h | h
        · exact h2 y h
        · simp at h; subst h; omega

theorem nm_pos : ∀ {ids : List Nat} {i id j : Nat}, nm (pos i ids) id = some j → ∃ m, j = i + m ∧ ids[m]? = some id
  | [], i, id, j, h => by simp [pos, nm] at h
  | x :: r, i, id, j, h => by
    simp only [pos, nm] at h
    split at h
    · rename_i e; simp at h; subst h; subst e; exact ⟨0, rfl, rfl⟩
    · obtain ⟨m, h1, h2⟩ := nm_pos h
      exact ⟨m + 1, by omega, by simpa using h2⟩

theorem nm_pos_get : ∀ {ids : List Nat} {i m id : Nat}, ids.Nodup → ids[m]? = some id → nm (pos i ids) id = some (i + m)
  | [], i, m, id, _, h => by simp at h
  | x :: r, i, m, id, hn, h => by
    simp only [pos, nm]
    cases m with
    | zero => simp at h; simp [h]
    | succ m =>
      simp at h
      have hne : x ≠ id := fun e => by
        have := List.mem_of_getElem? h
        rw [List.nodup_cons] at hn
        exact hn.1 (e ▸ this)
      rw [if_neg hne, nm_pos_get (i := i + 1) (List.nodup_cons.1 hn).2 h]
      congr 1; omega

theorem nm_backOf : ∀ (n : Nat) {fresh i j : Nat} {l : List Nat}, nm (backOf fresh i n l) j = if i ≤ j ∧ j < i + n then (match l[j - i]? with | some x => some x | none => some (fresh + (j - i - l.length))) else none
  | 0, fresh, i, j, l => by
    unfold backOf
    rw [if_neg (by omega)]; rfl
  | n + 1, fresh, i, j, l => by
    unfold backOf
    cases l with
    | nil =>
      simp only [nm]
      by_cases e : i = j
      · subst e; simp
      · rw [if_neg e, nm_backOf n]
        by_cases h : i ≤ j ∧ j < i + (n + 1)
        · rw [if_pos (by omega), if_pos h]
          simp; omega
        · rw [if_neg (by omega), if_neg h]
    | cons x r =>
      simp only [nm]
      by_cases e : i = j
      · subst e; simp
      · rw [if_neg e, nm_backOf n]
        by_cases h : i ≤ j ∧ j < i + (n + 1)
        · rw [if_pos (by omega), if_pos h]
          have e1 : j - i = (j - (i + 1)) + 1 := by omega
          rw [e1, List.getElem?_cons_succ]
          cases hr : r[j - (i + 1)]? with
          | some y => rfl
          | none => simp
        · rw [if_neg (by omega), if_neg h]

theorem rdH_initH : ∀ (bs : List Blk) (i j : Nat), rdH (initH i bs) j = if i ≤ j then (match bs[j - i]? with | some B => B | none => noBlk) else noBlk
  | [], i, j => by simp [initH, rdH]
  | B :: bs, i, j => by
    simp only [initH, rdH]
    by_cases e : i = j
    · subst e; simp
    · rw [if_neg e, rdH_initH bs]
      by_cases h : i ≤ j
      · have e1 : j - i = (j - (i + 1)) + 1 := by omega
        rw [if_pos (by omega), if_pos h, e1, List.getElem?_cons_succ]
      · rw [if_neg (by omega), if_neg h]

theorem addB_miss {ρ : List (Nat × Nat)} : ∀ (bs : List Blk) (i : Nat) (hp : List (Nat × Blk)) (x : Nat), (∀ j, i ≤ j → j < i + bs.length → nm ρ j ≠ some x) → rdH (callD.addB ρ i bs hp) x = rdH hp x
  | [], i, hp, x, _ => by simp [callD.addB]
  | B :: bs, i, hp, x, h => by
    simp only [callD.addB]
    split
    · rename_i y hy
      rw [addB_miss bs (i + 1) _ x (fun j h1 h2 => h j (by omega) (by simp; omega))]
      refine rdH_cons_other _ _ (fun e => ?_)
      subst e
      exact h i (Nat.le_refl _) (by simp) hy
    · exact addB_miss bs (i + 1) _ x (fun j h1 h2 => h j (by omega) (by simp; omega))

theorem addB_hit {ρ : List (Nat × Nat)} (hinj : ∀ i j x, nm ρ i = some x → nm ρ j = some x → i = j) : ∀ (bs : List Blk) (i : Nat) (hp : List (Nat × Blk)) (x j : Nat) (B : Blk), i ≤ j → bs[j - i]? = some B → nm ρ j = some x → rdH (callD.addB ρ i bs hp) x = renB ρ B
  | [], i, hp, x, j, B, _, h, _ => by simp at h
  | B0 :: bs, i, hp, x, j, B, hij, h, hx => by
    simp only [callD.addB]
    by_cases e : j = i
    · subst e
      simp at h; subst h
      rw [hx]
      simp only
      rw [addB_miss bs (j + 1) _ x (fun k h1 h2 hk => by have := hinj k j x hk hx; omega)]
      exact rdH_cons_same _ _ _
    · have e1 : j - i = (j - (i + 1)) + 1 := by omega
      rw [e1, List.getElem?_cons_succ] at h
      split
      · exact addB_hit hinj bs (i + 1) _ x j B (by omega) h hx
      · exact addB_hit hinj bs (i + 1) _ x j B (by omega) h hx

end Vm
end Go.Proofs.YtffgjmfkkfinlaaGreat

/-
  A call: what is handed over, and what comes back.
-/
namespace Go.Proofs.YtffgjmfkkfinlaaGreat
namespace Vm
open Go Go.RowKit

section
variable {P : Program} {W : Nat → Prop} {φ : Ph} {F : Fz} {w : World} {hp : List (Nat × Blk)} {nx : Nat}

/-! What a value refers to is known -/
theorem refsA_known {d : D} {v : Value} (h : VRel φ F w d v) : ∀ id ∈ refsA d, ∃ x, φ id = some x := by
  intro id hid
  cases d with
  | p i _ _ => simp [refsA] at hid; subst hid; obtain ⟨b, c, z, hx, _⟩ := vrel_p_inv h; exact ⟨_, hx⟩
  | a i _ _ _ => simp [refsA] at hid; subst hid; obtain ⟨b, c, ad, hx, _⟩ := vrel_a_inv h; exact ⟨_, hx⟩
  | _ => simp [refsA] at hid
theorem refsL_known : ∀ {ds : List D} {vs : List Value} (_ : LRel (VRel φ F w) ds vs), ∀ id ∈ refsL ds, ∃ x, φ id = some x
  | [], vs, _, id, hid => by simp [refsL] at hid
  | d :: ds, vs, h, id, hid => by
    obtain ⟨v, vs', rfl, hd, ht⟩ := h.head
    simp only [refsL, List.mem_append] at hid
    rcases hid with h | h
    · exact refsA_known hd id h
    · exact refsL_known ht id h
theorem refsG_known {d : D} {v : Value} (h : VRel φ F w d v) : ∀ id ∈ refsG d, ∃ x, φ id = some x := by
  cases d with
  | g cs => obtain ⟨vs, rfl, _, hl⟩ := vrel_g_inv h; exact refsL_known hl
  | _ => exact refsA_known h
theorem refsGL_known : ∀ {ds : List D} {vs : List Value} (_ : LRel (VRel φ F w) ds vs), ∀ id ∈ refsGL ds, ∃ x, φ id = some x
  | [], vs, _, id, hid => by simp [refsGL] at hid
  | d :: ds, vs, h, id, hid => by
    obtain ⟨v, vs', rfl, hd, ht⟩ := h.head
    simp only [refsGL, List.mem_append] at hid
    rcases hid with h | h
    · exact refsG_known hd id h
    · exact refsGL_known ht id h
theorem refs_known {d : D} {v : Value} (h : VRel φ F w d v) : ∀ id ∈ refs d, ∃ x, φ id = some x := by
  cases d with
  | t vs => obtain ⟨us, rfl, hl⟩ := vrel_t_inv h; exact refsGL_known hl
  | f fn x y =>
    obtain ⟨vx, vy, rfl, hx, hy⟩ := vrel_f_inv h
    intro id hid
    simp only [refs, List.mem_append] at hid
    rcases hid with h | h
    · exact refsGL_known hx id h
    · exact refsGL_known hy id h
  | _ => exact refsG_known h
theorem refsLL_known : ∀ {ds : List D} {vs : List Value} (_ : LRel (VRel φ F w) ds vs), ∀ id ∈ refsLL ds, ∃ x, φ id = some x
  | [], vs, _, id, hid => by simp [refsLL] at hid
  | d :: ds, vs, h, id, hid => by
    obtain ⟨v, vs', rfl, hd, ht⟩ := h.head
    simp only [refsLL, List.mem_append] at hid
    rcases hid with h | h
    · exact refs_known hd id h
    · exact refsLL_known ht id h
theorem refsGLf_known : ∀ {ds : List D} (_ : ∀ d ∈ ds, ∃ v, VRel φ F w d v), ∀ id ∈ refsE.refsGLf ds, ∃ x, φ id = some x
  | [], _, id, hid => by simp [refsE.refsGLf] at hid
  | d :: ds, h, id, hid => by
    simp only [refsE.refsGLf, List.mem_append] at hid
    rcases hid with h' | h'
    · obtain ⟨v, hv⟩ := h d (by simp); exact refs_known hv id h'
    · exact refsGLf_known (fun d hd => h d (by simp [hd])) id h'
theorem refsE_known : ∀ {es : List (List D)} (_ : ∀ e ∈ es, ∀ d ∈ e, ∃ v, VRel φ F w d v), ∀ id ∈ refsE es, ∃ x, φ id = some x
  | [], _, id, hid => by simp [refsE] at hid
  | e :: es, h, id, hid => by
    simp only [refsE, List.mem_append] at hid
    rcases hid with h' | h'
    · exact refsGLf_known (h e (by simp)) id h'
    · exact refsE_known (fun e he => h e (by simp [he])) id h'
theorem refsB_known {B : Blk} {b c z : Nat} (h : BRel φ F w B b c z) : ∀ id ∈ refsB B, ∃ x, φ id = some x := by
  unfold refsB
  split
  · intro id hid; simp at hid
  · refine refsE_known (F := F) (w := w) fun e he d hd => ?_
    obtain ⟨i, hi⟩ := List.getElem?_of_mem he
    obtain ⟨j, hj⟩ := List.getElem?_of_mem hd
    obtain ⟨v, _, _, hr⟩ := h.cell i e j d hi hj
    exact ⟨v, hr⟩
theorem reach_known (hm : MR φ F w hp nx) : ∀ (n : Nat) (todo seen : List Nat), (∀ x ∈ todo, ∃ y, φ x = some y) → (∀ x ∈ seen, ∃ y, φ x = some y) → ∀ x ∈ reach hp n todo seen, ∃ y, φ x = some y
  | 0, todo, seen, _, h2 => by unfold reach; exact h2
  | n + 1, [], seen, _, h2 => by unfold reach; exact h2
  | n + 1, x :: todo, seen, h1, h2 => by
    unfold reach
    split
    · exact reach_known hm n todo seen (fun y hy => h1 y (by simp [hy])) h2
    · rename_i hc
      simp only [Bool.or_eq_true, decide_eq_true_eq, not_or] at hc
      obtain ⟨⟨b, c, z⟩, hx⟩ := h1 x (by simp)
      refine reach_known hm n _ _ (fun y hy => ?_) (fun y hy => ?_)
      · rcases List.mem_append.1 hy with h | h
        · exact h1 y (by simp [h])
        · exact refsB_known (hm.blk x b c z hx (by omega)) y h
      · rcases List.mem_append.1 hy with h | h
        · exact h2 y h
        · simp at h; subst h; exact ⟨_, hx⟩

theorem frz_other {dr : Bool} {hp hp' : List (Nat × Blk)} {d d' : D} (h : frz dr hp d = some (d', hp')) {id : Nat} (ha : (rdH hp id).arr = false) : rdH hp' id = rdH hp id := by
  cases d <;> try (simp [frz] at h; rw [← h.2]; done)
  rename_i i lo n z
  simp only [frz] at h
  split at h
  · rename_i hc
    split at h
    · split at h
      · cases h
      · simp at h; obtain ⟨_, rfl⟩ := h
        refine rdH_cons_other _ _ (fun e => ?_)
        subst e; rw [hc.2.1] at ha; cases ha
    · simp at h; rw [← h.2]
    · cases h
  · cases h
theorem frzs_other {dr : Bool} : ∀ {ds ds' : List D} {hp hp' : List (Nat × Blk)} (_ : frzs dr hp ds = some (ds', hp')) {id : Nat} (_ : (rdH hp id).arr = false), rdH hp' id = rdH hp id
  | [], ds', hp, hp', h, id, ha => by simp [frzs] at h; rw [← h.2]
  | d :: ds, ds', hp, hp', h, id, ha => by
    simp only [frzs] at h
    split at h
    · rename_i d1 hp1 h1
      split at h
      · rename_i ds1 hp2 h2
        simp at h; obtain ⟨_, rfl⟩ := h
        have e1 := frz_other h1 ha
        rw [← e1] at ha ⊢
        exact frzs_other h2 ha
      · cases h
    · cases h
theorem frzG_other {dr : Bool} {hp hp' : List (Nat × Blk)} {d d' : D} (h : frzG dr hp d = some (d', hp')) {id : Nat} (ha : (rdH hp id).arr = false) : rdH hp' id = rdH hp id := by
  cases d with
  | g cs =>
    simp only [frzG] at h
    split at h
    · rename_i cs' hp1 h1
      simp at h; obtain ⟨_, rfl⟩ := h
      exact frzs_other h1 ha
    · cases h
  | _ => simp only [frzG] at h; exact frz_other h ha
theorem frzGs_other {dr : Bool} : ∀ {ds ds' : List D} {hp hp' : List (Nat × Blk)} (_ : frzGs dr hp ds = some (ds', hp')) {id : Nat} (_ : (rdH hp id).arr = false), rdH hp' id = rdH hp id
  | [], ds', hp, hp', h, id, ha => by simp [frzGs] at h; rw [← h.2]
  | d :: ds, ds', hp, hp', h, id, ha => by
    simp only [frzGs] at h
    split at h
    · rename_i d1 hp1 h1
      split at h
      · rename_i ds1 hp2 h2
        simp at h; obtain ⟨_, rfl⟩ := h
        have e1 := frzG_other h1 ha
        rw [← e1] at ha ⊢
        exact frzGs_other h2 ha
      · cases h
    · cases h

theorem MR.repl (hm : MR φ F w hp nx) {id : Nat} {B' : Blk} (hB' : ∀ b c z, φ id = some (b, c, z) → (rdH hp id).md < 2 → BRel φ F w B' b c z) (hmd : B'.md = (rdH hp id).md) (harr : B'.arr = false) : MR φ F w ((id, B') :: hp) nx where
  blk := fun i b c z hi hl => by
    by_cases e : i = id
    · subst e; rw [rdH_cons_same] at hl ⊢; exact hB' b c z hi (hmd ▸ hl)
    · rw [rdH_cons_other B' hp (fun x => e x.symm)] at hl ⊢; exact hm.blk i b c z hi hl
  rw := fun i b c z hi hl => by
    by_cases e : i = id
    · subst e; rw [rdH_cons_same] at hl; exact hm.rw i b c z hi (hmd ▸ hl)
    · rw [rdH_cons_other B' hp (fun x => e x.symm)] at hl; exact hm.rw i b c z hi hl
  tip := fun i b c z hi hl ha o ho => by
    by_cases e : i = id
    · subst e; rw [rdH_cons_same] at ha; rw [harr] at ha; cases ha
    · rw [rdH_cons_other B' hp (fun x => e x.symm)] at hl ha ho; exact hm.tip i b c z hi hl ha o ho
  inj := fun i j b c1 z1 c2 z2 h1 h2 l1 l2 => by
    refine hm.inj i j b c1 z1 c2 z2 h1 h2 ?_ ?_
    · by_cases e : i = id
      · subst e; rw [rdH_cons_same] at l1; exact hmd ▸ l1
      · rw [rdH_cons_other B' hp (fun x => e x.symm)] at l1; exact l1
    · by_cases e : j = id
      · subst e; rw [rdH_cons_same] at l2; exact hmd ▸ l2
      · rw [rdH_cons_other B' hp (fun x => e x.symm)] at l2; exact l2
  fresh := hm.fresh
  Fb := hm.Fb
  pb := hm.pb

theorem frzBs_sim {dr : Bool} : ∀ {ids : List Nat} {F : Fz} {hp hp' : List (Nat × Blk)} (_ : MR φ F w hp nx) (_ : ∀ id ∈ ids, ∃ x, φ id = some x) (_ : callD.frzBs dr hp ids = some hp'), ∃ F', Lk W φ F w hp' nx F'
  | [], F, hp, hp', hm, hmap, h => by
    simp [callD.frzBs] at h; subst h
    exact ⟨F, Lk.refl hm⟩
  | id :: r, F, hp, hp', hm, hmap, h => by
    simp only [callD.frzBs] at h
    have hmr : ∀ id ∈ r, ∃ x, φ id = some x := fun i hi => hmap i (List.mem_cons_of_mem _ hi)
    split at h
    · exact frzBs_sim hm hmr h
    · rename_i hlive
      split at h
      · exact frzBs_sim hm hmr h
      · rename_i hpa
        simp only [Bool.or_eq_true, not_or, Bool.not_eq_true] at hpa
        split at h
        · rename_i cs hes
          split at h
          · rename_i cs' hp1 hf
            split at h
            · exact frzBs_sim hm hmr h
            · -- the contents' relation
              have hrd : rdH hp1 id = rdH hp id := frzGs_other hf hpa.2
              cases hφ : φ id with
              | none =>
                obtain ⟨x, hx⟩ := hmap id (by simp)
                rw [hφ] at hx; cases hx
              | some x =>
                obtain ⟨b, c, z⟩ := x
                have hB := hm.blk id b c z hφ (by omega)
                obtain ⟨vs, g1, g2, g3⟩ := vals_of (φ := φ) (F := F) (w := w) (ad := ⟨b, 0, none⟩) (ds := cs) 0 (fun j d hd => by
                  obtain ⟨v, v1, v2, v3⟩ := hB.cell 0 cs j d (by rw [hes]; rfl) hd
                  refine ⟨v, ?_, v2, v3⟩
                  rw [add_field]
                  simpa [cellAt] using v1)
                obtain ⟨F1, hk, hr⟩ := frzGs_sim (W := W) hm hf g1
                have hm2 := hk.1.repl (id := id) (B' := { rdH hp id with es := [cs'] }) (fun b' c' z' h hl => by
                    rw [hφ] at h; simp at h; obtain ⟨rfl, rfl, rfl⟩ := h
                    refine ⟨hB.heap, ?_, (fun ha => by rw [hpa.2] at ha; cases ha), (fun ha => by rw [hpa.2] at ha; cases ha), (fun ha => by rw [hpa.2] at ha; cases ha), hB.cap, (fun _ => by simp), (fun hp => by rw [hpa.1] at hp; cases hp)⟩
                    intro i e j d he hd
                    cases i with
                    | succ i => simp at he
                    | zero =>
                      simp at he; subst he
                      obtain ⟨v, hv, hvr⟩ := hr.get hd
                      refine ⟨v, ?_, g2 v (List.mem_of_getElem? hv), hvr⟩
                      have := g3 j v hv
                      rw [add_field] at this
                      simpa [cellAt] using this) (by rw [hrd]) hpa.2
                obtain ⟨F2, hk2⟩ := frzBs_sim hm2 hmr h
                have hk1 : Lk W φ F w ((id, { rdH hp id with es := [cs'] }) :: hp1) nx F1 := ⟨hm2, hk.2.1, hk.2.2⟩
                exact ⟨F2, hk1.trans hk2⟩
          · cases h
        · cases h

end
end Vm
end Go.Proofs.YtffgjmfkkfinlaaGreat
