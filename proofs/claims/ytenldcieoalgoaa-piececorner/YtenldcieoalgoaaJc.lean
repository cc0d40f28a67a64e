/-
  Texts that the last one of this claim leans on (part 3).
-/
import Derived.Laws.StructEq
import Derived.Shelf.SortG.Plain
import Derived.Test.YtenldcieoalgoaaProg
import Derived.KernelRfl
import Derived.Test.YtenldcieoalgoaaChecked
import Derived.Test.YtenldcieoalgoaaJb
set_option linter.unusedSimpArgs false
set_option linter.unusedVariables false
set_option linter.unusedSectionVars false

/-
  The machine of values, step by step, where what it holds is not known: equations to go on with (go_sem).
-/
namespace Go.Proofs.Ytenldcieoalgoaa
namespace Vm
open Go Go.RowKit

section
variable {P : Program} {c : Cfg} {fr : Fr} {dr : Bool} {call : Vm.Callee} {ops : Array Oper}

attribute [go_sem] e_seq e_block e_skip e_exit e_ret e_label e_goto e_cond
@[go_sem] theorem kX_some (b : Code) (st : St) : kX P c fr b (some (.normal, st)) = exe P c fr b st := rfl
@[go_sem] theorem kX_ret (b : Code) (st : St) : kX P c fr b (some (.ret, st)) = some (.ret, st) := rfl
@[go_sem] theorem kX_exit (b : Code) (i : Nat) (st : St) : kX P c fr b (some (.exit i, st)) = some (.exit i, st) := rfl
@[go_sem] theorem kX_goto (b : Code) (i : Nat) (st : St) : kX P c fr b (some (.goto i, st)) = some (.goto i, st) := rfl
@[go_sem] theorem kB_normal (id : Nat) (st : St) : kB id (some (.normal, st)) = some (.normal, st) := rfl
@[go_sem] theorem kB_ret (id : Nat) (st : St) : kB id (some (.ret, st)) = some (.ret, st) := rfl
@[go_sem] theorem kB_goto (id l : Nat) (st : St) : kB id (some (.goto l, st)) = some (.goto l, st) := rfl
@[go_sem] theorem kB_exit (id j : Nat) (st : St) : kB id (some (.exit j, st)) = if j = id then some (.normal, st) else some (.exit j, st) := rfl
@[go_sem] theorem kC_bool (a b : Code) (st : St) (t : Bool) : kC P c fr a b st (.s (.bool t)) = if t = true then exe P c fr a st else exe P c fr b st := rfl
@[go_sem] theorem kN_some (st : St) : kN (some st) = some (.normal, st) := rfl
@[go_sem] theorem o_nil (st : St) : opsD P c fr dr call ops [] st = some st := rfl
@[go_sem] theorem o_cons (o : Oper) (l : List Oper) (st : St) : opsD P c fr dr call ops (o :: l) st = kO P c fr dr call ops l (operD P c fr dr call ops st o) := rfl
@[go_sem] theorem kO_some (l : List Oper) (st : St) : kO P c fr dr call ops l (some st) = opsD P c fr dr call ops l st := rfl

/-- An operation without a guard. -/
def putS (dst : Option Tmp) (r : Option (D × St)) : Option St := match r with
  | some (d, st) => (match dst with | some t => some { tm := (t, d) :: st.tm, hp := st.hp, nx := st.nx } | none => some st)
  | none => none
@[go_sem] theorem op_plain (dst : Option Tmp) (op : Op) (ty : TypeId) (pos : String) (after : Array Edge) (st : St) : operD P c fr dr call ops st { dst := dst, op := op, type := ty, pos := pos, after := after, guard := none } = putS dst (opD P c fr dr call st { dst := dst, op := op, type := ty, pos := pos, after := after, guard := none }) := by
  unfold operD putS
  dsimp only
  cases opD P c fr dr call st _ with
  | none => rfl
  | some r => cases dst <;> rfl
@[go_sem] theorem putS_some (t : Tmp) (d : D) (st : St) : putS (some t) (some (d, st)) = some { tm := (t, d) :: st.tm, hp := st.hp, nx := st.nx } := rfl
@[go_sem] theorem putS_none (d : D) (st : St) : putS none (some (d, st)) = some st := rfl

def k0 (st : St) (r : Option D) : Option (D × St) := match r with
  | some d => some (d, st)
  | none => none
@[go_sem] theorem k0_some (st : St) (d : D) : k0 st (some d) = some (d, st) := rfl
variable (dst : Option Tmp) (ty : TypeId) (pos : String) (after : Array Edge) (guard : Option (Nat × Bool)) (st : St)
@[go_sem] theorem d_move (x : Operand) : opD P c fr dr call st { dst := dst, op := .move x, type := ty, pos := pos, after := after, guard := guard } = some (ev st.tm x, st) := rfl
@[go_sem] theorem d_assign (x : Operand) : opD P c fr dr call st { dst := dst, op := .assign x, type := ty, pos := pos, after := after, guard := guard } = some (ev st.tm x, st) := rfl
@[go_sem] theorem d_binOp (op : BinOp) (t t' : TypeId) (x y : Operand) : opD P c fr dr call st { dst := dst, op := .binOp op t x y t', type := ty, pos := pos, after := after, guard := guard } = k0 st (binD P op t (ev st.tm x) (ev st.tm y)) := rfl

@[go_sem] theorem ev_tmp (tm : List (Nat × D)) (t : Nat) : ev tm (.tmp t) = rdT tm t := rfl
@[go_sem] theorem ev_const (tm : List (Nat × D)) (v : Value) : ev tm (.const v) = ofValue v := rfl
@[go_sem] theorem ev_func (tm : List (Nat × D)) (f : FuncId) : ev tm (.func f) = .f (.func f) [] [] := rfl
@[go_sem] theorem ofV_int (k : IntKind) (x : Int) : ofValue (.int k x) = .s (.int k x) := rfl
@[go_sem] theorem ofV_bool (b : Bool) : ofValue (.bool b) = .s (.bool b) := rfl
@[go_sem] theorem ofV_slice : ofValue (.slice none 0 0) = nilS := rfl
@[go_sem] theorem ofV_ptr : ofValue (.pointer none) = .s (.pointer none) := rfl
@[go_sem] theorem ofV_nilF : ofValue .nilFunc = .s .nilFunc := rfl
@[go_sem] theorem ofV_str (b : ByteArray) : ofValue (.string b) = .s (.string b) := rfl
@[go_sem] theorem rdT_cons (i j : Nat) (d : D) (m : List (Nat × D)) : rdT ((i, d) :: m) j = if i = j then d else rdT m j := rfl

/-! Addresses of elements -/
def qOf (m : Nat) (r : Option (List D)) : Option D := match r with
  | some c => if c.length = m then some (.q c) else none
  | none => none
def ixL (s : Option Nat) (dx : D) (n : Int) : Option D := match s with
  | some m => if 0 ≤ n then (match dx with
      | .l _ es => qOf m es[n.toNat]?
      | .a id lo len z => if n < len ∧ z = m then some (.p id (lo + n.toNat) 0) else none
      | _ => none) else none
  | none => none
def ixA (P : Program) (dx : D) (n : Int) (a : Option (Nat × TypeId)) : Option D := match a with
  | some (len, el) => (match sz P el with
    | some m => if 0 ≤ n ∧ n < len then (match dx with
        | .p id j off => some (.p id j (off + n.toNat * m))
        | .q cs => some (.q (cs.drop (n.toNat * m)))
        | _ => none) else none
    | none => none)
  | none => none
def ix (P : Program) (t : TypeId) (dx di : D) (e : Option TypeId) : Option D := match di with
  | .s (.int _ n) => (match e with
    | some el => ixL (sz P el) dx n
    | none => ixA P dx n (arr P t))
  | _ => none
@[go_sem] theorem d_indexAddr (t : TypeId) (x i : Operand) : opD P c fr dr call st { dst := dst, op := .indexAddr t x i, type := ty, pos := pos, after := after, guard := guard } = k0 st (ix P t (ev st.tm x) (ev st.tm i) (elt P t)) := by
  have e : opD P c fr dr call st { dst := dst, op := .indexAddr t x i, type := ty, pos := pos, after := after, guard := guard } = k0 st (op0 P st.tm { dst := dst, op := .indexAddr t x i, type := ty, pos := pos, after := after, guard := guard }) := rfl
  rw [e]
  congr 1
@[go_sem] theorem ix_some (t el : TypeId) (dx : D) (k : IntKind) (n : Int) : ix P t dx (.s (.int k n)) (some el) = ixL (sz P el) dx n := rfl
@[go_sem] theorem ix_none (t : TypeId) (dx : D) (k : IntKind) (n : Int) : ix P t dx (.s (.int k n)) none = ixA P dx n (arr P t) := rfl
@[go_sem] theorem ixL_nat (m i : Nat) (cap : Option Nat) (es : List (List D)) : ixL (some m) (.l cap es) (i : Int) = qOf m es[i]? := by simp [ixL]
@[go_sem] theorem ixL_a (m i id lo len : Nat) (h : i < len) : ixL (some m) (.a id lo len m) (i : Int) = some (.p id (lo + i) 0) := by
  have : (i : Int) < (len : Int) := by omega
  simp [ixL, this]
@[go_sem] theorem ixA_p (m len el id j off i : Nat) (hs : sz P el = some m) (h : i < len) : ixA P (.p id j off) (i : Int) (some (len, el)) = some (.p id j (off + i * m)) := by
  have : (i : Int) < (len : Int) := by omega
  simp [ixA, hs, this]
@[go_sem] theorem ixA_q (m len el i : Nat) (cs : List D) (hs : sz P el = some m) (h : i < len) : ixA P (.q cs) (i : Int) (some (len, el)) = some (.q (cs.drop (i * m))) := by
  have : (i : Int) < (len : Int) := by omega
  simp [ixA, hs, this]
@[go_sem] theorem qOf_some (m : Nat) (cs : List D) : qOf m (some cs) = if cs.length = m then some (.q cs) else none := rfl

/-! Loads -/
def ldC (ag : Bool) (s : Option Nat) (r : Option (List D)) : Option D := match r, s with
  | some cs, some n => loadD ag n cs
  | _, _ => none
theorem d_load (t : TypeId) (x : Operand) (hf : ∀ t, c.free fr.fn t = false) : opD P c fr dr call st { dst := dst, op := .load t x, type := ty, pos := pos, after := after, guard := guard } = k0 st (ldC (agg P t) (sz P t) (memAt st.hp (ev st.tm x))) := by
  have hc : cls c fr.fn { dst := dst, op := .load t x, type := ty, pos := pos, after := after, guard := guard } = 1 := by
    unfold cls; cases dst <;> simp [hf]
  unfold opD; rw [hc]
  unfold op1
  dsimp only
  unfold ldC
  cases memAt st.hp (ev st.tm x) <;> cases sz P t <;> rfl
@[go_sem] theorem ldC_some (ag : Bool) (n : Nat) (cs : List D) : ldC ag (some n) (some cs) = loadD ag n cs := rfl
@[go_sem] theorem memAt_q (hp : List (Nat × Blk)) (cs : List D) : memAt hp (.q cs) = some cs := rfl
@[go_sem] theorem loadD_one (n : Nat) (d : D) (cs : List D) : loadD false n (d :: cs) = some d := rfl
@[go_sem] theorem loadD_agg (n : Nat) (cs : List D) : loadD true n cs = if n ≤ cs.length then some (.g (cs.take n)) else none := rfl

/-! The rest -/
def pk (d x y : D) : Option D := match d with
  | .s (.bool t) => some (if t = true then x else y)
  | _ => none
@[go_sem] theorem d_pick (b x y : Operand) : opD P c fr dr call st { dst := dst, op := .pick b x y, type := ty, pos := pos, after := after, guard := guard } = k0 st (pk (ev st.tm b) (ev st.tm x) (ev st.tm y)) := rfl
@[go_sem] theorem pk_bool (t : Bool) (x y : D) : pk (.s (.bool t)) x y = some (if t = true then x else y) := rfl
def lenK (P : Program) (t : TypeId) (d : D) : Option D := if lenT P t d = true then (match lenD d with | some n => some (.s (.int .i64 n)) | none => none) else none
@[go_sem] theorem d_len (x : Operand) (t : TypeId) : opD P c fr dr call st { dst := dst, op := .call { callee := .builtin .len, args := #[x], argTypes := #[t] }, type := ty, pos := pos, after := after, guard := guard } = k0 st (lenK P t (ev st.tm x)) := rfl
/-- Has a type of slices been named? -/
def lenS (P : Program) (t : TypeId) : Bool := match P.underlying t with | some (.slice _) => true | _ => false
theorem lenK_l (t : TypeId) (h : lenS P t = true) (cap : Option Nat) (es : List (List D)) : lenK P t (.l cap es) = some (.s (.int .i64 es.length)) := by
  have : lenT P t (.l cap es) = lenS P t := rfl
  simp only [lenK, this, h, if_true, lenD]
theorem lenK_a (t : TypeId) (h : lenS P t = true) (id lo n z : Nat) : lenK P t (.a id lo n z) = some (.s (.int .i64 n)) := by
  have : lenT P t (.a id lo n z) = lenS P t := rfl
  simp only [lenK, this, h, if_true, lenD]
theorem lenK_nil (t : TypeId) (h : lenS P t = true) : lenK P t nilS = some (.s (.int .i64 0)) := by
  have e : lenT P t nilS = lenS P t := rfl
  unfold lenK
  rw [e, h]
  rfl
@[go_sem] theorem d_field (t : TypeId) (x : Operand) (i : Nat) : opD P c fr dr call st { dst := dst, op := .field t x i, type := ty, pos := pos, after := after, guard := guard } = k0 st (op0 P st.tm { dst := dst, op := .field t x i, type := ty, pos := pos, after := after, guard := guard }) := rfl
@[go_sem] theorem d_call (g : FuncId) (xs : Array Operand) (ts : Array TypeId) : opD P c fr dr call st { dst := dst, op := .call { callee := .value (.func g), args := xs, argTypes := ts }, type := ty, pos := pos, after := after, guard := guard } =
    callD c fr (dr && !c.wr g) call g (xs.toList.map (ev st.tm)) st := by
  unfold opD cls
  cases h : c.wr g <;> simp only [h, Bool.false_eq_true, if_false, if_true] <;> unfold op1 <;> simp only [h]

/-- An operation with a guard. -/
def gT (tm : List (Nat × D)) (t : Option Tmp) : Option D := match t with
  | some t => some (rdT tm t)
  | none => none
def kG (want : Bool) (dst : Option Tmp) (st : St) (r : Option St) (d : Option D) : Option St := match d with
  | some (.s (.bool b)) => if b = want then r else putS dst (some (und, st))
  | some (.s _) => putS dst (some (und, st))
  | _ => none
theorem put_eq1 (dst : Option Tmp) (r : Option (D × St)) : (match r with
    | some (d, st') => some (match dst with | some t => ({ st' with tm := (t, d) :: st'.tm } : St) | none => st')
    | none => none) = putS dst r := by
  cases r with
  | none => rfl
  | some r => cases dst <;> rfl
theorem put_eq2 (dst : Option Tmp) (d : D) (st : St) : some (match dst with | some t => ({ st with tm := (t, d) :: st.tm } : St) | none => st) = putS dst (some (d, st)) := by
  cases dst <;> rfl
@[go_sem] theorem op_grd {ops : Array Oper} (op : Op) (j : Nat) (want : Bool) : operD P c fr dr call ops st { dst := dst, op := op, type := ty, pos := pos, after := after, guard := some (j, want) } =
    kG want dst st (putS dst (opD P c fr dr call st { dst := dst, op := op, type := ty, pos := pos, after := after, guard := some (j, want) })) (gT st.tm ((ops[j]?).bind (·.dst))) := by
  unfold operD kG gT
  dsimp only
  cases (ops[j]?).bind (·.dst) with
  | none => rfl
  | some t =>
    dsimp only
    cases rdT st.tm t with
    | s v =>
      cases v with
      | bool b =>
        dsimp only
        split
        · exact put_eq1 _ _
        · exact put_eq2 _ _ _
      | _ => exact put_eq2 _ _ _
    | _ => rfl
@[go_sem] theorem gT_some (tm : List (Nat × D)) (t : Tmp) : gT tm (some t) = some (rdT tm t) := rfl
@[go_sem] theorem kG_bool (want b : Bool) (r : Option St) : kG want dst st r (some (.s (.bool b))) = if b = want then r else putS dst (some (und, st)) := rfl
@[go_sem] theorem kG_und (want : Bool) (r : Option St) : kG want dst st r (some und) = putS dst (some (und, st)) := rfl
def unD (P : Program) (op : UnOp) (d : D) : Option D := match d with
  | .s v => (match val P (Op.unary op v) with | some r => some (ofValue r) | none => none)
  | _ => none
@[go_sem] theorem d_unOp (op : UnOp) (t : TypeId) (x : Operand) : opD P c fr dr call st { dst := dst, op := .unOp op t x, type := ty, pos := pos, after := after, guard := guard } = k0 st (unD P op (ev st.tm x)) := rfl
@[go_sem] theorem unD_not (b : Bool) : unD P .not (.s (.bool b)) = some (.s (.bool !b)) := rfl

def cvD (P : Program) (a b : TypeId) (d : D) : Option D := match d with
  | .s v => (match val P (convert a b v) with | some r => some (ofValue r) | none => none)
  | _ => none
@[go_sem] theorem d_convert (a b : TypeId) (x : Operand) : opD P c fr dr call st { dst := dst, op := .convert a b x, type := ty, pos := pos, after := after, guard := guard } = k0 st (cvD P a b (ev st.tm x)) := rfl
def exD (i : Nat) (d : D) : Option D := match d with
  | .t vs => vs[i]?
  | _ => none
@[go_sem] theorem d_extract (x : Operand) (i : Nat) : opD P c fr dr call st { dst := dst, op := .extract x i, type := ty, pos := pos, after := after, guard := guard } = k0 st (exD i (ev st.tm x)) := rfl
@[go_sem] theorem exD_t (i : Nat) (vs : List D) : exD i (.t vs) = vs[i]? := rfl
@[go_sem] theorem d_makeFunc (fn : Fn) (x y : Array Operand) : opD P c fr dr call st { dst := dst, op := .makeFunc fn x y, type := ty, pos := pos, after := after, guard := guard } = some (.f fn (x.toList.map (ev st.tm)) (y.toList.map (ev st.tm)), st) := rfl
def ncD (d : D) : Option D := match d with
  | .p id i off => some (.p id i off)
  | .q cs => some (.q cs)
  | .f (.func g) x y => some (.f (.func g) x y)
  | _ => none
@[go_sem] theorem d_nilCheck (x : Operand) : opD P c fr dr call st { dst := dst, op := .nilCheck x, type := ty, pos := pos, after := after, guard := guard } = k0 st (ncD (ev st.tm x)) := rfl
@[go_sem] theorem ncD_p (id i off : Nat) : ncD (.p id i off) = some (.p id i off) := rfl
@[go_sem] theorem ncD_q (cs : List D) : ncD (.q cs) = some (.q cs) := rfl
@[go_sem] theorem ncD_f (g : FuncId) (x y : List D) : ncD (.f (.func g) x y) = some (.f (.func g) x y) := rfl

/-! Structs that are built -/
def bdF (z : List D) (r : Option (List (Nat × List D))) : Option D := match r with
  | some ps => (match fillD z ps with | some cs => some (.g cs) | none => none)
  | none => none
def bdZ (ok : Bool) (z : Option (List D)) (r : Option (List (Nat × List D))) : Option D := match ok, z with
  | true, some z => bdF z r
  | _, _ => none
@[go_sem] theorem d_build (t : TypeId) (ps : Array (Nat × Operand)) : opD P c fr dr call st { dst := dst, op := .build t ps, type := ty, pos := pos, after := after, guard := guard } = k0 st (bdZ (agg P t && structOk P t) (zer P t) (partsOf P t st.tm ps.toList)) := by
  have e : opD P c fr dr call st { dst := dst, op := .build t ps, type := ty, pos := pos, after := after, guard := guard } = k0 st (op0 P st.tm { dst := dst, op := .build t ps, type := ty, pos := pos, after := after, guard := guard }) := rfl
  rw [e]; congr 1
  unfold op0 bdZ bdF
  dsimp only
  cases zer P t <;> cases partsOf P t st.tm ps.toList <;> cases (agg P t && structOk P t) <;> rfl
@[go_sem] theorem bdZ_some (z : List D) (r : Option (List (Nat × List D))) : bdZ true (some z) r = bdF z r := rfl
def bdG (r : Option (List D)) : Option D := match r with | some cs => some (.g cs) | none => none
@[go_sem] theorem bdF_some (z : List D) (ps : List (Nat × List D)) : bdF z (some ps) = bdG (fillD z ps) := by
  unfold bdF bdG; rfl
@[go_sem] theorem bdG_some (cs : List D) : bdG (some cs) = some (.g cs) := rfl
@[go_sem] theorem fillD_nil (cs : List D) : fillD cs [] = some cs := rfl
@[go_sem] theorem fillD_cons (cs : List D) (off : Nat) (v : List D) (r : List (Nat × List D)) : fillD cs ((off, v) :: r) = if off + v.length ≤ cs.length then fillD (cs.take off ++ v ++ cs.drop (off + v.length)) r else none := rfl
def ptR (off : Nat) (v : List D) (r : Option (List (Nat × List D))) : Option (List (Nat × List D)) := match r with
  | some ps => some ((off, v) :: ps)
  | none => none
def ptF (v : List D) (f : Option (Nat × Nat)) (r : Option (List (Nat × List D))) : Option (List (Nat × List D)) := match f with
  | some (off, n) => if v.length = n then ptR off v r else none
  | none => none
def ptA (P : Program) (t : TypeId) (i : Nat) (v : List D) (a : Option (Nat × TypeId)) (r : Option (List (Nat × List D))) : Option (List (Nat × List D)) := match a with
  | some (_, e) => (match sz P e with | some n => if v.length = n then ptR (i * n) v r else none | none => none)
  | none => ptF v (fld P t i) r
def ptC (P : Program) (t : TypeId) (i : Nat) (v : Option (List D)) (r : Option (List (Nat × List D))) : Option (List (Nat × List D)) := match v with
  | some v => ptA P t i v (arr P t) r
  | none => none
@[go_sem] theorem partsOf_nil (t : TypeId) (tm : List (Nat × D)) : partsOf P t tm [] = some [] := rfl
@[go_sem] theorem partsOf_cons (t : TypeId) (tm : List (Nat × D)) (i : Nat) (x : Operand) (r : List (Nat × Operand)) : partsOf P t tm ((i, x) :: r) = ptC P t i (cellsOf (ev tm x)) (partsOf P t tm r) := by
  simp only [partsOf]
  unfold ptC ptA ptF ptR
  cases cellsOf (ev tm x) with
  | none => rfl
  | some v =>
    dsimp only
    cases arr P t with
    | none =>
      dsimp only
      cases fld P t i with
      | none => rfl
      | some f =>
        obtain ⟨off, n⟩ := f
        dsimp only
        by_cases h : v.length = n
        · simp only [h, if_true]; cases partsOf P t tm r <;> rfl
        · simp only [h, if_false]
    | some a =>
      obtain ⟨_, e⟩ := a
      dsimp only
      cases sz P e with
      | none => rfl
      | some n =>
        dsimp only
        by_cases h : v.length = n
        · simp only [h, if_true]; cases partsOf P t tm r <;> rfl
        · simp only [h, if_false]
@[go_sem] theorem ptC_some (t : TypeId) (i : Nat) (v : List D) (r : Option (List (Nat × List D))) : ptC P t i (some v) r = ptA P t i v (arr P t) r := rfl
@[go_sem] theorem ptA_none (t : TypeId) (i : Nat) (v : List D) (r : Option (List (Nat × List D))) : ptA P t i v none r = ptF v (fld P t i) r := rfl
@[go_sem] theorem ptA_some (t : TypeId) (i n e : Nat) (v : List D) (r : Option (List (Nat × List D))) : ptA P t i v (some (n, e)) r = ptF v (match sz P e with | some m => some (i * m, m) | none => none) r := by
  unfold ptA ptF
  dsimp only
  cases sz P e <;> rfl
@[go_sem] theorem ptF_some (off n : Nat) (v : List D) (r : Option (List (Nat × List D))) : ptF v (some (off, n)) r = if v.length = n then ptR off v r else none := rfl
@[go_sem] theorem ptR_some (off : Nat) (v : List D) (ps : List (Nat × List D)) : ptR off v (some ps) = some ((off, v) :: ps) := rfl

/-! Fields of structs that are values -/
def fdG (cs : List D) (f : Option (Nat × Nat)) (ag : Option Bool) : Option D := match f, ag with
  | some (off, n), some ag => loadD ag n (cs.drop off)
  | _, _ => none
def agF (P : Program) (t : TypeId) (i : Nat) : Option Bool := match P.underlying t with | some (.struct fs) => (fs[i]?).map (fun f => agg P f.type) | _ => none
def fdD (P : Program) (t : TypeId) (i : Nat) (d : D) : Option D := match d with
  | .g cs => fdG cs (fld P t i) (agF P t i)
  | _ => none
@[go_sem] theorem op0_field (tm : List (Nat × D)) (t : TypeId) (x : Operand) (i : Nat) : op0 P tm { dst := dst, op := .field t x i, type := ty, pos := pos, after := after, guard := guard } = fdD P t i (ev tm x) := by
  unfold op0 fdD fdG agF
  dsimp only
  cases ev tm x with
  | g cs =>
    dsimp only
    cases fld P t i with
    | none => rfl
    | some f =>
      obtain ⟨off, n⟩ := f
      dsimp only
      cases P.underlying t with
      | none => rfl
      | some ty => cases ty <;> first | rfl | (dsimp only; split <;> first | rfl | (rename_i h; rw [h]))
  | _ => rfl
@[go_sem] theorem fdD_g (t : TypeId) (i : Nat) (cs : List D) : fdD P t i (.g cs) = fdG cs (fld P t i) (agF P t i) := rfl
@[go_sem] theorem fdG_some (cs : List D) (off n : Nat) (ag : Bool) : fdG cs (some (off, n)) (some ag) = loadD ag n (cs.drop off) := rfl

/-! Slices that are built -/
def bsE (len n : Nat) (z : Bool) (r : Option (List (List D))) : Option D := match r with
  | some es => if es.length = len ∧ allPureE es = true ∧ len * n ≤ 16777216 ∧ 0 < n ∧ z = true then some (.l (some len) es) else none
  | none => none
def bsS (tm : List (Nat × D)) (len : Nat) (ps : List (Nat × Operand)) (z : Bool) (s : Option Nat) : Option D := match s with
  | some n => bsE len n z (elemsOf tm n 0 ps)
  | none => none
def bsT (P : Program) (tm : List (Nat × D)) (len : Nat) (ps : List (Nat × Operand)) (e : Option TypeId) : Option D := match e with
  | some el => bsS tm len ps (zer P el).isSome (sz P el)
  | none => none
@[go_sem] theorem d_buildSlice (t : TypeId) (len : Nat) (ps : Array (Nat × Operand)) : opD P c fr dr call st { dst := dst, op := .buildSlice t len ps, type := ty, pos := pos, after := after, guard := guard } = k0 st (bsT P st.tm len ps.toList (elt P t)) := by
  have e : opD P c fr dr call st { dst := dst, op := .buildSlice t len ps, type := ty, pos := pos, after := after, guard := guard } = op1 P c fr dr call st { dst := dst, op := .buildSlice t len ps, type := ty, pos := pos, after := after, guard := guard } := rfl
  rw [e]
  unfold op1 bsT bsS bsE
  dsimp only
  cases elt P t with
  | none => rfl
  | some el =>
    dsimp only
    cases sz P el with
    | none => rfl
    | some n =>
      dsimp only
      cases elemsOf st.tm n 0 ps.toList with
      | none => rfl
      | some es => dsimp only; split <;> rfl
@[go_sem] theorem bsT_some (tm : List (Nat × D)) (len : Nat) (ps : List (Nat × Operand)) (el : TypeId) : bsT P tm len ps (some el) = bsS tm len ps (zer P el).isSome (sz P el) := rfl
@[go_sem] theorem bsS_some (tm : List (Nat × D)) (len : Nat) (ps : List (Nat × Operand)) (z : Bool) (n : Nat) : bsS tm len ps z (some n) = bsE len n z (elemsOf tm n 0 ps) := rfl
@[go_sem] theorem bsE_some (len n : Nat) (z : Bool) (es : List (List D)) : bsE len n z (some es) = if es.length = len ∧ allPureE es = true ∧ len * n ≤ 16777216 ∧ 0 < n ∧ z = true then some (.l (some len) es) else none := rfl
def elC (n i j : Nat) (v : Option (List D)) (r : Option (List (List D))) : Option (List (List D)) := match v with
  | some v => if i = j ∧ v.length = n then (match r with | some es => some (v :: es) | none => none) else none
  | none => none
@[go_sem] theorem elemsOf_nil (tm : List (Nat × D)) (n j : Nat) : elemsOf tm n j [] = some [] := rfl
@[go_sem] theorem elemsOf_cons (tm : List (Nat × D)) (n j i : Nat) (x : Operand) (r : List (Nat × Operand)) : elemsOf tm n j ((i, x) :: r) = elC n i j (cellsOf (ev tm x)) (elemsOf tm n (j + 1) r) := by
  simp only [elemsOf]
  cases cellsOf (ev tm x) with
  | none => rfl
  | some v => dsimp only [elC]; split <;> first | rfl | (cases elemsOf tm n (j + 1) r <;> rfl)
@[go_sem] theorem elC_some (n i j : Nat) (v : List D) (es : List (List D)) : elC n i j (some v) (some es) = if i = j ∧ v.length = n then some (v :: es) else none := rfl
@[go_sem] theorem cells_int (k : IntKind) (x : Int) : cellsOf (.s (.int k x)) = some [.s (.int k x)] := rfl
@[go_sem] theorem cells_bool (b : Bool) : cellsOf (.s (.bool b)) = some [.s (.bool b)] := rfl
@[go_sem] theorem cells_str (b : ByteArray) : cellsOf (.s (.string b)) = some [.s (.string b)] := rfl
@[go_sem] theorem cells_g (cs : List D) : cellsOf (.g cs) = some cs := rfl
@[go_sem] theorem cells_p (id i off : Nat) : cellsOf (.p id i off) = some [.p id i off] := rfl
@[go_sem] theorem cells_q (cs : List D) : cellsOf (.q cs) = some [.q cs] := rfl
@[go_sem] theorem cells_l (cap : Option Nat) (es : List (List D)) : cellsOf (.l cap es) = some [.l cap es] := rfl
@[go_sem] theorem cells_a (id lo n z : Nat) : cellsOf (.a id lo n z) = some [.a id lo n z] := rfl
@[go_sem] theorem cells_nil : cellsOf nilS = some [nilS] := rfl
@[go_sem] theorem cells_nilp : cellsOf (.s (.pointer none)) = some [.s (.pointer none)] := rfl
@[go_sem] theorem cells_f (fn : Fn) (x y : List D) : cellsOf (.f fn x y) = some [.f fn x y] := rfl

/-! New variables; addresses of fields; stores -/
def nvD (st : St) (z : Option (List D)) : Option (D × St) := match z with
  | some z => some (.p st.nx 0 0, { tm := st.tm, hp := (st.nx, ⟨[z], false, 0, allPure z, none⟩) :: st.hp, nx := st.nx + 1 })
  | none => none
@[go_sem] theorem d_alloc (t : TypeId) : opD P c fr dr call st { dst := dst, op := .alloc t, type := ty, pos := pos, after := after, guard := guard } = nvD st (zer P t) := by
  have e : opD P c fr dr call st { dst := dst, op := .alloc t, type := ty, pos := pos, after := after, guard := guard } = op1 P c fr dr call st { dst := dst, op := .alloc t, type := ty, pos := pos, after := after, guard := guard } := rfl
  rw [e]; unfold op1 nvD; dsimp only; cases zer P t <;> rfl
@[go_sem] theorem d_box (t : TypeId) (x : Operand) : opD P c fr dr call st { dst := dst, op := .box t x, type := ty, pos := pos, after := after, guard := guard } = nvD st (cellsOf (ev st.tm x)) := by
  have e : opD P c fr dr call st { dst := dst, op := .box t x, type := ty, pos := pos, after := after, guard := guard } = op1 P c fr dr call st { dst := dst, op := .box t x, type := ty, pos := pos, after := after, guard := guard } := rfl
  rw [e]; unfold op1 nvD; dsimp only; cases cellsOf (ev st.tm x) <;> rfl
@[go_sem] theorem nvD_some (z : List D) : nvD st (some z) = some (.p st.nx 0 0, { tm := st.tm, hp := (st.nx, ⟨[z], false, 0, allPure z, none⟩) :: st.hp, nx := st.nx + 1 }) := rfl
def faD (f : Option (Nat × Nat)) (d : D) : Option D := match d, f with
  | .p id j off, some (o, _) => some (.p id j (off + o))
  | .q cs, some (o, _) => some (.q (cs.drop o))
  | _, _ => none
@[go_sem] theorem d_fieldAddr (t : TypeId) (x : Operand) (i : Nat) : opD P c fr dr call st { dst := dst, op := .fieldAddr t x i, type := ty, pos := pos, after := after, guard := guard } = k0 st (faD (fld P t i) (ev st.tm x)) := rfl
@[go_sem] theorem faD_p (id j off o n : Nat) : faD (some (o, n)) (.p id j off) = some (.p id j (off + o)) := rfl
@[go_sem] theorem faD_q (cs : List D) (o n : Nat) : faD (some (o, n)) (.q cs) = some (.q (cs.drop o)) := rfl
def stE (st : St) (id i off n : Nat) (cs : List D) (b : Blk) (r : Option (List D)) : Option (D × St) := match r with
  | some el => if off + n ≤ el.length then
      some (und, { tm := st.tm, hp := (id, { es := b.es.set i (el.take off ++ cs ++ el.drop (off + n)), arr := b.arr, md := b.md, pu := b.pu && allPure cs, cap := b.cap }) :: st.hp, nx := st.nx })
    else none
  | none => none
def stB (fr : Fr) (st : St) (id i off n : Nat) (cs : List D) (b : Blk) : Option (D × St) :=
  if b.md = 0 ∧ cs.length = n ∧ 0 < n ∧ (fr.ro = false ∨ fr.k ≤ id) then stE st id i off n cs b b.es[i]? else none
def stD (fr : Fr) (st : St) (dx : D) (s : Option Nat) (cs : Option (List D)) : Option (D × St) := match dx, s, cs with
  | .p id i off, some n, some cs => stB fr st id i off n cs (rdH st.hp id)
  | _, _, _ => none
@[go_sem] theorem d_store (t : TypeId) (x y : Operand) : opD P c fr dr call st { dst := dst, op := .store t x y, type := ty, pos := pos, after := after, guard := guard } = stD fr st (ev st.tm x) (sz P t) (cellsOf (ev st.tm y)) := by
  have e : opD P c fr dr call st { dst := dst, op := .store t x y, type := ty, pos := pos, after := after, guard := guard } = op1 P c fr dr call st { dst := dst, op := .store t x y, type := ty, pos := pos, after := after, guard := guard } := rfl
  rw [e]
  unfold op1 stD stB stE
  dsimp only
  cases ev st.tm x <;> cases sz P t <;> cases cellsOf (ev st.tm y) <;> rfl
@[go_sem] theorem stD_p (id i off n : Nat) (cs : List D) : stD fr st (.p id i off) (some n) (some cs) = stB fr st id i off n cs (rdH st.hp id) := rfl
@[go_sem] theorem stB_eq (id i off n : Nat) (cs : List D) (es : List (List D)) (a u : Bool) (md : Nat) (cp : Option Nat) : stB fr st id i off n cs ⟨es, a, md, u, cp⟩ =
    if md = 0 ∧ cs.length = n ∧ 0 < n ∧ (fr.ro = false ∨ fr.k ≤ id) then stE st id i off n cs ⟨es, a, md, u, cp⟩ es[i]? else none := rfl
@[go_sem] theorem stE_some (id i off n : Nat) (cs el : List D) (es : List (List D)) (a u : Bool) (md : Nat) (cp : Option Nat) : stE st id i off n cs ⟨es, a, md, u, cp⟩ (some el) =
    if off + n ≤ el.length then some (und, { tm := st.tm, hp := (id, ⟨es.set i (el.take off ++ cs ++ el.drop (off + n)), a, md, u && allPure cs, cp⟩) :: st.hp, nx := st.nx }) else none := rfl
def mB (b : Blk) (i off : Nat) : Option (List D) := if b.md < 2 then (match b.es[i]? with
  | some e => some (e.drop off)
  | none => none) else none
def mE (r : Option (List D)) (off : Nat) : Option (List D) := match r with
  | some e => some (e.drop off)
  | none => none
@[go_sem] theorem memAt_p (hp : List (Nat × Blk)) (id i off : Nat) : memAt hp (.p id i off) = mB (rdH hp id) i off := rfl
@[go_sem] theorem mB_eq (es : List (List D)) (a u : Bool) (md i off : Nat) (cp : Option Nat) : mB ⟨es, a, md, u, cp⟩ i off = if md < 2 then mE es[i]? off else none := rfl
@[go_sem] theorem mE_some (e : List D) (off : Nat) : mE (some e) off = some (e.drop off) := rfl
@[go_sem] theorem rdH_cons (i j : Nat) (b : Blk) (hp : List (Nat × Blk)) : rdH ((i, b) :: hp) j = if i = j then b else rdH hp j := rfl
attribute [go_sem] allPure allPureE
@[go_sem] theorem pure_s (v : Value) : isPure (.s v) = true := rfl
@[go_sem] theorem pure_l (cp : Option Nat) (es : List (List D)) : isPure (.l cp es) = true := rfl
@[go_sem] theorem pure_q (cs : List D) : isPure (.q cs) = true := rfl
@[go_sem] theorem pure_p (id i off : Nat) : isPure (.p id i off) = false := rfl
@[go_sem] theorem pure_a (id lo n z : Nat) : isPure (.a id lo n z) = false := rfl
@[go_sem] theorem pure_f (fn : Fn) (x y : List D) : isPure (.f fn x y) = false := rfl
end
end Vm
end Go.Proofs.Ytenldcieoalgoaa

/-
  The machine of values, step by step: calls, loops, lists that grow.
-/
namespace Go.Proofs.Ytenldcieoalgoaa
namespace Vm
open Go Go.RowKit

/-! Slices as lists -/
/-- A slice that nobody writes, as a list of what its elements are. -/
inductive Sl (α : Type) where
  | nil
  | l (cap : Option Nat) (xs : List α)
def Sl.xs {α : Type} : Sl α → List α
  | .nil => []
  | .l _ xs => xs
def Sl.d {α : Type} (f : α → List D) : Sl α → D
  | .nil => nilS
  | .l c xs => .l c (xs.map f)
abbrev Sl.len {α : Type} (x : Sl α) : Nat := x.xs.length
@[go_sem] theorem Sl.xs_nil {α : Type} : (Sl.nil : Sl α).xs = [] := rfl
@[go_sem] theorem Sl.xs_l {α : Type} (c : Option Nat) (xs : List α) : (Sl.l c xs).xs = xs := rfl

section
variable {α : Type} {f : α → List D}
/-! Values without addresses of the machine's -/
def calmA : D → Bool
  | .s _ | .l .. | .q _ => true
  | _ => false
def calmL : List D → Bool
  | [] => true
  | d :: r => calmA d && calmL r
def calm : D → Bool
  | .g cs => calmL cs
  | .f _ [] [] => true
  | d => calmA d
def calms : List D → Bool
  | [] => true
  | d :: r => calm d && calms r
@[go_sem] theorem calmA_s (v : Value) : calmA (.s v) = true := rfl
@[go_sem] theorem calmA_l (c : Option Nat) (es : List (List D)) : calmA (.l c es) = true := rfl
@[go_sem] theorem calmA_q (cs : List D) : calmA (.q cs) = true := rfl
@[go_sem] theorem calmA_nil : calmA nilS = true := rfl
@[go_sem] theorem calmA_sl (x : Sl α) : calmA (x.d f) = true := by cases x <;> rfl
@[go_sem] theorem calmA_a (id lo n z : Nat) : calmA (.a id lo n z) = false := rfl
@[go_sem] theorem calm_a (id lo n z : Nat) : calm (.a id lo n z) = false := rfl
@[go_sem] theorem calmA_p (id i off : Nat) : calmA (.p id i off) = false := rfl
@[go_sem] theorem calm_p (id i off : Nat) : calm (.p id i off) = false := rfl
@[go_sem] theorem calm_s (v : Value) : calm (.s v) = true := rfl
@[go_sem] theorem calm_l (c : Option Nat) (es : List (List D)) : calm (.l c es) = true := rfl
@[go_sem] theorem calm_q (cs : List D) : calm (.q cs) = true := rfl
@[go_sem] theorem calm_nil : calm nilS = true := rfl
@[go_sem] theorem calm_g (cs : List D) : calm (.g cs) = calmL cs := rfl
@[go_sem] theorem calm_f (fn : Fn) : calm (.f fn [] []) = true := rfl
@[go_sem] theorem calm_sl (x : Sl α) : calm (x.d f) = true := by cases x <;> rfl
@[go_sem] theorem calmL_nil : calmL [] = true := rfl
@[go_sem] theorem calmL_cons (d : D) (r : List D) : calmL (d :: r) = (calmA d && calmL r) := rfl
@[go_sem] theorem calms_nil : calms [] = true := rfl
@[go_sem] theorem calms_cons (d : D) (r : List D) : calms (d :: r) = (calm d && calms r) := rfl
@[go_sem] theorem cells_sl (x : Sl α) : cellsOf (x.d f) = some [x.d f] := by cases x <;> rfl
@[go_sem] theorem pure_sl (x : Sl α) : isPure (x.d f) = true := by cases x <;> rfl
@[go_sem] theorem pure_nil : isPure nilS = true := rfl
@[go_sem] theorem lenD_sl (x : Sl α) : lenD (x.d f) = some x.xs.length := by
  cases x with
  | nil => rfl
  | l c xs => simp only [Sl.d, lenD, Sl.xs, List.length_map]
theorem lenK_sl {P : Program} (t : TypeId) (h : lenS P t = true) (x : Sl α) : lenK P t (x.d f) = some (.s (.int .i64 x.xs.length)) := by
  have e : lenT P t (x.d f) = lenS P t := by cases x <;> rfl
  simp only [lenK, e, h, if_true, lenD_sl]
@[go_sem] theorem ixL_sl (x : Sl α) (m i : Nat) : ixL (some m) (x.d f) (i : Int) = qOf m ((x.xs[i]?).map f) := by
  cases x with
  | nil => simp [ixL, Sl.d, nilS, Sl.xs, qOf]
  | l c xs => simp only [Sl.d]; rw [ixL_nat, List.getElem?_map]; rfl

theorem frz_calm {dr : Bool} {hp : List (Nat × Blk)} {d : D} (h : calmA d = true) : frz dr hp d = some (d, hp) := by
  cases d <;> first | rfl | (simp [calmA] at h)
theorem frzs_calm {dr : Bool} {hp : List (Nat × Blk)} : ∀ {ds : List D}, calmL ds = true → frzs dr hp ds = some (ds, hp)
  | [], _ => rfl
  | d :: r, h => by
    simp only [calmL, Bool.and_eq_true] at h
    simp only [frzs, frz_calm h.1, frzs_calm h.2]
theorem frzG_calm {dr : Bool} {hp : List (Nat × Blk)} {d : D} (h : calm d = true) : frzG dr hp d = some (d, hp) := by
  cases d with
  | g cs => simp only [calm] at h; simp only [frzG, frzs_calm h]
  | f fn x y => rfl
  | _ => simp only [calm] at h; simp only [frzG]; exact frz_calm h
theorem frzGs_calm {dr : Bool} {hp : List (Nat × Blk)} : ∀ {ds : List D}, calms ds = true → frzGs dr hp ds = some (ds, hp)
  | [], _ => rfl
  | d :: r, h => by
    simp only [calms, Bool.and_eq_true] at h
    simp only [frzGs, frzG_calm h.1, frzGs_calm h.2]
theorem refsA_calm {d : D} (h : calmA d = true) : refsA d = [] := by
  cases d <;> first | rfl | (simp [calmA] at h)
theorem refsL_calm : ∀ {ds : List D}, calmL ds = true → refsL ds = []
  | [], _ => rfl
  | d :: r, h => by
    simp only [calmL, Bool.and_eq_true] at h
    simp only [refsL, refsA_calm h.1, refsL_calm h.2, List.append_nil]
theorem refs_calm {d : D} (h : calm d = true) : refs d = [] := by
  cases d with
  | g cs => simp only [calm] at h; simp only [refs, refsG, refsL_calm h]
  | t _ => simp [calm, calmA] at h
  | f _ x y => cases x <;> cases y <;> first | rfl | (simp [calm, calmA] at h)
  | _ => simp only [calm] at h; simp only [refs, refsG]; exact refsA_calm h
theorem refsLL_calm : ∀ {ds : List D}, calms ds = true → refsLL ds = []
  | [], _ => rfl
  | d :: r, h => by
    simp only [calms, Bool.and_eq_true] at h
    simp only [refsLL, refs_calm h.1, refsLL_calm h.2, List.append_nil]
theorem renA_calm {ρ : List (Nat × Nat)} {d : D} (h : calmA d = true) : renA ρ d = d := by
  cases d <;> first | rfl | (simp [calmA] at h)
theorem renL_calm {ρ : List (Nat × Nat)} : ∀ {ds : List D}, calmL ds = true → ds.map (renA ρ) = ds
  | [], _ => rfl
  | d :: r, h => by
    simp only [calmL, Bool.and_eq_true] at h
    simp only [List.map_cons, renA_calm h.1, renL_calm h.2]
theorem ren_calm {ρ : List (Nat × Nat)} {d : D} (h : calm d = true) : ren ρ d = d := by
  cases d with
  | g cs => simp only [calm] at h; simp only [ren, renG, renL_calm h]
  | t _ => simp [calm, calmA] at h
  | f _ x y => cases x <;> cases y <;> first | rfl | (simp [calm, calmA] at h)
  | _ => simp only [calm] at h; simp only [ren, renG]; exact renA_calm h
theorem rens_calm {ρ : List (Nat × Nat)} : ∀ {ds : List D}, calms ds = true → ds.map (ren ρ) = ds
  | [], _ => rfl
  | d :: r, h => by
    simp only [calms, Bool.and_eq_true] at h
    simp only [List.map_cons, ren_calm h.1, rens_calm h.2]
theorem reach_nil (hp : List (Nat × Blk)) (n : Nat) (seen : List Nat) : reach hp n [] seen = seen := by
  cases n <;> rfl
/-- A block that holds no address of the machine's. -/
def cb (b : Blk) : Bool := b.pu || (match b.es with | [cs] => calms cs | _ => false)
@[go_sem] theorem cb_lit (cs : List D) (a u : Bool) (md : Nat) (cp : Option Nat) : cb ⟨[cs], a, md, u, cp⟩ = (u || calms cs) := rfl
@[go_sem] theorem cb_pu (es : List (List D)) (a : Bool) (md : Nat) (cp : Option Nat) : cb ⟨es, a, md, true, cp⟩ = true := rfl
theorem calms_noA0 : ∀ {cs : List D}, calmL cs = true → noA.noA0 cs = true
  | [], _ => rfl
  | d :: r, h => by
    simp only [calmL, Bool.and_eq_true] at h
    cases d <;> first | (simp only [noA.noA0]; exact calms_noA0 h.2) | (simp [calmA] at h)
theorem calms_noA : ∀ {cs : List D}, calms cs = true → noA cs = true
  | [], _ => rfl
  | d :: r, h => by
    simp only [calms, Bool.and_eq_true] at h
    have ih := calms_noA h.2
    cases d with
    | g cs => simp only [calm] at h; simp only [noA, calms_noA0 h.1, ih, Bool.and_self]
    | a _ _ _ _ => simp [calm, calmA] at h
    | _ => simp only [noA, ih]
theorem calms_refsGLf : ∀ {cs : List D}, calms cs = true → refsE.refsGLf cs = []
  | [], _ => rfl
  | d :: r, h => by
    simp only [calms, Bool.and_eq_true] at h
    simp only [refsE.refsGLf, refs_calm h.1, calms_refsGLf h.2, List.append_nil]
theorem cb_cases {b : Blk} (h : cb b = true) : b.pu = true ∨ ∃ cs, b.es = [cs] ∧ calms cs = true := by
  unfold cb at h
  cases hp : b.pu with
  | true => exact .inl rfl
  | false =>
    rw [hp, Bool.false_or] at h
    right
    split at h
    · rename_i cs he; exact ⟨cs, he, h⟩
    · cases h
theorem cb_refs {b : Blk} (h : cb b = true) : refsB b = [] := by
  rcases cb_cases h with h | ⟨cs, he, hc⟩
  · simp only [refsB, h, if_true]
  · unfold refsB
    split
    · rfl
    · rw [he]; simp only [refsE, calms_refsGLf hc, List.append_nil]
theorem cb_renB {ρ : List (Nat × Nat)} {b : Blk} (h : cb b = true) : renB ρ b = b := by
  unfold renB
  split
  · rfl
  · rename_i hp
    rcases cb_cases h with h | ⟨cs, he, hc⟩
    · exact absurd h hp
    · obtain ⟨es, arr, md, pu, cp⟩ := b
      simp only at he
      subst he
      simp only [List.map_cons, List.map_nil, rens_calm hc]
theorem cb_frz {hp : List (Nat × Blk)} {id : Nat} {r : List Nat} (h : cb (rdH hp id) = true) : callD.frzBs false hp (id :: r) = callD.frzBs false hp r := by
  rcases cb_cases h with h | ⟨cs, he, hc⟩
  · simp only [callD.frzBs, h, Bool.true_or, if_true, ite_self]
  · simp only [callD.frzBs, he, frzGs_calm hc, calms_noA hc, and_self, if_true, ite_self]
theorem reach_one {hp : List (Nat × Blk)} {id : Nat} (hp1 : cb (rdH hp id) = true) (hm : (rdH hp id).md = 0 ∨ (rdH hp id).md = 1) : reach hp fuel [id] [] = [id] := by
  have h1 : ¬ 1 < (rdH hp id).md := by omega
  simp only [fuel, reach, has, h1, cb_refs hp1, decide_false, Bool.or_self, Bool.false_eq_true, if_false, List.nil_append, reach_nil]
theorem renB_pure {ρ : List (Nat × Nat)} {b : Blk} (h : b.pu = true) : renB ρ b = b := by simp only [renB, h, if_true]

/-! Freezing, step by step -/
def fzC (dr : Bool) (r : List D) (x : Option (D × List (Nat × Blk))) : Option (List D × List (Nat × Blk)) := match x with
  | some (d', hp1) => (match frzGs dr hp1 r with
    | some (r', hp2) => some (d' :: r', hp2)
    | none => none)
  | none => none
def fzE (d : D) (x : Option (List D × List (Nat × Blk))) : Option (List D × List (Nat × Blk)) := match x with
  | some (r', hp2) => some (d :: r', hp2)
  | none => none
def fzL (dr : Bool) (r : List D) (x : Option (D × List (Nat × Blk))) : Option (List D × List (Nat × Blk)) := match x with
  | some (d', hp1) => fzE d' (frzs dr hp1 r)
  | none => none
def fzG (x : Option (List D × List (Nat × Blk))) : Option (D × List (Nat × Blk)) := match x with
  | some (cs', hp') => some (.g cs', hp')
  | none => none
@[go_sem] theorem frzGs_nil (dr : Bool) (hp : List (Nat × Blk)) : frzGs dr hp [] = some ([], hp) := rfl
@[go_sem] theorem frzGs_cons (dr : Bool) (hp : List (Nat × Blk)) (d : D) (r : List D) : frzGs dr hp (d :: r) = fzC dr r (frzG dr hp d) := rfl
@[go_sem] theorem fzC_some (dr : Bool) (hp : List (Nat × Blk)) (d : D) (r : List D) : fzC dr r (some (d, hp)) = fzE d (frzGs dr hp r) := rfl
@[go_sem] theorem fzE_some (hp : List (Nat × Blk)) (d : D) (r : List D) : fzE d (some (r, hp)) = some (d :: r, hp) := rfl
@[go_sem] theorem frzG_g (dr : Bool) (hp : List (Nat × Blk)) (cs : List D) : frzG dr hp (.g cs) = fzG (frzs dr hp cs) := rfl
@[go_sem] theorem fzG_some (hp : List (Nat × Blk)) (cs : List D) : fzG (some (cs, hp)) = some (.g cs, hp) := rfl
@[go_sem] theorem frzs_nil (dr : Bool) (hp : List (Nat × Blk)) : frzs dr hp [] = some ([], hp) := rfl
@[go_sem] theorem frzs_cons (dr : Bool) (hp : List (Nat × Blk)) (d : D) (r : List D) : frzs dr hp (d :: r) = fzL dr r (frz dr hp d) := rfl
@[go_sem] theorem fzL_some (dr : Bool) (hp : List (Nat × Blk)) (d : D) (r : List D) : fzL dr r (some (d, hp)) = fzE d (frzs dr hp r) := rfl
@[go_sem] theorem frzG_s (dr : Bool) (hp : List (Nat × Blk)) (v : Value) : frzG dr hp (.s v) = some (.s v, hp) := rfl
@[go_sem] theorem frzG_l (dr : Bool) (hp : List (Nat × Blk)) (c : Option Nat) (es : List (List D)) : frzG dr hp (.l c es) = some (.l c es, hp) := rfl
@[go_sem] theorem frzG_p (dr : Bool) (hp : List (Nat × Blk)) (a b c : Nat) : frzG dr hp (.p a b c) = some (.p a b c, hp) := rfl
@[go_sem] theorem frzG_q (dr : Bool) (hp : List (Nat × Blk)) (cs : List D) : frzG dr hp (.q cs) = some (.q cs, hp) := rfl
@[go_sem] theorem frzG_f (dr : Bool) (hp : List (Nat × Blk)) (fn : Fn) (x y : List D) : frzG dr hp (.f fn x y) = some (.f fn x y, hp) := rfl
@[go_sem] theorem frzG_nilS (dr : Bool) (hp : List (Nat × Blk)) : frzG dr hp nilS = some (nilS, hp) := rfl
@[go_sem] theorem frzG_sl (dr : Bool) (hp : List (Nat × Blk)) (x : Sl α) : frzG dr hp (x.d f) = some (x.d f, hp) := by cases x <;> rfl
@[go_sem] theorem frzG_a (dr : Bool) (hp : List (Nat × Blk)) (id lo n z : Nat) : frzG dr hp (.a id lo n z) = frz dr hp (.a id lo n z) := rfl
@[go_sem] theorem frz_s (dr : Bool) (hp : List (Nat × Blk)) (v : Value) : frz dr hp (.s v) = some (.s v, hp) := rfl
@[go_sem] theorem frz_l (dr : Bool) (hp : List (Nat × Blk)) (c : Option Nat) (es : List (List D)) : frz dr hp (.l c es) = some (.l c es, hp) := rfl
@[go_sem] theorem frz_p (dr : Bool) (hp : List (Nat × Blk)) (a b c : Nat) : frz dr hp (.p a b c) = some (.p a b c, hp) := rfl
@[go_sem] theorem frz_q (dr : Bool) (hp : List (Nat × Blk)) (cs : List D) : frz dr hp (.q cs) = some (.q cs, hp) := rfl
@[go_sem] theorem frz_nilS (dr : Bool) (hp : List (Nat × Blk)) : frz dr hp nilS = some (nilS, hp) := rfl
@[go_sem] theorem frz_sl (dr : Bool) (hp : List (Nat × Blk)) (x : Sl α) : frz dr hp (x.d f) = some (x.d f, hp) := by cases x <;> rfl
/-- A list that grows: where it stands (its block's name is `K` or more, and less than `N`). -/
def Acc (hp : List (Nat × Blk)) (K N n : Nat) (es : List (List D)) (d : D) : Prop := (d = nilS ∧ es = []) ∨ ∃ id, K ≤ id ∧ id < N ∧ es ≠ [] ∧ d = .a id 0 es.length n ∧ rdH hp id = ⟨es, true, 0, true, none⟩
/-- What it is where it is handed out. -/
def accD (es : List (List D)) : D → D
  | .a .. => .l none es
  | d => d
def accF (hp : List (Nat × Blk)) : D → List (Nat × Blk)
  | .a id .. => (id, { rdH hp id with md := 1 }) :: hp
  | _ => hp
def accH (hp : List (Nat × Blk)) : D → List (Nat × Blk)
  | .a id .. => (id, { rdH hp id with md := 2 }) :: hp
  | _ => hp
/-- A list that was gathered, one by one. -/
def accS {α : Type} : List α → Sl α
  | [] => .nil
  | x :: r => .l none (x :: r)
@[go_sem] theorem accS_xs {α : Type} (l : List α) : (accS l).xs = l := by cases l <;> rfl
theorem frz_acc {hp : List (Nat × Blk)} {K N n : Nat} {es : List (List D)} {d : D} (h : Acc hp K N n es d) : frz false hp d = some (accD es d, accF hp d) := by
  rcases h with ⟨rfl, rfl⟩ | ⟨id, _, _, _, rfl, hb⟩
  · rfl
  · simp only [frz, hb, accD, accF, Nat.zero_add, Nat.le_refl, and_self, if_true, Bool.false_eq_true, if_false, List.drop_zero, List.take_length]
theorem frzG_acc {hp : List (Nat × Blk)} {K N n : Nat} {es : List (List D)} {d : D} (h : Acc hp K N n es d) : frzG false hp d = some (accD es d, accF hp d) := by
  have e := frz_acc h
  rcases h with ⟨rfl, rfl⟩ | ⟨id, _, _, _, rfl, hb⟩ <;> exact e
theorem rdH_accF {hp : List (Nat × Blk)} {K N n j : Nat} {es : List (List D)} {d : D} (h : Acc hp K N n es d) (hj : j < K) : rdH (accF hp d) j = rdH hp j := by
  rcases h with ⟨rfl, rfl⟩ | ⟨id, hk, _, _, rfl, hb⟩
  · rfl
  · have : id ≠ j := by omega
    simp only [accF, rdH, this, if_false]
theorem rdH_accH {hp : List (Nat × Blk)} {K N n j : Nat} {es : List (List D)} {d : D} (h : Acc hp K N n es d) (hj : j < K) : rdH (accH hp d) j = rdH hp j := by
  rcases h with ⟨rfl, rfl⟩ | ⟨id, hk, _, _, rfl, hb⟩
  · rfl
  · have : id ≠ j := by omega
    simp only [accH, rdH, this, if_false]
theorem rdH_accH2 {hp : List (Nat × Blk)} {K N n j : Nat} {es : List (List D)} {d : D} (h : Acc hp K N n es d) (hj : N ≤ j) : rdH (accH hp d) j = rdH hp j := by
  rcases h with ⟨rfl, rfl⟩ | ⟨id, _, hk, _, rfl, hb⟩
  · rfl
  · have : id ≠ j := by omega
    simp only [accH, rdH, this, if_false]
theorem acc_nil (hp : List (Nat × Blk)) (K N n : Nat) : Acc hp K N n [] nilS := .inl ⟨rfl, rfl⟩
theorem acc_new {hp : List (Nat × Blk)} {K N n id len : Nat} {es : List (List D)} (h : K ≤ id) (h2 : id < N) (hl : len = es.length) (hne : es ≠ []) : Acc ((id, ⟨es, true, 0, true, none⟩) :: hp) K N n es (.a id 0 len n) :=
  .inr ⟨id, h, h2, hne, by rw [hl], by simp only [rdH, if_true]⟩
theorem acc_cons {hp : List (Nat × Blk)} {K N n j : Nat} {es : List (List D)} {d : D} (h : Acc hp K N n es d) (hj : N ≤ j) (b : Blk) : Acc ((j, b) :: hp) K N n es d := by
  rcases h with ⟨rfl, rfl⟩ | ⟨id, hk, hk2, hne, rfl, hb⟩
  · exact .inl ⟨rfl, rfl⟩
  · have : ¬ j = id := by omega
    exact .inr ⟨id, hk, hk2, hne, rfl, by simp only [rdH, this, if_false, hb]⟩
theorem acc_low {hp : List (Nat × Blk)} {K N n j : Nat} {es : List (List D)} {d : D} (h : Acc hp K N n es d) (hj : j < K) (b : Blk) : Acc ((j, b) :: hp) K N n es d := by
  rcases h with ⟨rfl, rfl⟩ | ⟨id, hk, hk2, hne, rfl, hb⟩
  · exact .inl ⟨rfl, rfl⟩
  · have : ¬ j = id := by omega
    exact .inr ⟨id, hk, hk2, hne, rfl, by simp only [rdH, this, if_false, hb]⟩
@[go_sem] theorem acc_skip {hp : List (Nat × Blk)} {K N n j : Nat} {es : List (List D)} {d : D} {b : Blk} (hj : N ≤ j) : Acc ((j, b) :: hp) K N n es d ↔ Acc hp K N n es d := by
  refine ⟨fun h => ?_, fun h => acc_cons h hj b⟩
  rcases h with h | ⟨id, hk, hk2, hne, rfl, hb⟩
  · exact .inl h
  · have : ¬ j = id := by omega
    simp only [rdH, this, if_false] at hb
    exact .inr ⟨id, hk, hk2, hne, rfl, hb⟩
theorem acc_mono {hp : List (Nat × Blk)} {K N N' n : Nat} {es : List (List D)} {d : D} (h : Acc hp K N n es d) (hj : N ≤ N') : Acc hp K N' n es d := by
  rcases h with h | ⟨id, hk, hk2, hne, rfl, hb⟩
  · exact .inl h
  · exact .inr ⟨id, hk, by omega, hne, rfl, hb⟩
theorem acc_sl {hp : List (Nat × Blk)} {K N n : Nat} {xs : List α} {d : D} (h : Acc hp K N n (xs.map f) d) : accD (xs.map f) d = (accS xs).d f := by
  rcases h with ⟨rfl, h⟩ | ⟨id, _, _, hne, rfl, _⟩
  · have : xs = [] := by simpa using h
    subst this
    rfl
  · cases xs with
    | nil => simp at hne
    | cons x r => rfl
theorem app_acc {fr : Fr} {st : St} {K N n bytes : Nat} {es new : List (List D)} {d y : D} (h : Acc st.hp K N n es d) (hk : fr.k ≤ K) (hy : peek st.hp y = some new) (hs : sizesOk n new = true) (hne : new.isEmpty = false)
    (hb : (es.length + new.length) * bytes ≤ 140737488355328) (hb' : es.length + new.length ≤ 140737488355328) :
    appendD fr n bytes st d y = some (.a st.nx 0 (es.length + new.length) n, { tm := st.tm, hp := (st.nx, ⟨es ++ new, true, 0, true, none⟩) :: accH st.hp d, nx := st.nx + 1 }) := by
  unfold appendD
  rw [hy]
  rcases h with ⟨rfl, rfl⟩ | ⟨id, hid, _, _, rfl, hr⟩
  · have e : appendD.lenOr (D.s (Value.slice none 0 0)) = 0 := rfl
    have e2 : (0 + new.length) * bytes ≤ 140737488355328 := hb
    have e3 : 0 + new.length ≤ 140737488355328 := hb'
    simp only [hs, e, e2, e3, decide_true, Bool.and_self, if_true, nilS, hne, Bool.false_eq_true, if_false, appendD.mk, accH, List.length_nil]
  · have e : appendD.lenOr (.a id 0 es.length n) = es.length := rfl
    have e2 : fr.ro = false ∨ fr.k ≤ id := .inr (by omega)
    have hl : 0 < new.length := by cases new with | nil => simp at hne | cons _ _ => simp
    have e3 : ¬ (0 + es.length + new.length ≤ es.length) := by omega
    have e4 : (0 + es.length ≤ es.length) := by omega
    have e5 : ¬ (es.length + new.length ≤ es.length) := by omega
    simp only [hs, e, hb, hb', decide_true, Bool.and_self, if_true, hr, hne, Bool.false_eq_true, if_false, e2, e5, Nat.zero_add, Nat.le_refl, Nat.reduceLT, and_self, true_or, and_true, false_and, appendD.mk, accH, List.take_length]
/-- One more. -/
theorem app_one {k nt fn : Nat} {ro : Bool} {K N n bytes : Nat} {xs : List α} {d : D} (a : α) (hf : ∀ a : α, (f a).length = n) (hk : k ≤ K) (hb : (xs.length + 1) * bytes ≤ 140737488355328) (hb' : xs.length + 1 ≤ 140737488355328) (tm : List (Nat × D)) (hp : List (Nat × Blk)) (nx : Nat) (h : Acc hp K N n (xs.map f) d) :
    appendD ⟨k, nt, fn, ro⟩ n bytes ⟨tm, hp, nx⟩ d (.l (some 1) [f a]) = some (.a nx 0 (xs.length + 1) n, ⟨tm, (nx, ⟨(xs ++ [a]).map f, true, 0, true, none⟩) :: accH hp d, nx + 1⟩) := by
  rw [app_acc (new := [f a]) h hk rfl (by simp only [sizesOk, hf, beq_self_eq_true, Bool.and_self]) rfl (by simpa using hb) (by simpa using hb')]
  simp only [List.length_map, List.length_cons, List.length_nil, Nat.zero_add, List.map_append, List.map_cons, List.map_nil]

/-! Calls -/
section
variable {P : Program} {c : Cfg} {fr : Fr} {dr : Bool} {g : Nat} {args : List D} {st : St}
attribute [go_sem] onlyS toCells callD.resD
@[go_sem] theorem toCells_nilS (r : List D) : toCells (nilS :: r) = toCells (.s (.slice none 0 0) :: r) := rfl
@[go_sem] theorem onlyS_nilS (r : List D) : onlyS (nilS :: r) = onlyS r := rfl
theorem toCells_sl (x : Sl α) (r : List D) (b : Bool) (hb : onlyS (x.d f :: r) = b) : onlyS (x.d f :: r) = b := hb

/-- Where values alone come back: what was locked for the call is told only if a slice came back. -/
def oS (dr : Bool) (hp H : List (Nat × Blk)) (tm : List (Nat × D)) (nx : Nat) (b : Bool) (res : List D) : Option (D × St) := if b = true then some (callD.resD res, ⟨tm, H, nx⟩) else if dr = true ∧ hp.length ≠ H.length then none else some (callD.resD res, ⟨tm, hp, nx⟩)
@[go_sem] theorem oS_same (hp : List (Nat × Blk)) (tm : List (Nat × D)) (nx : Nat) (b : Bool) (res : List D) : oS dr hp hp tm nx b res = some (callD.resD res, ⟨tm, hp, nx⟩) := by
  simp only [oS, ne_eq, not_true_eq_false, and_false, if_false, ite_self]
@[go_sem] theorem oS_true (hp H : List (Nat × Blk)) (tm : List (Nat × D)) (nx : Nat) (res : List D) : oS dr hp H tm nx true res = some (callD.resD res, ⟨tm, H, nx⟩) := rfl
@[go_sem] theorem oS_false (hp H : List (Nat × Blk)) (tm : List (Nat × D)) (nx : Nat) (res : List D) : oS false hp H tm nx false res = some (callD.resD res, ⟨tm, hp, nx⟩) := rfl
/-- What a call comes to, where nothing is known of it. -/
noncomputable def fbD (P : Program) (c : Cfg) (fr : Fr) (dr : Bool) (g : Nat) (args : List D) (st : St) : Option (D × St) := callD c fr dr (callI P c) g args st
/-- What a call that is handed values alone comes to. -/
noncomputable def c0 (P : Program) (c : Cfg) (fr : Fr) (dr : Bool) (g : Nat) (args : List D) (st : St) (hp : List (Nat × Blk)) (r : Option (List D × List Blk)) : Option (D × St) := match r with
  | some (res, []) => if calms res = true then (if onlyS res = true then some (callD.resD res, st) else if dr = true ∧ hp.length ≠ st.hp.length then none else some (callD.resD res, { tm := st.tm, hp := hp, nx := st.nx })) else fbD P c fr dr g args st
  | some (res, [b]) => if onlyS res = false ∧ cb b = true ∧ (dr = true → hp.length = st.hp.length) then some (callD.resD (res.map (ren [(0, st.nx)])), { tm := st.tm, hp := (st.nx, b) :: hp, nx := st.nx + 1 }) else fbD P c fr dr g args st
  | _ => fbD P c fr dr g args st
/-- What a call that is handed one block comes to. -/
noncomputable def c1 (P : Program) (c : Cfg) (fr : Fr) (dr : Bool) (g : Nat) (args : List D) (st : St) (id : Nat) (hp : List (Nat × Blk)) (r : Option (List D × List Blk)) : Option (D × St) := match r with
  | some (res, [b]) =>
    if calms res = true ∧ cb b = true ∧ (dr = true → hp.length = st.hp.length) then
      (if c.wr g = true then some (callD.resD res, { tm := st.tm, hp := (id, b) :: hp, nx := st.nx })
      else if (rdH hp id).arr = false ∧ (rdH hp id).md = b.md then oS dr hp st.hp st.tm st.nx (onlyS res) res else fbD P c fr dr g args st)
    else fbD P c fr dr g args st
  | some (res, [b, b2]) =>
    if c.wr g = true ∧ cb b = true ∧ cb b2 = true ∧ calms res = true ∧ (dr = true → hp.length = st.hp.length) then some (callD.resD res, { tm := st.tm, hp := (st.nx, b2) :: (id, b) :: hp, nx := st.nx + 1 }) else
    if onlyS res = false ∧ c.wr g = false ∧ cb b = true ∧ cb b2 = true ∧ (dr = true → hp.length = st.hp.length) ∧ (rdH hp id).arr = false ∧ (rdH hp id).md = b.md then some (callD.resD (res.map (ren [(0, id), (1, st.nx)])), { tm := st.tm, hp := (st.nx, b2) :: hp, nx := st.nx + 1 })
    else fbD P c fr dr g args st
  | _ => fbD P c fr dr g args st
/-- What a call comes to, by what its arguments reach. -/
noncomputable def cZ (P : Program) (c : Cfg) (fr : Fr) (dr : Bool) (g : Nat) (args : List D) (st : St) (ids : List Nat) (args' : List D) (hp : List (Nat × Blk)) : Option (D × St) := match ids with
  | [] => c0 P c fr dr g args st hp (callI P c g args' [])
  | [id] => if cb (rdH hp id) = true ∧ (rdH hp id).md < 2 ∧ (fr.ro = false ∨ c.wr g = false ∨ fr.k ≤ id) then c1 P c fr dr g args st id hp (callI P c g (args'.map (ren [(id, 0)])) [rdH hp id]) else fbD P c fr dr g args st
  | _ => fbD P c fr dr g args st
noncomputable def cF (P : Program) (c : Cfg) (fr : Fr) (dr : Bool) (g : Nat) (args : List D) (st : St) (r : Option (List D × List (Nat × Blk))) : Option (D × St) := match r with
  | some (args', hp) => if refsLL args' = [] ∧ calms args' = false then fbD P c fr dr g args st else cZ P c fr dr g args st (refsLL args') args' hp
  | none => fbD P c fr dr g args st

theorem callD_c0 {hp : List (Nat × Blk)} {args' : List D} (hb : c.byRef g = false) (hw : c.wr g = false) (hk : c.keep g = false) (hf : frzGs false st.hp args = some (args', hp)) (ha : calms args' = true) :
    callD c fr dr (callI P c) g args st = c0 P c fr dr g args st hp (callI P c g args' []) := by
  cases hr : callI P c g args' [] with
  | none => rfl
  | some q =>
    obtain ⟨res, bs⟩ := q
    have key : callD c fr dr (callI P c) g args st = (if onlyS res then some (callD.resD res, st) else
          if dr && hp.length != st.hp.length then none else
          some (callD.resD (res.map (ren (backOf st.nx 0 bs.length []))), { tm := st.tm, hp := callD.addB (backOf st.nx 0 bs.length []) 0 bs hp, nx := st.nx + (bs.length - 0) })) := by
      unfold callD
      simp only [hb, Bool.false_eq_true, if_false, hf, refsLL_calm ha, reach_nil, hw, hk, Bool.and_false, Bool.false_and, List.any_nil, callD.frzBs, pos, rens_calm ha, List.map_nil, hr, List.length_nil, List.drop_zero, callD.anyArr, callD.mds, Bool.or_self, Bool.not_false, Bool.and_true, Bool.or_false]
    cases bs with
    | nil =>
      simp only [c0]
      split
      · rename_i hc
        rw [key]
        simp only [backOf, List.length_nil, rens_calm hc, callD.addB, Nat.sub_self, Nat.add_zero]
        split
        · rfl
        · by_cases h : dr = true ∧ hp.length ≠ st.hp.length
          · rw [if_pos h]; obtain ⟨h2, h3⟩ := h; simp [h2, h3]
          · rw [if_neg h]
            have : (dr && hp.length != st.hp.length) = false := by cases dr <;> simp_all
            rw [this]; simp
      · rfl
    | cons b bs =>
      cases bs with
      | nil =>
        simp only [c0]
        split
        · rename_i hc
          obtain ⟨h1, h2, h3⟩ := hc
          have : (dr && hp.length != st.hp.length) = false := by cases dr <;> simp_all
          rw [key]
          simp only [h1, Bool.false_eq_true, if_false, this, backOf, List.length_cons, List.length_nil, callD.addB, nm, if_true, cb_renB h2]
        · rfl
      | cons b2 bs => rfl

theorem callD_c1 {hp : List (Nat × Blk)} {args' : List D} {id : Nat} (hb : c.byRef g = false) (hk : c.keep g = false) (hf : frzGs false st.hp args = some (args', hp)) (ha : refsLL args' = [id]) (hp1 : cb (rdH hp id) = true) (hm : (rdH hp id).md < 2) (hro : fr.ro = false ∨ c.wr g = false ∨ fr.k ≤ id) :
    callD c fr dr (callI P c) g args st = c1 P c fr dr g args st id hp (callI P c g (args'.map (ren [(id, 0)])) [rdH hp id]) := by
  have hids : reach hp fuel [id] [] = [id] := reach_one hp1 (by omega)
  have hany : (fr.ro && c.wr g && ([id] : List Nat).any (fun x => decide (x < fr.k))) = false := by
    rcases hro with h | h | h
    · simp [h]
    · simp [h]
    · have : ¬ id < fr.k := by omega
      simp [this]
  have hfz : callD.frzBs false hp [id] = some hp := by
    rw [cb_frz hp1]; rfl
  cases hr : callI P c g (args'.map (ren [(id, 0)])) [rdH hp id] with
  | none => rfl
  | some q =>
    obtain ⟨res, bs⟩ := q
    have key : callD c fr dr (callI P c) g args st = (if onlyS res && !c.wr g then some (callD.resD res, st) else
          if dr && (hp.length != st.hp.length) then none else
          if c.wr g then some (callD.resD (res.map (ren (backOf st.nx 0 bs.length [id]))), { tm := st.tm, hp := callD.addB (backOf st.nx 0 bs.length [id]) 0 bs hp, nx := st.nx + (bs.length - 1) })
          else if callD.anyArr hp [id] || callD.mds hp [id] bs then none
          else some (callD.resD (res.map (ren (backOf st.nx 0 bs.length [id]))), { tm := st.tm, hp := callD.addB (backOf st.nx 0 bs.length [id]) 1 (bs.drop 1) hp, nx := st.nx + (bs.length - 1) })) := by
      unfold callD
      simp only [hb, Bool.false_eq_true, if_false, hf, ha, hids, hany, hk, hfz, pos, List.map_cons, List.map_nil, cb_renB hp1, hr, Bool.or_false, List.length_cons, List.length_nil, Nat.zero_add]
    have hmds : ∀ b : Blk, (callD.mds hp [id] [b]) = ((rdH hp id).md != b.md) := fun b => by simp [callD.mds]
    have hmds2 : ∀ b b2 : Blk, (callD.mds hp [id] [b, b2]) = ((rdH hp id).md != b.md) := fun b b2 => by simp [callD.mds]
    have hany2 : callD.anyArr hp [id] = (rdH hp id).arr := by simp [callD.anyArr]
    cases bs with
    | nil => rfl
    | cons b bs =>
      cases bs with
      | nil =>
        simp only [c1]
        split
        · rename_i hc
          obtain ⟨hcalm, hbp, hdr⟩ := hc
          have hd : (dr && hp.length != st.hp.length) = false := by cases dr <;> simp_all
          cases hw : c.wr g with
          | true =>
            rw [key]
            simp only [hw, hd, Bool.false_eq_true, if_false, rens_calm hcalm, backOf, List.length_cons, List.length_nil, callD.addB, nm, if_true, cb_renB hbp, Nat.sub_self, Nat.add_zero, Bool.not_true, Bool.and_false]
          | false =>
            simp only [Bool.false_eq_true, if_false]
            by_cases h : (rdH hp id).arr = false ∧ (rdH hp id).md = b.md
            · rw [if_pos h, key]
              cases hon : onlyS res with
              | true => simp only [hw, Bool.not_false, Bool.and_self, if_true, oS]
              | false =>
                have hd2 : ¬ (dr = true ∧ hp.length ≠ st.hp.length) := fun h => h.2 (hdr h.1)
                simp only [hw, Bool.false_and, hd, h.1, h.2, Bool.false_eq_true, if_false, rens_calm hcalm, backOf, List.length_cons, List.length_nil, callD.addB, Nat.sub_self, Nat.add_zero, hany2, hmds, bne_self_eq_false, Bool.or_self, List.drop_succ_cons, List.drop_zero, oS, hd2]
            · rw [if_neg h]; rfl
        · rfl
      | cons b2 bs =>
        cases bs with
        | nil =>
          simp only [c1]
          split
          · rename_i hc
            obtain ⟨h1, h2, h3, h4, h5⟩ := hc
            have hd : (dr && hp.length != st.hp.length) = false := by cases dr <;> simp_all
            rw [key]
            simp only [h1, Bool.not_true, Bool.and_false, hd, Bool.false_eq_true, if_false, if_true, backOf, List.length_cons, List.length_nil, callD.addB, nm, cb_renB h2, cb_renB h3, rens_calm h4]
            rfl
          split
          · rename_i hc
            obtain ⟨h1, h2, h3, h4, h5, h6, h7⟩ := hc
            have hd : (dr && hp.length != st.hp.length) = false := by cases dr <;> simp_all
            rw [key]
            simp only [h1, h2, hd, Bool.false_and, Bool.false_eq_true, if_false, backOf, List.length_cons, List.length_nil, callD.addB, nm, cb_renB h4, hany2, hmds2, h6, h7, bne_self_eq_false, Bool.or_self, List.drop_succ_cons, List.drop_zero]
            rfl
          · rfl
        | cons b3 bs => rfl

theorem callD_go (hb : c.byRef g = false) (hk : c.keep g = false) (hw : c.wr g = false) : callD c fr dr (callI P c) g args st = cF P c fr dr g args st (frzGs false st.hp args) := by
  cases hf : frzGs false st.hp args with
  | none => rfl
  | some q =>
    obtain ⟨args', hp⟩ := q
    simp only [cF]
    split
    · rfl
    · rename_i hne
      cases hids : refsLL args' with
      | nil =>
        simp only [cZ]
        exact callD_c0 hb hw hk hf (by rw [hids] at hne; simpa using hne)
      | cons id r =>
        cases r with
        | nil =>
          simp only [cZ]
          split
          · rename_i hc; exact callD_c1 hb hk hf hids hc.1 hc.2.1 hc.2.2
          · rfl
        | cons _ _ => rfl
theorem callD_goW (hb : c.byRef g = false) (hk : c.keep g = false) (id : Nat) (hp : List (Nat × Blk)) (args' : List D) (hf : frzGs false st.hp args = some (args', hp)) (ha : refsLL args' = [id]) (hp1 : cb (rdH hp id) = true) (hm : (rdH hp id).md < 2) (hro : fr.ro = false ∨ c.wr g = false ∨ fr.k ≤ id) :
    callD c fr dr (callI P c) g args st = c1 P c fr dr g args st id hp (callI P c g (args'.map (ren [(id, 0)])) [rdH hp id]) := callD_c1 hb hk hf ha hp1 hm hro

/-- A call of a function that writes into the one block that it is handed. -/
noncomputable def cW (P : Program) (c : Cfg) (fr : Fr) (dr : Bool) (g : Nat) (args : List D) (st : St) (r : Option (List D × List (Nat × Blk))) : Option (D × St) := match r with
  | some (args', hp) => (match refsLL args' with
    | [id] => if cb (rdH hp id) = true ∧ (rdH hp id).md < 2 ∧ (fr.ro = false ∨ c.wr g = false ∨ fr.k ≤ id) then c1 P c fr dr g args st id hp (callI P c g (args'.map (ren [(id, 0)])) [rdH hp id]) else fbD P c fr dr g args st
    | _ => fbD P c fr dr g args st)
  | none => fbD P c fr dr g args st
theorem callD_w (hb : c.byRef g = false) (hk : c.keep g = false) (_hw : c.wr g = true) : callD c fr dr (callI P c) g args st = cW P c fr dr g args st (frzGs false st.hp args) := by
  cases hf : frzGs false st.hp args with
  | none => rfl
  | some q =>
    obtain ⟨args', hp⟩ := q
    simp only [cW]
    split
    · rename_i id hids
      split
      · rename_i hc; exact callD_c1 hb hk hf hids hc.1 hc.2.1 hc.2.2
      · rfl
    · rfl
/-! Equations to go on with -/
noncomputable def cW1 (P : Program) (c : Cfg) (fr : Fr) (dr : Bool) (g : Nat) (args : List D) (st : St) (args' : List D) (hp : List (Nat × Blk)) (ids : List Nat) : Option (D × St) := match ids with
    | [id] => if cb (rdH hp id) = true ∧ (rdH hp id).md < 2 ∧ (fr.ro = false ∨ c.wr g = false ∨ fr.k ≤ id) then c1 P c fr dr g args st id hp (callI P c g (args'.map (ren [(id, 0)])) [rdH hp id]) else fbD P c fr dr g args st
    | _ => fbD P c fr dr g args st
@[go_sem] theorem cW_some (args' : List D) (hp : List (Nat × Blk)) : cW P c fr dr g args st (some (args', hp)) = cW1 P c fr dr g args st args' hp (refsLL args') := by
  unfold cW cW1
  rfl
@[go_sem] theorem cW1_one (id : Nat) (args' : List D) (hp : List (Nat × Blk)) : cW1 P c fr dr g args st args' hp [id] = if cb (rdH hp id) = true ∧ (rdH hp id).md < 2 ∧ (fr.ro = false ∨ c.wr g = false ∨ fr.k ≤ id) then c1 P c fr dr g args st id hp (callI P c g (args'.map (ren [(id, 0)])) [rdH hp id]) else fbD P c fr dr g args st := rfl

@[go_sem] theorem cF_some (args' : List D) (hp : List (Nat × Blk)) : cF P c fr dr g args st (some (args', hp)) = if refsLL args' = [] ∧ calms args' = false then fbD P c fr dr g args st else cZ P c fr dr g args st (refsLL args') args' hp := rfl
@[go_sem] theorem cZ_nil (args' : List D) (hp : List (Nat × Blk)) : cZ P c fr dr g args st [] args' hp = c0 P c fr dr g args st hp (callI P c g args' []) := rfl
@[go_sem] theorem cZ_one (id : Nat) (args' : List D) (hp : List (Nat × Blk)) : cZ P c fr dr g args st [id] args' hp = if cb (rdH hp id) = true ∧ (rdH hp id).md < 2 ∧ (fr.ro = false ∨ c.wr g = false ∨ fr.k ≤ id) then c1 P c fr dr g args st id hp (callI P c g (args'.map (ren [(id, 0)])) [rdH hp id]) else fbD P c fr dr g args st := rfl
@[go_sem] theorem c0_nil (hp : List (Nat × Blk)) (res : List D) : c0 P c fr dr g args st hp (some (res, [])) = if calms res = true then oS dr hp st.hp st.tm st.nx (onlyS res) res else fbD P c fr dr g args st := rfl
@[go_sem] theorem c0_one (hp : List (Nat × Blk)) (res : List D) (b : Blk) : c0 P c fr dr g args st hp (some (res, [b])) = if onlyS res = false ∧ cb b = true ∧ (dr = true → hp.length = st.hp.length) then some (callD.resD (res.map (ren [(0, st.nx)])), { tm := st.tm, hp := (st.nx, b) :: hp, nx := st.nx + 1 }) else fbD P c fr dr g args st := rfl
@[go_sem] theorem c1_one (id : Nat) (hp : List (Nat × Blk)) (res : List D) (b : Blk) : c1 P c fr dr g args st id hp (some (res, [b])) =
    if calms res = true ∧ cb b = true ∧ (dr = true → hp.length = st.hp.length) then
      (if c.wr g = true then some (callD.resD res, { tm := st.tm, hp := (id, b) :: hp, nx := st.nx })
      else if (rdH hp id).arr = false ∧ (rdH hp id).md = b.md then oS dr hp st.hp st.tm st.nx (onlyS res) res else fbD P c fr dr g args st)
    else fbD P c fr dr g args st := rfl
@[go_sem] theorem c1_two (id : Nat) (hp : List (Nat × Blk)) (res : List D) (b b2 : Blk) : c1 P c fr dr g args st id hp (some (res, [b, b2])) =
    if c.wr g = true ∧ cb b = true ∧ cb b2 = true ∧ calms res = true ∧ (dr = true → hp.length = st.hp.length) then some (callD.resD res, { tm := st.tm, hp := (st.nx, b2) :: (id, b) :: hp, nx := st.nx + 1 }) else
    if onlyS res = false ∧ c.wr g = false ∧ cb b = true ∧ cb b2 = true ∧ (dr = true → hp.length = st.hp.length) ∧ (rdH hp id).arr = false ∧ (rdH hp id).md = b.md then some (callD.resD (res.map (ren [(0, id), (1, st.nx)])), { tm := st.tm, hp := (st.nx, b2) :: hp, nx := st.nx + 1 })
    else fbD P c fr dr g args st := rfl
end
end
end Vm
end Go.Proofs.Ytenldcieoalgoaa

/-
  The machine of values, step by step: what a function hands out; loops; more operations.
-/
namespace Go.Proofs.Ytenldcieoalgoaa
namespace Vm
open Go Go.RowKit

section
variable {P : Program} {c : Cfg} {fr : Fr} {st : St} {α : Type} {f : α → List D}
@[go_sem] theorem refsLL_nil : refsLL [] = [] := rfl
@[go_sem] theorem refsLL_cons (d : D) (r : List D) : refsLL (d :: r) = refs d ++ refsLL r := rfl
@[go_sem] theorem refs_s (v : Value) : refs (.s v) = [] := rfl
@[go_sem] theorem refs_l (cp : Option Nat) (es : List (List D)) : refs (.l cp es) = [] := rfl
@[go_sem] theorem refs_q (cs : List D) : refs (.q cs) = [] := rfl
@[go_sem] theorem refs_nilS : refs nilS = [] := rfl
@[go_sem] theorem refs_sl (x : Sl α) : refs (x.d f) = [] := by cases x <;> rfl
@[go_sem] theorem refs_p (id i off : Nat) : refs (.p id i off) = [id] := rfl
@[go_sem] theorem refs_a (id lo n z : Nat) : refs (.a id lo n z) = [id] := rfl
@[go_sem] theorem refs_f (fn : Fn) : refs (.f fn [] []) = [] := rfl
@[go_sem] theorem ren_f (ρ : List (Nat × Nat)) (fn : Fn) : ren ρ (.f fn [] []) = .f fn [] [] := rfl
@[go_sem] theorem refs_g (cs : List D) : refs (.g cs) = refsL cs := rfl
@[go_sem] theorem refsL_nil : refsL [] = [] := rfl
@[go_sem] theorem refsL_cons (d : D) (r : List D) : refsL (d :: r) = refsA d ++ refsL r := rfl
@[go_sem] theorem refsA_s (v : Value) : refsA (.s v) = [] := rfl
@[go_sem] theorem refsA_l (cp : Option Nat) (es : List (List D)) : refsA (.l cp es) = [] := rfl
@[go_sem] theorem refsA_q (cs : List D) : refsA (.q cs) = [] := rfl
@[go_sem] theorem refsA_nilS : refsA nilS = [] := rfl
@[go_sem] theorem refsA_sl (x : Sl α) : refsA (x.d f) = [] := by cases x <;> rfl
@[go_sem] theorem refsA_p (id i off : Nat) : refsA (.p id i off) = [id] := rfl
@[go_sem] theorem nm_nil (j : Nat) : nm [] j = none := rfl
@[go_sem] theorem nm_cons (i v j : Nat) (m : List (Nat × Nat)) : nm ((i, v) :: m) j = if i = j then some v else nm m j := rfl
def rnP (i off : Nat) : Option Nat → D
  | some x => .p x i off
  | none => .u
@[go_sem] theorem rnP_some (i off x : Nat) : rnP i off (some x) = .p x i off := rfl
@[go_sem] theorem ren_p (ρ : List (Nat × Nat)) (id i off : Nat) : ren ρ (.p id i off) = rnP i off (nm ρ id) := by
  simp only [ren, renG, renA]
  unfold rnP
  cases nm ρ id <;> rfl
@[go_sem] theorem ren_s (ρ : List (Nat × Nat)) (v : Value) : ren ρ (.s v) = .s v := rfl
@[go_sem] theorem ren_l (ρ : List (Nat × Nat)) (cp : Option Nat) (es : List (List D)) : ren ρ (.l cp es) = .l cp es := rfl
@[go_sem] theorem ren_q (ρ : List (Nat × Nat)) (cs : List D) : ren ρ (.q cs) = .q cs := rfl
@[go_sem] theorem ren_nilS (ρ : List (Nat × Nat)) : ren ρ nilS = nilS := rfl
@[go_sem] theorem ren_sl (ρ : List (Nat × Nat)) (x : Sl α) : ren ρ (x.d f) = x.d f := by cases x <;> rfl
@[go_sem] theorem ren_g (ρ : List (Nat × Nat)) (cs : List D) (h : calmL cs = true) : ren ρ (.g cs) = .g cs := ren_calm h
@[go_sem] theorem onlyS_sl (x : Sl α) (cp : Option Nat) (xs : List α) (r : List D) (h : x = .l cp xs) : onlyS (x.d f :: r) = false := by subst h; rfl

/-! What a function hands out -/
noncomputable def fbL (c : Cfg) (fr : Fr) (st : St) (res : List D) : Option (List D × List Blk) := leave c fr st res
noncomputable def lK (c : Cfg) (fr : Fr) (st : St) (res : List D) (k : Nat) (ids : List Nat) (res' : List D) (hp : List (Nat × Blk)) : Option (List D × List Blk) := match k, ids with
  | 0, [] => if calms res' = true then some (res', []) else fbL c fr st res
  | 1, [] => if calms res' = true ∧ cb (rdH hp 0) = true then some (res', [rdH hp 0]) else fbL c fr st res
  | 0, [id] => if cb (rdH hp id) = true ∧ (rdH hp id).md < 2 then some (res'.map (ren [(id, 0)]), [rdH hp id]) else fbL c fr st res
  | 1, [id] => if cb (rdH hp 0) = true ∧ cb (rdH hp id) = true ∧ (rdH hp id).md < 2 ∧ id ≠ 0 then some (res'.map (ren [(0, 0), (id, 1)]), [rdH hp 0, rdH hp id]) else fbL c fr st res
  | _, _ => fbL c fr st res
noncomputable def lF (c : Cfg) (fr : Fr) (st : St) (res : List D) (r : Option (List D × List (Nat × Blk))) : Option (List D × List Blk) := match r with
  | some (res', hp) => if refsLL res' = [] ∧ calms res' = false then fbL c fr st res else lK c fr st res fr.k (refsLL res') res' hp
  | none => none
theorem leave_ids {res res' : List D} {hp : List (Nat × Blk)} {ids : List Nat} (ho : c.own fr.fn = false) (hk : c.keep fr.fn = false) (hf : frzGs false st.hp res = some (res', hp))
    (hr : reach hp fuel (refsBs hp (upto fr.k 0) ++ refsLL res') (upto fr.k 0) = ids) (hz : ∀ id ∈ ids, cb (rdH hp id) = true) : leave c fr st res = some (res'.map (ren (pos 0 ids)), ids.map (rdH hp)) := by
  have hz2 : ∀ ids : List Nat, (∀ id ∈ ids, cb (rdH hp id) = true) → callD.frzBs false hp ids = some hp := by
    intro ids
    induction ids with
    | nil => intro _; rfl
    | cons id r ih =>
      intro h
      rw [cb_frz (h id (by simp)), ih (fun x hx => h x (by simp [hx]))]
  unfold leave
  rw [ho, hk]
  simp only [Bool.false_eq_true, if_false, hf, hr, hz2 ids hz]
  congr 2
  exact List.map_congr_left fun id hid => cb_renB (hz id hid)
theorem leave_go {res : List D} (ho : c.own fr.fn = false) (hk : c.keep fr.fn = false) : leave c fr st res = lF c fr st res (frzGs false st.hp res) := by
  cases hf : frzGs false st.hp res with
  | none => unfold leave; rw [ho]; simp only [Bool.false_eq_true, if_false, hf]; rfl
  | some q =>
    obtain ⟨res', hp⟩ := q
    have hb : cb (rdH hp 0) = true → refsBs hp [0] = [] := by
      intro h
      simp only [refsBs, cb_refs h, List.append_nil, ite_self]
    simp only [lF]
    by_cases hne : refsLL res' = [] ∧ calms res' = false
    · rw [if_pos hne]; rfl
    rw [if_neg hne]
    obtain ⟨k, nt, fn, ro⟩ := fr
    dsimp only at ho hk ⊢
    match k, hids : refsLL res' with
    | 0, [] =>
      have hc : calms res' = true := by rw [hids] at hne; simpa using hne
      simp only [lK, hc, if_true]
      rw [leave_ids ho hk hf (ids := []) (by rw [hids]; exact reach_nil _ _ _) (by simp)]
      simp only [pos, rens_calm hc, List.map_nil]
    | 1, [] =>
      simp only [lK]
      by_cases h : calms res' = true ∧ cb (rdH hp 0) = true
      · rw [if_pos h, leave_ids ho hk hf (ids := [0]) (by rw [hids]; show reach hp fuel (refsBs hp [0] ++ []) [0] = [0]; rw [hb h.2]; exact reach_nil _ _ _) (by simpa using h.2)]
        simp only [rens_calm h.1, List.map_cons, List.map_nil]
      · rw [if_neg h]; rfl
    | 0, [id] =>
      simp only [lK]
      by_cases h : cb (rdH hp id) = true ∧ (rdH hp id).md < 2
      · have hr := reach_one h.1 (show (rdH hp id).md = 0 ∨ (rdH hp id).md = 1 by omega)
        rw [if_pos h, leave_ids ho hk hf (ids := [id]) (by rw [hids]; exact hr) (by simpa using h.1)]
        rfl
      · rw [if_neg h]; rfl
    | 1, [id] =>
      simp only [lK]
      by_cases h : cb (rdH hp 0) = true ∧ cb (rdH hp id) = true ∧ (rdH hp id).md < 2 ∧ id ≠ 0
      · rw [if_pos h]
        obtain ⟨h1, h2, h3, h4⟩ := h
        have h5 : ¬ 1 < (rdH hp id).md := by omega
        have hr : reach hp fuel [id] [0] = [0, id] := by
          simp only [fuel, reach, has, h4, if_false, h5, cb_refs h2, decide_false, Bool.or_self, Bool.false_eq_true, List.nil_append, reach_nil]
          rfl
        rw [leave_ids ho hk hf (ids := [0, id]) (by rw [hids]; show reach hp fuel (refsBs hp [0] ++ [id]) [0] = [0, id]; rw [hb h1]; exact hr) (by simp [h1, h2])]
        rfl
      · rw [if_neg h]; rfl
    | 0, _ :: _ :: _ => rfl
    | 1, _ :: _ :: _ => rfl
    | k + 2, [] => rfl
    | k + 2, [_] => rfl
    | k + 2, _ :: _ :: _ => rfl

/-- A function that left a slice of its own in the one block that it was handed. -/
theorem leave_p1 {nt fn : Nat} {ro : Bool} {res cs cs' : List D} {j : Nat} {bj : Blk} (ho : c.own fn = false) (hk : c.keep fn = false) (hr : calms res = true) (hb : rdH st.hp 0 = ⟨[cs], false, 0, false, none⟩) (hf : frzGs false st.hp cs = some (cs', (j, bj) :: st.hp)) (hc : calms cs' = true)
    (hrefs : refsE [cs] = [j]) (hj : j ≠ 0) (hpj : (rdH st.hp j).pu = true) (hmj : (rdH st.hp j).md < 2) (hbj : bj.pu = true) : leave c ⟨1, nt, fn, ro⟩ st res = some (res, [⟨[cs'], false, 0, false, none⟩, bj]) := by
  have h0j : ¬ 0 = j := fun h => hj h.symm
  have hids : reach st.hp fuel (refsBs st.hp (upto 1 0) ++ refsLL res) (upto 1 0) = [0, j] := by
    have e1 : refsBs st.hp (upto 1 0) = [j] := by
      show refsBs st.hp [0] = [j]
      simp only [refsBs, hb, refsB, Bool.false_eq_true, if_false, Nat.zero_lt_succ, if_true, hrefs, List.append_nil]
    rw [e1, refsLL_calm hr]
    have h5 : ¬ 1 < (rdH st.hp j).md := by omega
    show reach st.hp fuel [j] [0] = [0, j]
    simp only [fuel, reach, has, hj, if_false, h5, refsB, hpj, if_true, decide_false, Bool.or_self, Bool.false_eq_true, List.nil_append, reach_nil]
    rfl
  unfold leave
  simp only [ho, hk, Bool.false_eq_true, if_false, frzGs_calm hr, hids]
  have hz : callD.frzBs false st.hp [0, j] = some ((0, ⟨[cs'], false, 0, false, none⟩) :: (j, bj) :: st.hp) := by
    have hl : ¬ (st.hp.length + 1 = st.hp.length ∧ noA cs = true) := by omega
    simp only [callD.frzBs, hb, Bool.or_self, Bool.false_eq_true, if_false, hf, List.length_cons, hl, rdH, h0j, if_true, hbj, Bool.true_or, ite_self, Nat.not_lt_zero]
  simp only [hz, rens_calm hr, List.map_cons, List.map_nil, rdH, if_true, h0j, if_false]
  rw [renB_pure hbj, cb_renB (by simp only [cb, hc, Bool.or_true])]
def rvK (c : Cfg) (fr : Fr) (st : St) (r : Option (List D)) : Option (List D × List Blk) := match r with
  | some res => leave c fr st res
  | none => none
@[go_sem] theorem rvK_some (res : List D) : rvK c fr st (some res) = leave c fr st res := rfl
@[go_sem] theorem endE_ret (rs : List ResultVar) : endE P c fr rs (some (.ret, st)) = rvK c fr st (resVars P st rs) := by
  unfold endE rvK; dsimp only; cases resVars P st rs <;> rfl
@[go_sem] theorem endE_normal (rs : List ResultVar) : endE P c fr rs (some (.normal, st)) = rvK c fr st (resVars P st rs) := by
  unfold endE rvK; dsimp only; cases resVars P st rs <;> rfl
def rvC (a : Option D) (r : Option (List D)) : Option (List D) := match a, r with
  | some d, some ds => some (d :: ds)
  | _, _ => none
@[go_sem] theorem rvC_some (d : D) (ds : List D) : rvC (some d) (some ds) = some (d :: ds) := rfl
@[go_sem] theorem resVars_nil : resVars P st [] = some [] := rfl
@[go_sem] theorem resVars_cons (x : ResultVar) (r : List ResultVar) : resVars P st (x :: r) = rvC (resVar P st x) (resVars P st r) := by
  simp only [resVars]
  unfold rvC
  cases resVar P st x <;> cases resVars P st r <;> rfl
@[go_sem] theorem resVar_tmp (t : Tmp) : resVar P st (.tmp t) = some (rdT st.tm t) := rfl
@[go_sem] theorem resVar_cell (t : Tmp) (ty : TypeId) : resVar P st (.cell t ty) = ldC (agg P ty) (sz P ty) (memAt st.hp (rdT st.tm t)) := by
  unfold resVar ldC
  dsimp only
  cases memAt st.hp (rdT st.tm t) <;> cases sz P ty <;> rfl
@[go_sem] theorem lF_some (res res' : List D) (hp : List (Nat × Blk)) : lF c fr st res (some (res', hp)) = if refsLL res' = [] ∧ calms res' = false then fbL c fr st res else lK c fr st res fr.k (refsLL res') res' hp := rfl
@[go_sem] theorem lK_00 (res res' : List D) (hp : List (Nat × Blk)) : lK c fr st res 0 [] res' hp = if calms res' = true then some (res', []) else fbL c fr st res := rfl
@[go_sem] theorem lK_10 (res res' : List D) (hp : List (Nat × Blk)) : lK c fr st res 1 [] res' hp = if calms res' = true ∧ cb (rdH hp 0) = true then some (res', [rdH hp 0]) else fbL c fr st res := rfl
@[go_sem] theorem lK_01 (res res' : List D) (hp : List (Nat × Blk)) (id : Nat) : lK c fr st res 0 [id] res' hp = if cb (rdH hp id) = true ∧ (rdH hp id).md < 2 then some (res'.map (ren [(id, 0)]), [rdH hp id]) else fbL c fr st res := rfl
@[go_sem] theorem lK_11 (res res' : List D) (hp : List (Nat × Blk)) (id : Nat) : lK c fr st res 1 [id] res' hp = if cb (rdH hp 0) = true ∧ cb (rdH hp id) = true ∧ (rdH hp id).md < 2 ∧ id ≠ 0 then some (res'.map (ren [(0, 0), (id, 1)]), [rdH hp 0, rdH hp id]) else fbL c fr st res := rfl

/-! Loops -/
/-- What a round of a loop comes to. -/
def StepR (good : St → Prop) (Post : Ex → St → Prop) (r : Option (Ex × St)) : Prop := match r with
  | some (.normal, st) => good st
  | some (x, st) => Post x st
  | none => False
@[go_sem] theorem step_normal (good : St → Prop) (Post : Ex → St → Prop) (st : St) : StepR good Post (some (.normal, st)) = good st := rfl
@[go_sem] theorem step_exit (good : St → Prop) (Post : Ex → St → Prop) (i : Nat) (st : St) : StepR good Post (some (.exit i, st)) = Post (.exit i) st := rfl
@[go_sem] theorem step_ret (good : St → Prop) (Post : Ex → St → Prop) (st : St) : StepR good Post (some (.ret, st)) = Post .ret st := rfl
@[go_sem] theorem step_goto (good : St → Prop) (Post : Ex → St → Prop) (l : Nat) (st : St) : StepR good Post (some (.goto l, st)) = Post (.goto l) st := rfl

theorem loop_of {body : Code} (hh : ∀ st, headD c fr body st = some st) (I : St → Prop) (μ : St → Nat) (Q : Ex → St → Prop)
    (step : ∀ st, I st → StepR (fun st2 => I st2 ∧ μ st2 < μ st) Q (exe P c fr body st)) : ∀ (n : Nat) (st : St), μ st < n → I st → ∃ x st2, exe P c fr (.loop body) st = some (x, st2) ∧ Q x st2
  | 0, st, h, _ => by omega
  | n + 1, st, h, hi => by
    have hs := step st hi
    rw [e_loop, hh]
    simp only [kH]
    cases hr : exe P c fr body st with
    | none => rw [hr] at hs; exact hs.elim
    | some r =>
      obtain ⟨x, st2⟩ := r
      rw [hr] at hs
      cases x with
      | normal => exact loop_of hh I μ Q step n st2 (Nat.lt_of_lt_of_le hs.2 (by omega)) hs.1
      | _ => exact ⟨_, _, rfl, hs⟩
/-- A loop: what holds at its head, and what grows less. -/
theorem loop_use {body : Code} {st : St} {r : Option (Ex × St)} (hx : exe P c fr (.loop body) st = r) (hh : ∀ st, headD c fr body st = some st) (I : St → Prop) (μ : St → Nat) (Q : Ex → St → Prop) (h0 : I st)
    (step : ∀ st, I st → StepR (fun st2 => I st2 ∧ μ st2 < μ st) Q (exe P c fr body st)) : ∃ x st2, r = some (x, st2) ∧ Q x st2 := by
  obtain ⟨x, st2, h1, h2⟩ := loop_of hh I μ Q step (μ st + 1) st (by omega) h0
  exact ⟨x, st2, by rw [← hx, h1], h2⟩
/-- A loop over a list's elements: `I i b` at its head, where `i` are done and `b` is what was gathered; `F b rest`: what it comes to. -/
theorem list_use {body : Code} {st : St} {r : Option (Ex × St)} (hx : exe P c fr (.loop body) st = r) (hh : ∀ st, headD c fr body st = some st) {β γ : Type} (xs : List α) (hlen : xs.length < 9223372036854775808) (I : Nat → β → St → Prop) (F : β → List α → γ) (Q : γ → Ex → St → Prop) (b0 : β) (h0 : I 0 b0 st)
    (step : ∀ (i : Nat) (b : β) (st : St) (a : α) (rest : List α), xs[i]? = some a → xs.drop i = a :: rest → ((i : Int) < (xs.length : Int)) → IntKind.i64.wrap ((i : Int) + 1) = ((i + 1 : Nat) : Int) → I i b st →
      StepR (fun st2 => ∃ b', I (i + 1) b' st2 ∧ F b (a :: rest) = F b' rest) (Q (F b (a :: rest))) (exe P c fr body st))
    (done : ∀ (b : β) (st : St), I xs.length b st → StepR (fun _ => False) (Q (F b [])) (exe P c fr body st)) : ∃ x st2, r = some (x, st2) ∧ Q (F b0 xs) x st2 := by
  have main : ∀ (m i : Nat) (b : β) (st : St), xs.length - i = m → i ≤ xs.length → I i b st → ∃ x st2, exe P c fr (.loop body) st = some (x, st2) ∧ Q (F b (xs.drop i)) x st2 := by
    intro m
    induction m with
    | zero =>
      intro i b st hm hi hI
      have : i = xs.length := by omega
      subst this
      have hs := done b st hI
      rw [e_loop, hh, List.drop_length]
      simp only [kH]
      cases hr : exe P c fr body st with
      | none => rw [hr] at hs; exact hs.elim
      | some q =>
        obtain ⟨x, st2⟩ := q
        rw [hr] at hs
        cases x with
        | normal => exact hs.elim
        | _ => exact ⟨_, _, rfl, hs⟩
    | succ m ih =>
      intro i b st hm hi hI
      have hlt : i < xs.length := by omega
      have hd : xs.drop i = xs[i] :: xs.drop (i + 1) := List.drop_eq_getElem_cons hlt
      have hs := step i b st xs[i] (xs.drop (i + 1)) (by simp [hlt]) hd (by omega) (by rw [IntKind.wrap_i64]; omega) hI
      rw [e_loop, hh, hd]
      simp only [kH]
      cases hr : exe P c fr body st with
      | none => rw [hr] at hs; exact hs.elim
      | some q =>
        obtain ⟨x, st2⟩ := q
        rw [hr] at hs
        cases x with
        | normal =>
          obtain ⟨b', h1, h2⟩ := hs
          obtain ⟨x, st3, h3, h4⟩ := ih (i + 1) b' st2 (by omega) (by omega) h1
          exact ⟨x, st3, h3, by rw [h2]; exact h4⟩
        | _ => exact ⟨_, _, rfl, hs⟩
  obtain ⟨x, st2, h1, h2⟩ := main xs.length 0 b0 st (by omega) (by omega) h0
  exact ⟨x, st2, by rw [← hx, h1], by simpa using h2⟩
end

/-! Appends; slices that are cut; copies -/
section
variable {P : Program} {c : Cfg} {fr : Fr} {dr : Bool} {call : Vm.Callee} (dst : Option Tmp) (ty : TypeId) (pos : String) (after : Array Edge) (guard : Option (Nat × Bool)) (st : St) {α : Type} {f : α → List D}
def apT (P : Program) (t u : TypeId) : Option (Nat × Nat) := match elt P t with
  | some el => (match sz P el, byt P el, zer P el with
    | some n, some b, some z => if 0 < n ∧ z.length = n ∧ (elt P u).isSome = true then some (n, b) else none
    | _, _, _ => none)
  | none => none
noncomputable def fbO (P : Program) (c : Cfg) (fr : Fr) (dr : Bool) (call : Vm.Callee) (st : St) (o : Oper) : Option (D × St) := opD P c fr dr call st o
noncomputable def apK (P : Program) (c : Cfg) (fr : Fr) (dr : Bool) (call : Vm.Callee) (st : St) (o : Oper) (dx dy : D) (r : Option (Nat × Nat)) : Option (D × St) := match r with
  | some (n, b) => appendD fr n b st dx dy
  | none => fbO P c fr dr call st o
@[go_sem] theorem d_append (x y : Operand) (t u : TypeId) : opD P c fr dr call st { dst := dst, op := .call { callee := .builtin .append, args := #[x, y], argTypes := #[t, u] }, type := ty, pos := pos, after := after, guard := guard } =
    apK P c fr dr call st { dst := dst, op := .call { callee := .builtin .append, args := #[x, y], argTypes := #[t, u] }, type := ty, pos := pos, after := after, guard := guard } (ev st.tm x) (ev st.tm y) (apT P t u) := by
  unfold apK
  split
  · rename_i n b h
    have e : opD P c fr dr call st { dst := dst, op := .call { callee := .builtin .append, args := #[x, y], argTypes := #[t, u] }, type := ty, pos := pos, after := after, guard := guard } = op1 P c fr dr call st { dst := dst, op := .call { callee := .builtin .append, args := #[x, y], argTypes := #[t, u] }, type := ty, pos := pos, after := after, guard := guard } := rfl
    rw [e]
    unfold apT at h
    unfold op1
    cases h1 : elt P t with
    | none => rw [h1] at h; cases h
    | some el =>
      simp only [h1] at h ⊢
      cases h2 : sz P el <;> cases h3 : byt P el <;> cases h4 : zer P el <;> simp only [h2, h3, h4] at h ⊢ <;> try (cases h; done)
      split at h
      · rename_i hc
        cases h
        obtain ⟨c1, c2, c3⟩ := hc
        cases h5 : elt P u with
        | none => rw [h5] at c3; simp at c3
        | some e => simp only [List.map_cons, List.map_nil, h1, h2, h3, h4, h5, c1, c2, and_self, if_true]
      · cases h
  · rfl
@[go_sem] theorem apK_some (o : Oper) (dx dy : D) (n b : Nat) : apK P c fr dr call st o dx dy (some (n, b)) = appendD fr n b st dx dy := rfl
@[go_sem] theorem peek_l (hp : List (Nat × Blk)) (cp : Option Nat) (es : List (List D)) : peek hp (.l cp es) = some es := rfl
@[go_sem] theorem peek_sl (hp : List (Nat × Blk)) (x : Sl α) : peek hp (x.d f) = some (x.xs.map f) := by cases x <;> rfl
@[go_sem] theorem sizes_nil (n : Nat) : sizesOk n [] = true := rfl
@[go_sem] theorem sizes_cons (n : Nat) (e : List D) (r : List (List D)) : sizesOk n (e :: r) = (e.length == n && sizesOk n r) := rfl
theorem sizes_map (n : Nat) (h : ∀ a : α, (f a).length = n) : ∀ xs : List α, sizesOk n (xs.map f) = true
  | [] => rfl
  | a :: r => by simp only [List.map_cons, sizesOk, h a, beq_self_eq_true, Bool.true_and, sizes_map n h r]
def clK (c : Cfg) (fr : Fr) (dr : Bool) (call : Vm.Callee) (args : List D) (st : St) (d : D) : Option (D × St) := match d with
  | .f (.func g) first cap => if (dr && c.wr g) = true then none else callD c fr dr call g (first ++ args ++ cap) st
  | _ => none
@[go_sem] theorem d_callT (t : Tmp) (xs : Array Operand) (ts : Array TypeId) : opD P c fr dr call st { dst := dst, op := .call { callee := .value (.tmp t), args := xs, argTypes := ts }, type := ty, pos := pos, after := after, guard := guard } =
    clK c fr dr call (xs.toList.map (ev st.tm)) st (rdT st.tm t) := by
  have e : opD P c fr dr call st { dst := dst, op := .call { callee := .value (.tmp t), args := xs, argTypes := ts }, type := ty, pos := pos, after := after, guard := guard } = op1 P c fr dr call st { dst := dst, op := .call { callee := .value (.tmp t), args := xs, argTypes := ts }, type := ty, pos := pos, after := after, guard := guard } := rfl
  rw [e]; unfold op1 clK; rfl
@[go_sem] theorem clK_f (args : List D) (g : FuncId) (x y : List D) : clK c fr dr call args st (.f (.func g) x y) = if (dr && c.wr g) = true then none else callD c fr dr call g (x ++ args ++ y) st := rfl
def opK (o : Option Operand) (tm : List (Nat × D)) : Option D := o.map (ev tm)
def ctK (st : St) (r : Option (D × List (Nat × Blk))) : Option (D × St) := match r with
  | some (d, hp) => some (d, { tm := st.tm, hp := hp, nx := st.nx })
  | none => none
@[go_sem] theorem d_slice (t : TypeId) (x : Operand) (lo hi mx : Option Operand) : opD P c fr dr call st { dst := dst, op := .slice t x lo hi mx, type := ty, pos := pos, after := after, guard := guard } = ctK st (cut P t dr st.hp (ev st.tm x) (lo.map (ev st.tm)) (hi.map (ev st.tm)) (mx.map (ev st.tm))) := by
  have e : opD P c fr dr call st { dst := dst, op := .slice t x lo hi mx, type := ty, pos := pos, after := after, guard := guard } = op1 P c fr dr call st { dst := dst, op := .slice t x lo hi mx, type := ty, pos := pos, after := after, guard := guard } := rfl
  rw [e]; unfold op1 ctK; dsimp only; cases cut P t dr st.hp (ev st.tm x) (lo.map (ev st.tm)) (hi.map (ev st.tm)) (mx.map (ev st.tm)) <;> rfl
@[go_sem] theorem ctK_some (d : D) (hp : List (Nat × Blk)) : ctK st (some (d, hp)) = some (d, { tm := st.tm, hp := hp, nx := st.nx }) := rfl
end

attribute [go_sem] exists_const exists_eq exists_eq_left exists_eq_right exists_eq_left' exists_eq_right' exists_and_left exists_and_right Int.natCast_zero List.map_cons List.map_nil List.getElem?_cons_zero List.getElem?_cons_succ List.getElem?_toArray Option.bind_some List.length_cons List.length_nil List.take_zero List.take_succ_cons List.drop_zero List.drop_succ_cons List.drop_nil List.nil_append List.cons_append List.append_nil List.set_cons_zero List.set_cons_succ and_true true_and and_false false_and or_true true_or or_false false_or Bool.and_true Bool.true_and Bool.and_self Bool.not_true Bool.not_false Bool.true_eq_false Bool.false_eq_true Nat.zero_add Nat.add_zero Nat.le_refl Nat.zero_le Nat.zero_mul Nat.one_mul Nat.mul_zero decide_eq_true_eq decide_eq_false_iff_not ite_not Option.map_some Option.map_none initT initH not_false_eq_true not_true_eq_false decide_true decide_false Bool.not_eq_eq_eq_not Option.isSome_some eq_self if_true if_false List.isEmpty_cons and_self Nat.mul_one Bool.false_and Bool.and_false ne_eq forall_const implies_true Bool.or_true Bool.true_or Bool.or_false Bool.false_or beq_self_eq_true false_imp_iff List.length_append
end Vm
end Go.Proofs.Ytenldcieoalgoaa

/-
  The machine of values, step by step: arithmetic and comparisons.
-/
namespace Go.Proofs.Ytenldcieoalgoaa
namespace Vm
open Go Go.RowKit
section
variable {P : Program} (t : TypeId) (k : IntKind) (x y : Int)
@[go_sem] theorem bin_add : binD P .add t (.s (.int k x)) (.s (.int k y)) = some (.s (.int k (k.wrap (x + y)))) := by
  cases k <;> rfl
@[go_sem] theorem bin_sub : binD P .sub t (.s (.int k x)) (.s (.int k y)) = some (.s (.int k (k.wrap (x - y)))) := by
  cases k <;> rfl
@[go_sem] theorem bin_mul : binD P .mul t (.s (.int k x)) (.s (.int k y)) = some (.s (.int k (k.wrap (x * y)))) := by
  cases k <;> rfl
@[go_sem] theorem bin_lss : binD P .lss t (.s (.int k x)) (.s (.int k y)) = some (.s (.bool (decide (x < y)))) := by
  cases k <;> rfl
@[go_sem] theorem bin_leq : binD P .leq t (.s (.int k x)) (.s (.int k y)) = some (.s (.bool (decide (x ≤ y)))) := by
  cases k <;> rfl
@[go_sem] theorem bin_gtr : binD P .gtr t (.s (.int k x)) (.s (.int k y)) = some (.s (.bool (decide (y < x)))) := by
  cases k <;> rfl
@[go_sem] theorem bin_geq : binD P .geq t (.s (.int k x)) (.s (.int k y)) = some (.s (.bool (decide (y ≤ x)))) := by
  cases k <;> rfl
@[go_sem] theorem bin_quo (h : y ≠ 0) : binD P .quo t (.s (.int k x)) (.s (.int k y)) = some (.s (.int k (k.wrap (Int.tdiv x y)))) := by
  have e : binD P .quo t (.s (.int k x)) (.s (.int k y)) = (match val P (Op.intDiv .quo k x y) with | some r => some (ofValue r) | none => none) := by cases k <;> rfl
  rw [e]
  unfold Op.intDiv
  simp [h]
  rfl
@[go_sem] theorem bin_rem (h : y ≠ 0) : binD P .rem t (.s (.int k x)) (.s (.int k y)) = some (.s (.int k (Int.tmod x y))) := by
  have e : binD P .rem t (.s (.int k x)) (.s (.int k y)) = (match val P (Op.intDiv .rem k x y) with | some r => some (ofValue r) | none => none) := by cases k <;> rfl
  rw [e]
  unfold Op.intDiv
  simp [h]
  rfl
@[go_sem] theorem bin_eql (h : P.eqGuardType P.depth t = false) : binD P .eql t (.s (.int k x)) (.s (.int k y)) = some (.s (.bool (decide (x = y)))) := by
  have e : binD P .eql t (.s (.int k x)) (.s (.int k y)) = (if (P.eqGuardType P.depth t || false) = true then none else some (.s (.bool (decide (x = y))))) := by cases k <;> rfl
  rw [e, h]; rfl
@[go_sem] theorem bin_neq (h : P.eqGuardType P.depth t = false) : binD P .neq t (.s (.int k x)) (.s (.int k y)) = some (.s (.bool (!decide (x = y)))) := by
  have e : binD P .neq t (.s (.int k x)) (.s (.int k y)) = (if (P.eqGuardType P.depth t || false) = true then none else some (.s (.bool (!decide (x = y))))) := by cases k <;> rfl
  rw [e, h]; rfl
end
section
variable {P : Program} {α : Type} {f : α → List D}
def bnN (op : BinOp) (r : Option Bool) : Option D := match op with
  | .eql => (match r with | some b => some (.s (.bool b)) | none => none)
  | .neq => (match r with | some b => some (.s (.bool !b)) | none => none)
  | _ => none
@[go_sem] theorem bnN_eql (b : Bool) : bnN .eql (some b) = some (.s (.bool b)) := rfl
@[go_sem] theorem bnN_neq (b : Bool) : bnN .neq (some b) = some (.s (.bool !b)) := rfl
@[go_sem] theorem bin_nilp (t : TypeId) (id i off : Nat) (op : BinOp) : binD P op t (.p id i off) (.s (.pointer none)) = bnN op (eqNil P t (.p id i off) (.s (.pointer none))) := by
  unfold binD bnN; cases op <;> rfl
end
section
variable {P : Program} {c : Cfg} {k nt fn : Nat} {ro : Bool}
@[go_sem] theorem g_region {ops : Array Oper} (id : Nat) (dr : Bool) (st : St) (h : c.lock fn id = []) : exe P c ⟨k, nt, fn, ro⟩ (.region id ops dr) st = kN (opsD P c ⟨k, nt, fn, ro⟩ dr (callI P c) ops ops.toList st) := e_region id dr st h
/-- A load: of what nobody writes, where that was chosen. -/
def ldX (fr ag : Bool) (s : Option Nat) (st : St) (d : D) : Option (D × St) := match fr, d with
  | false, d => k0 st (ldC ag s (memAt st.hp d))
  | true, .q cs => k0 st (ldC ag s (some cs))
  | true, _ => none
@[go_sem] theorem g_load {dr : Bool} {call : Vm.Callee} (d : Tmp) (ty : TypeId) (pos : String) (after : Array Edge) (guard : Option (Nat × Bool)) (st : St) (t : TypeId) (x : Operand) : opD P c ⟨k, nt, fn, ro⟩ dr call st { dst := some d, op := .load t x, type := ty, pos := pos, after := after, guard := guard } = ldX (c.free fn d) (agg P t) (sz P t) st (ev st.tm x) := by
  cases hf : c.free fn d with
  | false =>
    have hc : cls c fn { dst := some d, op := .load t x, type := ty, pos := pos, after := after, guard := guard } = 1 := by unfold cls; simp [hf]
    unfold opD; simp only [hc]
    unfold op1 ldX ldC
    dsimp only
    cases memAt st.hp (ev st.tm x) <;> cases sz P t <;> rfl
  | true =>
    have hc : cls c fn { dst := some d, op := .load t x, type := ty, pos := pos, after := after, guard := guard } = 0 := by unfold cls; simp [hf]
    unfold opD; simp only [hc]
    unfold opQ ldX ldC k0
    dsimp only
    cases ev st.tm x <;> cases sz P t <;> rfl
@[go_sem] theorem ldX_false (ag : Bool) (s : Option Nat) (st : St) (d : D) : ldX false ag s st d = k0 st (ldC ag s (memAt st.hp d)) := rfl
@[go_sem] theorem ldX_q (ag : Bool) (s : Option Nat) (st : St) (cs : List D) : ldX true ag s st (.q cs) = k0 st (ldC ag s (some cs)) := rfl
@[go_sem] theorem g_leave {st : St} {res : List D} (ho : c.own fn = false) (hk : c.keep fn = false) : leave c ⟨k, nt, fn, ro⟩ st res = lF c ⟨k, nt, fn, ro⟩ st res (frzGs false st.hp res) := leave_go ho hk
end
attribute [go_sem] lenK_l lenK_a lenK_nil lenK_sl callD_go callD_w has
end Vm
end Go.Proofs.Ytenldcieoalgoaa

/-
  The machine of values: when two structs of numbers are the same.
-/
namespace Go.Proofs.Ytenldcieoalgoaa
namespace Vm
open Go Go.RowKit

theorem val_bind {α β : Type} (P : Program) : ∀ (s : Sem α) (f : α → Sem β), val P (s.bind f) = (val P s).bind (fun a => val P (f a))
  | .pure _, _ => rfl
  | .program k, f => val_bind P (k P) f
  | .load .., _ => rfl
  | .store .., _ => rfl
  | .new .., _ => rfl
  | .shape .., _ => rfl
  | .freeze .., _ => rfl
  | .frozen .., _ => rfl
  | .getObj .., _ => rfl
  | .setObj .., _ => rfl
  | .choose .., _ => rfl
  | .sys .., _ => rfl
  | .mark .., _ => rfl
  | .halt .., _ => rfl
theorem val_do {α β : Type} (P : Program) (s : Sem α) (f : α → Sem β) : val P (s >>= f) = (val P s).bind (fun a => val P (f a)) := val_bind P s f
theorem val_pure {α : Type} (P : Program) (a : α) : val P (pure a : Sem α) = some a := rfl
theorem val_program (P : Program) : val P program = some P := rfl
theorem val_ite {α : Type} (P : Program) (c : Prop) [Decidable c] (a b : Sem α) : val P (if c then a else b) = if c then val P a else val P b := by split <;> rfl
theorem val_underlying {P : Program} {t : TypeId} {d : TypeDesc} (h : P.underlying t = some d) : val P (underlying t) = some d := by
  simp only [underlying, val_do, val_program, Option.bind_some, h, val_pure]

def eqF (P : Program) (d : Nat) (xs ys : Array Value) : List Field → Option Bool
  | [] => some true
  | f :: fs =>
    if f.name ≠ "_" then
      (val P (part f.type xs f.offset)).bind fun a => (val P (part f.type ys f.offset)).bind fun b => (val P (Op.equalIn d f.type a b)).bind fun r =>
        if (!r) = true then some false else eqF P d xs ys fs
    else eqF P d xs ys fs

theorem val_equal_struct {P : Program} (d : Nat) (t : TypeId) (xs ys : Array Value) {fs : Array Field} (ht : P.underlying t = some (.struct fs)) (hp : P.stoodInHeld t = false) :
    val P (Op.equalIn (d + 1) t (.agg xs) (.agg ys)) = eqF P d xs ys fs.toList := by
  simp only [Op.equalIn, val_do, val_underlying ht, Option.bind_some, val_program, hp, Bool.false_eq_true, if_false]
  rw [← Array.forIn_toList]
  generalize fs.toList = l
  induction l with
  | nil => simp [eqF, val_pure]
  | cons f fs ih =>
    simp only [List.forIn_cons, eqF, val_do, val_ite, val_pure]
    split
    · cases val P (part f.type xs f.offset) with
      | none => rfl
      | some a =>
        simp only [Option.bind_some]
        cases val P (part f.type ys f.offset) with
        | none => rfl
        | some b =>
          simp only [Option.bind_some]
          cases val P (Op.equalIn d f.type a b) with
          | none => rfl
          | some r =>
            simp only [Option.bind_some]
            cases r
            · rfl
            · simp only [Bool.not_true, Bool.false_eq_true, if_false, Option.bind_some]
              exact ih
    · simp only [Option.bind_some]
      exact ih

theorem val_equal_int {P : Program} (d : Nat) (t : TypeId) (k k' : IntKind) (a b : Int) (h : P.underlying t = some (.int k')) : val P (Op.equalIn (d + 1) t (.int k a) (.int k b)) = some (a == b) := by
  simp only [Op.equalIn, val_do, val_underlying h, Option.bind_some, if_true, val_pure]
theorem val_equal_bool {P : Program} (d : Nat) (t : TypeId) (a b : Bool) (h : P.underlying t = some .bool) : val P (Op.equalIn (d + 1) t (.bool a) (.bool b)) = some (a == b) := by
  simp only [Op.equalIn, val_do, val_underlying h, Option.bind_some, val_pure]
theorem val_part {P : Program} {t : TypeId} {xs : Array Value} {off : Nat} {v : Value} (h : (match P.underlying t with | some (.int _) => true | _ => false) = true) (hv : xs[off]? = some v) : val P (part t xs off) = some v := by
  cases hu : P.underlying t with
  | none => rw [hu] at h; cases h
  | some d =>
    rw [hu] at h
    cases d <;> first | (cases h; done) | simp only [part, isAgg, val_do, val_underlying hu, Option.bind_some, val_pure, Bool.false_eq_true, if_false, hv]

/-- Two lists of numbers' cells: are they the same, one by one? -/
def eqC : List D → List D → Option Bool
  | [], [] => some true
  | .s (.int k a) :: r, .s (.int k' b) :: q => if k = k' then (eqC r q).map (fun e => decide (a = b) && e) else none
  | _, _ => none

theorem eqC_inv {c d : D} {cr dr : List D} {r : Bool} (h : eqC (c :: cr) (d :: dr) = some r) : ∃ k a b e, c = .s (.int k a) ∧ d = .s (.int k b) ∧ eqC cr dr = some e ∧ r = (decide (a = b) && e) := by
  cases c <;> try (simp [eqC] at h; done)
  rename_i v
  cases v <;> try (simp [eqC] at h; done)
  rename_i k a
  cases d <;> try (simp [eqC] at h; done)
  rename_i w
  cases w <;> try (simp [eqC] at h; done)
  rename_i k' b
  simp only [eqC] at h
  split at h
  · rename_i hk
    subst hk
    cases hq : eqC cr dr with
    | none => rw [hq] at h; simp at h
    | some e =>
      rw [hq] at h
      simp only [Option.map_some, Option.some.injEq] at h
      exact ⟨_, _, _, _, rfl, rfl, rfl, h.symm⟩
  · cases h
theorem eqC_left {c : D} {cr : List D} {r : Bool} (h : eqC (c :: cr) [] = some r) : False := by
  cases c <;> simp [eqC] at h

def plainF (P : Program) : Nat → List Field → Bool
  | _, [] => true
  | o, f :: r => (f.name != "_") && Nat.beq f.offset o && (match P.underlying f.type with | some (.int _) => true | _ => false) && plainF P (o + 1) r
/-- A struct whose fields are numbers: how many. -/
def plainN (P : Program) (t : TypeId) : Option Nat := match P.underlying t with
  | some (.struct fs) => if plainF P 0 fs.toList && !P.stoodInHeld t && !P.eqGuardType P.depth t then some fs.size else none
  | _ => none

theorem eqF_plain {P : Program} (d : Nat) {xs ys : Array Value} : ∀ (fs : List Field) (o : Nat) (cs ds : List D) (r : Bool), plainF P o fs = true → eqC cs ds = some r → cs.length = fs.length → (∀ i, (cs[i]?).bind toCell = xs[o + i]?) → (∀ i, (ds[i]?).bind toCell = ys[o + i]?) →
    eqF P (d + 1) xs ys fs = some r := by
  intro fs
  induction fs with
  | nil =>
    intro o cs ds r _ he hl _ _
    cases cs with
    | nil => cases ds with
      | nil => simp only [eqC, Option.some.injEq] at he; subst he; rfl
      | cons _ _ => simp [eqC] at he
    | cons _ _ => simp at hl
  | cons f fs ih =>
    intro o cs ds r hp he hl hx hy
    simp only [plainF, Bool.and_eq_true, bne_iff_ne, ne_eq] at hp
    obtain ⟨⟨⟨h1, h2⟩, h3⟩, h4⟩ := hp
    have h2 := Nat.eq_of_beq_eq_true h2
    have step : ∀ (c dd : D) (cr dr : List D) (va vb : Value) (b e : Bool), cs = c :: cr → ds = dd :: dr → toCell c = some va → toCell dd = some vb → val P (Op.equalIn (d + 1) f.type va vb) = some b → eqC cr dr = some e → r = (b && e) → eqF P (d + 1) xs ys (f :: fs) = some r := by
      intro c dd cr dr va vb b e hc hd hva hvb hb hce hr
      subst hc hd
      have hx0 : xs[f.offset]? = some va := by have := hx 0; simp only [Nat.add_zero, List.getElem?_cons_zero, Option.bind_some, hva] at this; rw [h2]; exact this.symm
      have hy0 : ys[f.offset]? = some vb := by have := hy 0; simp only [Nat.add_zero, List.getElem?_cons_zero, Option.bind_some, hvb] at this; rw [h2]; exact this.symm
      have hrec := ih (o + 1) cr dr e h4 hce (by simpa using hl) (fun i => by have := hx (i + 1); simp only [List.getElem?_cons_succ] at this; rw [this]; congr 1; omega) (fun i => by have := hy (i + 1); simp only [List.getElem?_cons_succ] at this; rw [this]; congr 1; omega)
      simp only [eqF, ne_eq, h1, not_false_eq_true, if_true, val_part h3 hx0, val_part h3 hy0, Option.bind_some, hb, hrec]
      cases b <;> simp [hr]
    cases cs with
    | nil => simp at hl
    | cons c cr =>
      cases ds with
      | nil => exact (eqC_left he).elim
      | cons dd dr =>
        obtain ⟨k, a, b, e, rfl, rfl, hq, hr⟩ := eqC_inv he
        refine step _ _ _ _ _ _ (a == b) e rfl rfl rfl rfl ?_ hq (by rw [hr]; rfl)
        cases hu : P.underlying f.type with
        | none => rw [hu] at h3; cases h3
        | some ty => cases ty <;> first | exact val_equal_int _ _ _ _ _ _ hu | (rw [hu] at h3; cases h3)

theorem toCells_get {cs : List D} {vs : List Value} (h : toCells cs = some vs) : ∀ i : Nat, (cs[i]?).bind toCell = vs[i]? := by
  induction cs generalizing vs with
  | nil => simp only [toCells, Option.some.injEq] at h; subst h; simp
  | cons c r ih =>
    cases c with
    | s v =>
      simp only [toCells] at h
      cases hr : toCells r with
      | none => rw [hr] at h; cases h
      | some ws =>
        rw [hr] at h
        simp only [Option.some.injEq] at h
        subst h
        intro i
        cases i with
        | zero => rfl
        | succ i => simpa using ih hr i
    | _ => simp [toCells] at h
theorem eqC_toCells : ∀ {cs ds : List D} {r : Bool}, eqC cs ds = some r → (∃ vs, toCells cs = some vs) ∧ ∃ ws, toCells ds = some ws := by
  intro cs
  induction cs with
  | nil => intro ds r h; cases ds with
    | nil => exact ⟨⟨[], rfl⟩, [], rfl⟩
    | cons _ _ => simp [eqC] at h
  | cons c cr ih =>
    intro ds r h
    cases ds with
    | nil => exact (eqC_left h).elim
    | cons dd dr =>
      obtain ⟨k, a, b, e, rfl, rfl, hq, hr⟩ := eqC_inv h
      obtain ⟨⟨vs, hv⟩, ws, hw⟩ := ih hq
      exact ⟨⟨_ :: vs, by simp only [toCells, hv]; rfl⟩, _ :: ws, by simp only [toCells, hw]; rfl⟩
theorem bin_struct {P : Program} {t : TypeId} {n : Nat} (hn : plainN P t = some n) {cs ds : List D} {r : Bool} (he : eqC cs ds = some r) (hl : cs.length = n) :
    binD P .eql t (.g cs) (.g ds) = some (.s (.bool r)) ∧ binD P .neq t (.g cs) (.g ds) = some (.s (.bool !r)) := by
  obtain ⟨⟨vs, hv⟩, ws, hw⟩ := eqC_toCells he
  cases hu : P.underlying t with
  | none => simp [plainN, hu] at hn
  | some ty =>
    cases ty <;> try (simp [plainN, hu] at hn; done)
    rename_i fs
    simp only [plainN, hu] at hn
    split at hn
    · rename_i h
      simp only [Bool.and_eq_true, Bool.not_eq_true'] at h
      obtain ⟨⟨h1, h2⟩, h3⟩ := h
      simp only [Option.some.injEq] at hn
      have key : val P (Op.equal t (.agg vs.toArray) (.agg ws.toArray)) = some r := by
        unfold Op.equal
        rw [show Op.maxDepth = 9998 + 1 + 1 from rfl, val_equal_struct _ _ _ _ hu h2]
        refine eqF_plain 9998 fs.toList 0 cs ds r h1 he (by simpa using hl.trans hn.symm) ?_ ?_
        · intro i; rw [toCells_get hv i]; simp
        · intro i; rw [toCells_get hw i]; simp
      have tv : toVal (.g cs) = some (.agg vs.toArray) := by simp only [toVal, hv]
      have tw : toVal (.g ds) = some (.agg ws.toArray) := by simp only [toVal, hw]
      constructor
      · unfold binD
        simp only [tv, tw, isEq, h3, isNilI, Bool.or_self, Bool.and_false, Bool.false_eq_true, if_false]
        have : val P (binOp .eql t (.agg vs.toArray) (.agg ws.toArray)) = some (.bool r) := by
          have e : binOp .eql t (.agg vs.toArray) (.agg ws.toArray) = (do pure (.bool (← Op.equal t (.agg vs.toArray) (.agg ws.toArray))) : Sem Value) := rfl
          rw [e, val_do, key]; rfl
        rw [this]; rfl
      · unfold binD
        simp only [tv, tw, isEq, h3, isNilI, Bool.or_self, Bool.and_false, Bool.false_eq_true, if_false]
        have : val P (binOp .neq t (.agg vs.toArray) (.agg ws.toArray)) = some (.bool !r) := by
          have e : binOp .neq t (.agg vs.toArray) (.agg ws.toArray) = (do pure (.bool (!(← Op.equal t (.agg vs.toArray) (.agg ws.toArray)))) : Sem Value) := rfl
          rw [e, val_do, key]; rfl
        rw [this]; rfl
    · cases hn
def fbB (P : Program) (op : BinOp) (t : TypeId) (x y : D) : Option D := binD P op t x y
def eqG (P : Program) (op : BinOp) (t : TypeId) (cs ds : List D) (n : Option Nat) (r : Option Bool) : Option D := match n, r with
  | some n, some r => if cs.length = n then some (.s (.bool (match op with | .eql => r | _ => !r))) else fbB P op t (.g cs) (.g ds)
  | _, _ => fbB P op t (.g cs) (.g ds)
@[go_sem] theorem bin_geql (P : Program) (t : TypeId) (cs ds : List D) : binD P .eql t (.g cs) (.g ds) = eqG P .eql t cs ds (plainN P t) (eqC cs ds) := by
  unfold eqG
  split
  · rename_i n r h1 h2
    split
    · rename_i h; exact (bin_struct h1 h2 h).1
    · rfl
  · rfl
@[go_sem] theorem bin_gneq (P : Program) (t : TypeId) (cs ds : List D) : binD P .neq t (.g cs) (.g ds) = eqG P .neq t cs ds (plainN P t) (eqC cs ds) := by
  unfold eqG
  split
  · rename_i n r h1 h2
    split
    · rename_i h; exact (bin_struct h1 h2 h).2
    · rfl
  · rfl
@[go_sem] theorem eqG_eql (P : Program) (t : TypeId) (cs ds : List D) (n : Nat) (r : Bool) : eqG P .eql t cs ds (some n) (some r) = if cs.length = n then some (.s (.bool r)) else fbB P .eql t (.g cs) (.g ds) := rfl
@[go_sem] theorem eqG_neq (P : Program) (t : TypeId) (cs ds : List D) (n : Nat) (r : Bool) : eqG P .neq t cs ds (some n) (some r) = if cs.length = n then some (.s (.bool !r)) else fbB P .neq t (.g cs) (.g ds) := rfl
@[go_sem] theorem eqC_nil : eqC [] [] = some true := rfl
@[go_sem] theorem eqC_cons (k : IntKind) (a b : Int) (r q : List D) : eqC (.s (.int k a) :: r) (.s (.int k b) :: q) = (eqC r q).map (fun e => decide (a = b) && e) := by
  simp only [eqC, if_true]
end Vm
end Go.Proofs.Ytenldcieoalgoaa

/-
  The machine of values, step by step: slices that are made and cut; arrays; the least and the greatest.
-/
namespace Go.Proofs.Ytenldcieoalgoaa
namespace Vm
open Go Go.RowKit
def Sl.isNil {α : Type} : Sl α → Bool
  | .nil => true
  | .l .. => false
def Sl.cut {α : Type} (l h : Nat) : Sl α → Sl α
  | .nil => .nil
  | .l c xs => .l (c.map (· - l)) ((xs.take h).drop l)
def Sl.cut3 {α : Type} (h : Nat) : Sl α → Sl α
  | .nil => .nil
  | .l _ xs => .l (some h) (xs.take h)
theorem Sl.cut_xs {α : Type} (l h : Nat) (x : Sl α) : (x.cut l h).xs = (x.xs.take h).drop l := by cases x <;> simp [Sl.cut, Sl.xs]
theorem Sl.cut3_xs {α : Type} (h : Nat) (x : Sl α) : (x.cut3 h).xs = x.xs.take h := by cases x <;> simp [Sl.cut3, Sl.xs]

section
variable {P : Program} {c : Cfg} {fr : Fr} {dr : Bool} {call : Vm.Callee} (dst : Option Tmp) (ty : TypeId) (pos : String) (after : Array Edge) (guard : Option (Nat × Bool)) (st : St) {α : Type} {f : α → List D}
/-! Made -/
def msT (P : Program) (t : TypeId) : Option (Nat × Nat × List D) := match elt P t with
  | some el => (match sz P el, byt P el, zer P el with
    | some k, some b, some z => if z.length = k ∧ 0 < k then some (k, b, z) else none
    | _, _, _ => none)
  | none => none
def msK (P : Program) (c : Cfg) (fr : Fr) (dr : Bool) (call : Vm.Callee) (st : St) (o : Oper) (r : Option (Nat × Nat × List D)) (x y : Option Nat) : Option (D × St) := match r, x, y with
  | some (k, b, z), some n, some m => if n = m ∧ n * b ≤ 140737488355328 ∧ n ≤ 140737488355328 then some (.a st.nx 0 n k, { tm := st.tm, hp := (st.nx, ⟨List.replicate n z, true, 0, true, some n⟩) :: st.hp, nx := st.nx + 1 }) else none
  | _, _, _ => op1 P c fr dr call st o
@[go_sem] theorem d_makeSlice (t : TypeId) (x y : Operand) : opD P c fr dr call st { dst := dst, op := .makeSlice t x y, type := ty, pos := pos, after := after, guard := guard } =
    msK P c fr dr call st { dst := dst, op := .makeSlice t x y, type := ty, pos := pos, after := after, guard := guard } (msT P t) (asNat (ev st.tm x)) (asNat (ev st.tm y)) := by
  have e : opD P c fr dr call st { dst := dst, op := .makeSlice t x y, type := ty, pos := pos, after := after, guard := guard } = op1 P c fr dr call st { dst := dst, op := .makeSlice t x y, type := ty, pos := pos, after := after, guard := guard } := rfl
  rw [e]
  unfold msK
  split
  · rename_i k b z n m h1 h2 h3
    unfold msT at h1
    unfold op1
    cases g1 : elt P t with
    | none => rw [g1] at h1; cases h1
    | some el =>
      simp only [g1] at h1 ⊢
      cases g2 : sz P el <;> cases g3 : byt P el <;> cases g4 : zer P el <;> simp only [g2, g3, g4] at h1 ⊢ <;> try (cases h1; done)
      split at h1
      · rename_i hc
        cases h1
        simp only [h2, h3, hc.1, hc.2, true_and, and_true, g2, g3, g4, g1]
      · cases h1
  · rfl
@[go_sem] theorem msK_some (o : Oper) (k b : Nat) (z : List D) (n m : Nat) : msK P c fr dr call st o (some (k, b, z)) (some n) (some m) = if n = m ∧ n * b ≤ 140737488355328 ∧ n ≤ 140737488355328 then some (.a st.nx 0 n k, { tm := st.tm, hp := (st.nx, ⟨List.replicate n z, true, 0, true, some n⟩) :: st.hp, nx := st.nx + 1 }) else none := rfl
@[go_sem] theorem asNat_nat (k : IntKind) (n : Nat) : asNat (.s (.int k (n : Int))) = some n := by simp [asNat]
@[go_sem] theorem asNat_zero (k : IntKind) : asNat (.s (.int k 0)) = some 0 := rfl

/-! Cut -/
def cutT (P : Program) (t : TypeId) : Option Nat := match elt P t with
  | some el => sz P el
  | none => none
theorem elOk_map {n l : Nat} (h : ∀ a : α, (f a).length = n) (xs : List α) : elOk n (xs.map f) l = true := by
  unfold elOk
  rw [List.getElem?_map]
  cases xs[l]? with
  | none => rfl
  | some a => simp [h a]
theorem str_no (x : Sl α) (b : ByteArray) (h : x.d f = .s (.string b)) : False := by cases x <;> simp [Sl.d, nilS] at h
theorem cut_sl {t : TypeId} {n : Nat} (ht : cutT P t = some n) (hf : ∀ a : α, (f a).length = n) (hp : List (Nat × Blk)) (x : Sl α) (lo hi mx : Option D) :
    cut P t dr hp (x.d f) lo hi mx = (match x with
      | .nil => (match bnd 0 (some 0) lo hi mx with | some _ => some (nilS, hp) | none => none)
      | .l cap xs => (match bnd xs.length cap lo hi mx with | some (l, h, c) => some ((Sl.l c ((xs.take h).drop l)).d f, hp) | none => none)) := by
  unfold cutT at ht
  cases he : elt P t with
  | none => rw [he] at ht; cases ht
  | some el =>
    simp only [he] at ht
    cases x with
    | nil =>
      show cut P t dr hp (.s (.slice none 0 0)) lo hi mx = _
      simp only [cut, he, ht]
      cases bnd 0 (some 0) lo hi mx <;> rfl
    | l cap xs =>
      show cut P t dr hp (.l cap (xs.map f)) lo hi mx = _
      simp only [cut, he, ht, List.length_map]
      cases bnd xs.length cap lo hi mx with
      | none => rfl
      | some q =>
        obtain ⟨l, h, c⟩ := q
        simp only [elOk_map hf xs, if_true, Sl.d, List.map_drop, List.map_take]
theorem cut_lo {t : TypeId} {n : Nat} (ht : cutT P t = some n) (hf : ∀ a : α, (f a).length = n) (hp : List (Nat × Blk)) (x : Sl α) (k : IntKind) (l : Nat) (hl : l ≤ x.xs.length) :
    cut P t dr hp (x.d f) (some (.s (.int k (l : Int)))) none none = some ((x.cut l x.xs.length).d f, hp) := by
  rw [cut_sl ht hf]
  cases x with
  | nil => simp only [Sl.xs, List.length_nil, Nat.le_zero_eq] at hl; subst hl; rfl
  | l cap xs =>
    simp only [Sl.xs] at hl
    cases cap <;> simp [bnd, asNat, hl, Sl.cut, Sl.xs]
theorem cut_hi {t : TypeId} {n : Nat} (ht : cutT P t = some n) (hf : ∀ a : α, (f a).length = n) (hp : List (Nat × Blk)) (x : Sl α) (k : IntKind) (h : Nat) (hl : h ≤ x.xs.length) :
    cut P t dr hp (x.d f) none (some (.s (.int k (h : Int)))) none = some ((x.cut 0 h).d f, hp) := by
  rw [cut_sl ht hf]
  cases x with
  | nil => simp only [Sl.xs, List.length_nil, Nat.le_zero_eq] at hl; subst hl; rfl
  | l cap xs =>
    simp only [Sl.xs] at hl
    cases cap <;> simp [bnd, asNat, hl, Sl.cut]
theorem cut_hh {t : TypeId} {n : Nat} (ht : cutT P t = some n) (hf : ∀ a : α, (f a).length = n) (hp : List (Nat × Blk)) (x : Sl α) (k k2 : IntKind) (h : Nat) (hl : h ≤ x.xs.length) :
    cut P t dr hp (x.d f) none (some (.s (.int k (h : Int)))) (some (.s (.int k2 (h : Int)))) = some ((x.cut3 h).d f, hp) := by
  rw [cut_sl ht hf]
  cases x with
  | nil => simp only [Sl.xs, List.length_nil, Nat.le_zero_eq] at hl; subst hl; rfl
  | l cap xs =>
    simp only [Sl.xs] at hl
    simp [bnd, asNat, hl, Sl.cut3]

/-! Appends to what has no room -/
theorem app_full {n bytes : Nat} {x : Sl α} {new : List (List D)} {y : D} (hs : ∀ a : α, (f a).length = n) (hc : ∀ c xs, x = .l c xs → c = some xs.length) (hy : peek st.hp y = some new) (hz : sizesOk n new = true)
    (hb : (x.xs.length + new.length) * bytes ≤ 140737488355328) (hb' : x.xs.length + new.length ≤ 140737488355328) (hne : new.isEmpty = false) :
    appendD fr n bytes st (x.d f) y = some (.a st.nx 0 (x.xs.length + new.length) n, { tm := st.tm, hp := (st.nx, ⟨x.xs.map f ++ new, true, 0, true, none⟩) :: st.hp, nx := st.nx + 1 }) := by
  unfold appendD
  rw [hy]
  cases x with
  | nil =>
    have e : appendD.lenOr (D.s (Value.slice none 0 0)) = 0 := rfl
    simp only [Sl.xs, List.length_nil] at hb hb'
    simp only [hz, e, Sl.d, nilS, hb, hb', decide_true, Bool.and_self, if_true, hne, Bool.false_eq_true, if_false, appendD.mk, Sl.xs, List.length_nil, List.map_nil]
  | l cp xs =>
    have hcp := hc _ _ rfl
    subst hcp
    have e : appendD.lenOr (D.l (some xs.length) (xs.map f)) = xs.length := by simp [appendD.lenOr, lenD]
    simp only [Sl.xs] at hb hb'
    have hl : xs.length < xs.length + new.length := by cases new with | nil => simp at hne | cons _ _ => simp
    simp only [hz, e, Sl.d, hb, hb', decide_true, Bool.and_self, if_true, hne, Bool.false_eq_true, if_false, hl, sizes_map n hs, appendD.mk, Sl.xs, List.length_map, Bool.and_true]
theorem app_none {n bytes : Nat} {y : D} {new : List (List D)} (hy : peek st.hp y = some new) (hz : sizesOk n new = true) (hb : new.length * bytes ≤ 140737488355328) (hb' : new.length ≤ 140737488355328) :
    appendD fr n bytes st (.l (some 0) []) y = if new.isEmpty = true then some (.l (some 0) [], st) else some (.a st.nx 0 new.length n, { tm := st.tm, hp := (st.nx, ⟨new, true, 0, true, none⟩) :: st.hp, nx := st.nx + 1 }) := by
  unfold appendD
  rw [hy]
  have e : appendD.lenOr (D.l (some 0) []) = 0 := rfl
  simp only [hz, e, Nat.zero_add, hb, hb', decide_true, Bool.and_self, if_true, sizesOk, Bool.and_true, appendD.mk, List.length_nil, List.nil_append, decide_eq_true_eq]
  split
  · rfl
  · rename_i hne
    have : 0 < new.length := by cases new with | nil => simp at hne | cons _ _ => simp
    simp only [this, if_true]

theorem app_clone {n bytes : Nat} (x : Sl α) (hs : ∀ a : α, (f a).length = n) (hb : x.xs.length * bytes ≤ 140737488355328) (hb' : x.xs.length ≤ 140737488355328) (fr : Fr) (st : St) :
    appendD fr n bytes st (.l (some 0) []) (x.d f) = if x.xs.isEmpty = true then some (.l (some 0) [], st) else some (.a st.nx 0 x.xs.length n, { tm := st.tm, hp := (st.nx, ⟨x.xs.map f, true, 0, true, none⟩) :: st.hp, nx := st.nx + 1 }) := by
  rw [app_none _ (new := x.xs.map f) (by cases x <;> rfl) (sizes_map n hs _) (by simpa using hb) (by simpa using hb')]
  simp only [List.isEmpty_map, List.length_map]
def fzB (dr : Bool) (hp : List (Nat × Blk)) (id lo n : Nat) (b : Blk) : Option (D × List (Nat × Blk)) := if b.pu = true ∧ b.arr = true ∧ lo + n ≤ b.es.length then
        (match b.md with
        | 0 => if dr then none else some (.l none ((b.es.drop lo).take n), (id, { b with md := 1 }) :: hp)
        | 1 => some (.l none ((b.es.drop lo).take n), hp)
        | _ => none)
      else none
@[go_sem] theorem frz_a (dr : Bool) (hp : List (Nat × Blk)) (id lo n z : Nat) : frz dr hp (.a id lo n z) = fzB dr hp id lo n (rdH hp id) := rfl
@[go_sem] theorem fzB_0 (hp : List (Nat × Blk)) (id lo n : Nat) (es : List (List D)) (cp : Option Nat) : fzB false hp id lo n ⟨es, true, 0, true, cp⟩ = if lo + n ≤ es.length then some (.l none ((es.drop lo).take n), (id, ⟨es, true, 1, true, cp⟩) :: hp) else none := by
  simp [fzB]
@[go_sem] theorem fzB_1 (hp : List (Nat × Blk)) (dr : Bool) (id lo n : Nat) (es : List (List D)) (cp : Option Nat) : fzB dr hp id lo n ⟨es, true, 1, true, cp⟩ = if lo + n ≤ es.length then some (.l none ((es.drop lo).take n), hp) else none := by
  simp [fzB]
/-! Arrays that are values -/
def idD (P : Program) (t : TypeId) (dx di : D) : Option D := match di with
  | .s (.int _ n) => (match dx with
    | .g cs => (match arr P t with
      | some (len, el) => (match sz P el with
        | some m => if 0 ≤ n ∧ n < len then loadD (agg P el) m (cs.drop (n.toNat * m)) else none
        | none => none)
      | none => none)
    | .s (.string b) => (match P.underlying t with
      | some .string => if 0 ≤ n then (match b[n.toNat]? with
          | some u => some (.s (.int .u8 u.toNat))
          | none => none) else none
      | _ => none)
    | _ => none)
  | _ => none
@[go_sem] theorem d_index (t : TypeId) (x i : Operand) : opD P c fr dr call st { dst := dst, op := .index t x i, type := ty, pos := pos, after := after, guard := guard } = k0 st (idD P t (ev st.tm x) (ev st.tm i)) := by
  have e : opD P c fr dr call st { dst := dst, op := .index t x i, type := ty, pos := pos, after := after, guard := guard } = k0 st (op0 P st.tm { dst := dst, op := .index t x i, type := ty, pos := pos, after := after, guard := guard }) := rfl
  rw [e]
  congr 1
def idA (P : Program) (cs : List D) (n : Int) (a : Option (Nat × TypeId)) : Option D := match a with
  | some (len, el) => (match sz P el with
    | some m => if 0 ≤ n ∧ n < len then loadD (agg P el) m (cs.drop (n.toNat * m)) else none
    | none => none)
  | none => none
@[go_sem] theorem idD_g (t : TypeId) (cs : List D) (k : IntKind) (n : Int) : idD P t (.g cs) (.s (.int k n)) = idA P cs n (arr P t) := rfl
def idM (P : Program) (cs : List D) (n : Int) (len el : Nat) (m : Option Nat) : Option D := match m with
  | some m => if 0 ≤ n ∧ n < len then loadD (agg P el) m (cs.drop (n.toNat * m)) else none
  | none => none
@[go_sem] theorem idA_some (cs : List D) (n : Int) (len el : Nat) : idA P cs n (some (len, el)) = idM P cs n len el (sz P el) := rfl
@[go_sem] theorem idM_some (cs : List D) (n : Int) (len el m : Nat) : idM P cs n len el (some m) = if 0 ≤ n ∧ n < len then loadD (agg P el) m (cs.drop (n.toNat * m)) else none := rfl
end
section
variable {P : Program} {c : Cfg} {fr : Fr}
@[go_sem] theorem kL_normal (a : Code) (st : St) : kL P c fr a (some (.normal, st)) = exe P c fr (.loop a) st := rfl
@[go_sem] theorem kL_ret (a : Code) (st : St) : kL P c fr a (some (.ret, st)) = some (.ret, st) := rfl
@[go_sem] theorem kL_exit (a : Code) (i : Nat) (st : St) : kL P c fr a (some (.exit i, st)) = some (.exit i, st) := rfl
@[go_sem] theorem kL_goto (a : Code) (i : Nat) (st : St) : kL P c fr a (some (.goto i, st)) = some (.goto i, st) := rfl
@[go_sem] theorem kH_some (a : Code) (st : St) : kH P c fr a (some st) = kL P c fr a (exe P c fr a st) := rfl
end
theorem ixL_l (m : Nat) (cap : Option Nat) (es : List (List D)) (n : Int) : ixL (some m) (.l cap es) n = if 0 ≤ n then qOf m es[n.toNat]? else none := rfl
/-! Names of blocks, one behind another -/
@[go_sem] theorem nx_0_1 (n : Nat) : (n = n + 1) ↔ False := ⟨fun h => by omega, False.elim⟩
@[go_sem] theorem nx_0_2 (n : Nat) : (n = n + 1 + 1) ↔ False := ⟨fun h => by omega, False.elim⟩
@[go_sem] theorem nx_0_3 (n : Nat) : (n = n + 1 + 1 + 1) ↔ False := ⟨fun h => by omega, False.elim⟩
@[go_sem] theorem nx_0_4 (n : Nat) : (n = n + 1 + 1 + 1 + 1) ↔ False := ⟨fun h => by omega, False.elim⟩
@[go_sem] theorem nx_0_5 (n : Nat) : (n = n + 1 + 1 + 1 + 1 + 1) ↔ False := ⟨fun h => by omega, False.elim⟩
@[go_sem] theorem nx_0_6 (n : Nat) : (n = n + 1 + 1 + 1 + 1 + 1 + 1) ↔ False := ⟨fun h => by omega, False.elim⟩
@[go_sem] theorem nx_1_0 (n : Nat) : (n + 1 = n) ↔ False := ⟨fun h => by omega, False.elim⟩
@[go_sem] theorem nx_1_2 (n : Nat) : (n + 1 = n + 1 + 1) ↔ False := ⟨fun h => by omega, False.elim⟩
@[go_sem] theorem nx_1_3 (n : Nat) : (n + 1 = n + 1 + 1 + 1) ↔ False := ⟨fun h => by omega, False.elim⟩
@[go_sem] theorem nx_1_4 (n : Nat) : (n + 1 = n + 1 + 1 + 1 + 1) ↔ False := ⟨fun h => by omega, False.elim⟩
@[go_sem] theorem nx_1_5 (n : Nat) : (n + 1 = n + 1 + 1 + 1 + 1 + 1) ↔ False := ⟨fun h => by omega, False.elim⟩
@[go_sem] theorem nx_1_6 (n : Nat) : (n + 1 = n + 1 + 1 + 1 + 1 + 1 + 1) ↔ False := ⟨fun h => by omega, False.elim⟩
@[go_sem] theorem nx_2_0 (n : Nat) : (n + 1 + 1 = n) ↔ False := ⟨fun h => by omega, False.elim⟩
@[go_sem] theorem nx_2_1 (n : Nat) : (n + 1 + 1 = n + 1) ↔ False := ⟨fun h => by omega, False.elim⟩
@[go_sem] theorem nx_2_3 (n : Nat) : (n + 1 + 1 = n + 1 + 1 + 1) ↔ False := ⟨fun h => by omega, False.elim⟩
@[go_sem] theorem nx_2_4 (n : Nat) : (n + 1 + 1 = n + 1 + 1 + 1 + 1) ↔ False := ⟨fun h => by omega, False.elim⟩
@[go_sem] theorem nx_2_5 (n : Nat) : (n + 1 + 1 = n + 1 + 1 + 1 + 1 + 1) ↔ False := ⟨fun h => by omega, False.elim⟩
@[go_sem] theorem nx_2_6 (n : Nat) : (n + 1 + 1 = n + 1 + 1 + 1 + 1 + 1 + 1) ↔ False := ⟨fun h => by omega, False.elim⟩
@[go_sem] theorem nx_3_0 (n : Nat) : (n + 1 + 1 + 1 = n) ↔ False := ⟨fun h => by omega, False.elim⟩
@[go_sem] theorem nx_3_1 (n : Nat) : (n + 1 + 1 + 1 = n + 1) ↔ False := ⟨fun h => by omega, False.elim⟩
@[go_sem] theorem nx_3_2 (n : Nat) : (n + 1 + 1 + 1 = n + 1 + 1) ↔ False := ⟨fun h => by omega, False.elim⟩
@[go_sem] theorem nx_3_4 (n : Nat) : (n + 1 + 1 + 1 = n + 1 + 1 + 1 + 1) ↔ False := ⟨fun h => by omega, False.elim⟩
@[go_sem] theorem nx_3_5 (n : Nat) : (n + 1 + 1 + 1 = n + 1 + 1 + 1 + 1 + 1) ↔ False := ⟨fun h => by omega, False.elim⟩
@[go_sem] theorem nx_3_6 (n : Nat) : (n + 1 + 1 + 1 = n + 1 + 1 + 1 + 1 + 1 + 1) ↔ False := ⟨fun h => by omega, False.elim⟩
@[go_sem] theorem nx_4_0 (n : Nat) : (n + 1 + 1 + 1 + 1 = n) ↔ False := ⟨fun h => by omega, False.elim⟩
@[go_sem] theorem nx_4_1 (n : Nat) : (n + 1 + 1 + 1 + 1 = n + 1) ↔ False := ⟨fun h => by omega, False.elim⟩
@[go_sem] theorem nx_4_2 (n : Nat) : (n + 1 + 1 + 1 + 1 = n + 1 + 1) ↔ False := ⟨fun h => by omega, False.elim⟩
@[go_sem] theorem nx_4_3 (n : Nat) : (n + 1 + 1 + 1 + 1 = n + 1 + 1 + 1) ↔ False := ⟨fun h => by omega, False.elim⟩
@[go_sem] theorem nx_4_5 (n : Nat) : (n + 1 + 1 + 1 + 1 = n + 1 + 1 + 1 + 1 + 1) ↔ False := ⟨fun h => by omega, False.elim⟩
@[go_sem] theorem nx_4_6 (n : Nat) : (n + 1 + 1 + 1 + 1 = n + 1 + 1 + 1 + 1 + 1 + 1) ↔ False := ⟨fun h => by omega, False.elim⟩
@[go_sem] theorem nx_5_0 (n : Nat) : (n + 1 + 1 + 1 + 1 + 1 = n) ↔ False := ⟨fun h => by omega, False.elim⟩
@[go_sem] theorem nx_5_1 (n : Nat) : (n + 1 + 1 + 1 + 1 + 1 = n + 1) ↔ False := ⟨fun h => by omega, False.elim⟩
@[go_sem] theorem nx_5_2 (n : Nat) : (n + 1 + 1 + 1 + 1 + 1 = n + 1 + 1) ↔ False := ⟨fun h => by omega, False.elim⟩
@[go_sem] theorem nx_5_3 (n : Nat) : (n + 1 + 1 + 1 + 1 + 1 = n + 1 + 1 + 1) ↔ False := ⟨fun h => by omega, False.elim⟩
@[go_sem] theorem nx_5_4 (n : Nat) : (n + 1 + 1 + 1 + 1 + 1 = n + 1 + 1 + 1 + 1) ↔ False := ⟨fun h => by omega, False.elim⟩
@[go_sem] theorem nx_5_6 (n : Nat) : (n + 1 + 1 + 1 + 1 + 1 = n + 1 + 1 + 1 + 1 + 1 + 1) ↔ False := ⟨fun h => by omega, False.elim⟩
@[go_sem] theorem nx_6_0 (n : Nat) : (n + 1 + 1 + 1 + 1 + 1 + 1 = n) ↔ False := ⟨fun h => by omega, False.elim⟩
@[go_sem] theorem nx_6_1 (n : Nat) : (n + 1 + 1 + 1 + 1 + 1 + 1 = n + 1) ↔ False := ⟨fun h => by omega, False.elim⟩
@[go_sem] theorem nx_6_2 (n : Nat) : (n + 1 + 1 + 1 + 1 + 1 + 1 = n + 1 + 1) ↔ False := ⟨fun h => by omega, False.elim⟩
@[go_sem] theorem nx_6_3 (n : Nat) : (n + 1 + 1 + 1 + 1 + 1 + 1 = n + 1 + 1 + 1) ↔ False := ⟨fun h => by omega, False.elim⟩
@[go_sem] theorem nx_6_4 (n : Nat) : (n + 1 + 1 + 1 + 1 + 1 + 1 = n + 1 + 1 + 1 + 1) ↔ False := ⟨fun h => by omega, False.elim⟩
@[go_sem] theorem nx_6_5 (n : Nat) : (n + 1 + 1 + 1 + 1 + 1 + 1 = n + 1 + 1 + 1 + 1 + 1) ↔ False := ⟨fun h => by omega, False.elim⟩
theorem nxc {n c : Nat} (h : c < n) : (n = c) = False ∧ (c = n) = False ∧ (c < n) = True ∧ (c ≤ n) = True ∧ (n + 1 = c) = False ∧ (c = n + 1) = False ∧ (c < n + 1) = True ∧ (c ≤ n + 1) = True ∧ (n + 1 + 1 = c) = False ∧ (c = n + 1 + 1) = False ∧ (c < n + 1 + 1) = True ∧ (c ≤ n + 1 + 1) = True ∧ (n + 1 + 1 + 1 = c) = False ∧ (c = n + 1 + 1 + 1) = False ∧ (c < n + 1 + 1 + 1) = True ∧ (c ≤ n + 1 + 1 + 1) = True ∧ (n + 1 + 1 + 1 + 1 = c) = False ∧ (c = n + 1 + 1 + 1 + 1) = False ∧ (c < n + 1 + 1 + 1 + 1) = True ∧ (c ≤ n + 1 + 1 + 1 + 1) = True ∧ (n + 1 + 1 + 1 + 1 + 1 = c) = False ∧ (c = n + 1 + 1 + 1 + 1 + 1) = False ∧ (c < n + 1 + 1 + 1 + 1 + 1) = True ∧ (c ≤ n + 1 + 1 + 1 + 1 + 1) = True ∧ (n + 1 + 1 + 1 + 1 + 1 + 1 = c) = False ∧ (c = n + 1 + 1 + 1 + 1 + 1 + 1) = False ∧ (c < n + 1 + 1 + 1 + 1 + 1 + 1) = True ∧ (c ≤ n + 1 + 1 + 1 + 1 + 1 + 1) = True :=
  ⟨eq_false (by omega), eq_false (by omega), eq_true (by omega), eq_true (by omega), eq_false (by omega), eq_false (by omega), eq_true (by omega), eq_true (by omega), eq_false (by omega), eq_false (by omega), eq_true (by omega), eq_true (by omega), eq_false (by omega), eq_false (by omega), eq_true (by omega), eq_true (by omega), eq_false (by omega), eq_false (by omega), eq_true (by omega), eq_true (by omega), eq_false (by omega), eq_false (by omega), eq_true (by omega), eq_true (by omega), eq_false (by omega), eq_false (by omega), eq_true (by omega), eq_true (by omega)⟩
theorem toNat_0 : Int.toNat 0 = 0 := rfl
attribute [go_sem] Nat.le_add_right ixL_l Int.toNat_natCast Int.natCast_nonneg List.length_map List.isEmpty_map Int.cast_ofNat_Int toNat_0 Int.toNat_one Option.isSome_none Option.map_some List.isEmpty_nil List.isEmpty_cons
end Vm
end Go.Proofs.Ytenldcieoalgoaa

/-
  The machine of values, step by step: signs, the greater of two, halves.
-/
namespace Go.Proofs.Ytenldcieoalgoaa
namespace Vm
open Go Go.RowKit
section
variable {P : Program} {c : Cfg} {fr : Fr} {dr : Bool} {call : Vm.Callee} (dst : Option Tmp) (ty : TypeId) (pos : String) (after : Array Edge) (guard : Option (Nat × Bool)) (st : St)
@[go_sem] theorem unD_neg (k : IntKind) (x : Int) : unD P .neg (.s (.int k x)) = some (.s (.int k (k.wrap (-x)))) := by
  have h : unD P .neg (.s (.int k x)) = some (.s (.int k (k.wrap (0 - x)))) := by cases k <;> rfl
  rw [h, Int.zero_sub]
@[go_sem] theorem bin_half (t : TypeId) (x : Int) : binD P .shr t (.s (.int .u64 x)) (.s (.int .u64 1)) = some (.s (.int .u64 (x / 2))) := by
  have h : binD P .shr t (.s (.int .u64 x)) (.s (.int .u64 1)) = some (.s (.int .u64 (x.fdiv 2))) := rfl
  rw [h, Int.fdiv_eq_ediv_of_nonneg _ (by decide)]
def mxD (mx : Bool) (a b : D) : Option D := match a, b with
  | .s (.int k x), .s (.int _ y) => some (.s (.int k (if mx = true then (if x < y then y else x) else (if y < x then y else x))))
  | _, _ => none
theorem mxD_eq (mx : Bool) (a b : D) : op0.minmax mx [a, b] = mxD mx a b := by
  cases a with
  | s v =>
    cases v with
    | int k x =>
      cases b with
      | s w => cases w <;> rfl
      | _ => rfl
    | _ => rfl
  | _ => rfl
@[go_sem] theorem d_max (x y : Operand) (t u : TypeId) : opD P c fr dr call st { dst := dst, op := .call { callee := .builtin .max, args := #[x, y], argTypes := #[t, u] }, type := ty, pos := pos, after := after, guard := guard } = k0 st (mxD true (ev st.tm x) (ev st.tm y)) := by
  rw [← mxD_eq]; rfl
@[go_sem] theorem d_min (x y : Operand) (t u : TypeId) : opD P c fr dr call st { dst := dst, op := .call { callee := .builtin .min, args := #[x, y], argTypes := #[t, u] }, type := ty, pos := pos, after := after, guard := guard } = k0 st (mxD false (ev st.tm x) (ev st.tm y)) := by
  rw [← mxD_eq]; rfl
@[go_sem] theorem mxD_max (k k2 : IntKind) (x y : Int) : mxD true (.s (.int k x)) (.s (.int k2 y)) = some (.s (.int k (if x < y then y else x))) := rfl
@[go_sem] theorem mxD_min (k k2 : IntKind) (x y : Int) : mxD false (.s (.int k x)) (.s (.int k2 y)) = some (.s (.int k (if y < x then y else x))) := rfl

end
end Vm
end Go.Proofs.Ytenldcieoalgoaa

/-
  The machine of values, step by step: slices that are handed over as they are, and handed out as they are.
-/
namespace Go.Proofs.Ytenldcieoalgoaa
namespace Vm
open Go Go.RowKit
section
variable {P : Program} {c : Cfg} {fr : Fr} {dr : Bool} {g : Nat} {args : List D} {st : St}
def rnA (lo n z : Nat) : Option Nat → D
  | some x => .a x lo n z
  | none => .u
@[go_sem] theorem rnA_some (lo n z x : Nat) : rnA lo n z (some x) = .a x lo n z := rfl
@[go_sem] theorem ren_a (ρ : List (Nat × Nat)) (id lo n z : Nat) : ren ρ (.a id lo n z) = rnA lo n z (nm ρ id) := by
  simp only [ren, renG, renA]
  unfold rnA
  cases nm ρ id <;> rfl
/-- What a call comes to that is handed one block as it is. -/
noncomputable def cY (P : Program) (c : Cfg) (fr : Fr) (dr : Bool) (g : Nat) (args : List D) (st : St) (id : Nat) (r : Option (List D × List Blk)) : Option (D × St) := match r with
  | some (res, [b]) => if cb b = true then some (callD.resD (res.map (ren [(0, id)])), { tm := st.tm, hp := (id, b) :: st.hp, nx := st.nx }) else fbD P c fr dr g args st
  | _ => fbD P c fr dr g args st
noncomputable def cX (P : Program) (c : Cfg) (fr : Fr) (dr : Bool) (g : Nat) (args : List D) (st : St) (ids : List Nat) : Option (D × St) := match ids with
  | [id] => if cb (rdH st.hp id) = true ∧ (rdH st.hp id).md < 2 ∧ (fr.ro = false ∨ fr.k ≤ id) then cY P c fr dr g args st id (callI P c g (args.map (ren [(id, 0)])) [rdH st.hp id]) else fbD P c fr dr g args st
  | _ => fbD P c fr dr g args st
@[go_sem] theorem callD_by (hb : c.byRef g = true) (hk : c.keep g = false) (hw : c.wr g = true) : callD c fr dr (callI P c) g args st = cX P c fr dr g args st (refsLL args) := by
  cases hids : refsLL args with
  | nil => rfl
  | cons id r =>
    cases r with
    | cons _ _ => rfl
    | nil =>
      simp only [cX]
      split
      · rename_i hc
        obtain ⟨hp1, hm, hro⟩ := hc
        have hids2 : reach st.hp fuel [id] [] = [id] := reach_one hp1 (by omega)
        have hany : (fr.ro && true && ([id] : List Nat).any (fun x => decide (x < fr.k))) = false := by
          rcases hro with h | h
          · simp [h]
          · have : ¬ id < fr.k := by omega
            simp [this]
        have hfz : callD.frzBs false st.hp [id] = some st.hp := by
          rw [cb_frz hp1]; rfl
        cases hr : callI P c g (args.map (ren [(id, 0)])) [rdH st.hp id] with
        | none => rfl
        | some q =>
          obtain ⟨res, bs⟩ := q
          match bs with
          | [] => rfl
          | _ :: _ :: _ => rfl
          | [b] =>
            simp only [cY]
            split
            · rename_i hbc
              unfold callD
              simp only [hb, if_true, hids, hids2, hw, hany, hk, Bool.false_eq_true, if_false, hfz, pos, List.map_cons, List.map_nil, cb_renB hp1, hr, Bool.not_true, Bool.and_false, bne_self_eq_false, Bool.or_false, Bool.or_self, backOf, List.length_cons, List.length_nil, callD.addB, nm, cb_renB hbc, Nat.sub_self, Nat.add_zero]
            · rfl
      · rfl
@[go_sem] theorem cX_one (id : Nat) : cX P c fr dr g args st [id] = if cb (rdH st.hp id) = true ∧ (rdH st.hp id).md < 2 ∧ (fr.ro = false ∨ fr.k ≤ id) then cY P c fr dr g args st id (callI P c g (args.map (ren [(id, 0)])) [rdH st.hp id]) else fbD P c fr dr g args st := rfl
@[go_sem] theorem cY_one (id : Nat) (res : List D) (b : Blk) : cY P c fr dr g args st id (some (res, [b])) = if cb b = true then some (callD.resD (res.map (ren [(0, id)])), { tm := st.tm, hp := (id, b) :: st.hp, nx := st.nx }) else fbD P c fr dr g args st := rfl

/-! What is handed out as it is -/
noncomputable def lO (c : Cfg) (fr : Fr) (st : St) (res : List D) (k : Nat) (ids : List Nat) : Option (List D × List Blk) := match k, ids with
  | 0, [] => if calms res = true then some (res, []) else fbL c fr st res
  | 0, [id] => if cb (rdH st.hp id) = true ∧ (rdH st.hp id).md < 2 then some (res.map (ren [(id, 0)]), [rdH st.hp id]) else fbL c fr st res
  | 1, [] => if calms res = true ∧ cb (rdH st.hp 0) = true then some (res, [rdH st.hp 0]) else fbL c fr st res
  | 1, [0] => if cb (rdH st.hp 0) = true then some (res.map (ren [(0, 0)]), [rdH st.hp 0]) else fbL c fr st res
  | _, _ => fbL c fr st res
@[go_sem] theorem leave_own {k nt fn : Nat} {ro : Bool} {res : List D} (ho : c.own fn = true) (hk : c.keep fn = false) : leave c ⟨k, nt, fn, ro⟩ st res = lO c ⟨k, nt, fn, ro⟩ st res k (refsLL res) := by
  have hz2 : ∀ ids : List Nat, (∀ id ∈ ids, cb (rdH st.hp id) = true) → callD.frzBs false st.hp ids = some st.hp := by
    intro ids
    induction ids with
    | nil => intro _; rfl
    | cons id r ih =>
      intro h
      rw [cb_frz (h id (by simp)), ih (fun x hx => h x (by simp [hx]))]
  have key : ∀ ids : List Nat, reach st.hp fuel (refsBs st.hp (upto k 0) ++ refsLL res) (upto k 0) = ids → (∀ id ∈ ids, cb (rdH st.hp id) = true) → leave c ⟨k, nt, fn, ro⟩ st res = some (res.map (ren (pos 0 ids)), ids.map (rdH st.hp)) := by
    intro ids hr hz
    unfold leave
    simp only [ho, hk, if_true, Bool.false_eq_true, if_false, hr, hz2 ids hz]
    congr 2
    exact List.map_congr_left fun id hid => cb_renB (hz id hid)
  have hb : cb (rdH st.hp 0) = true → refsBs st.hp [0] = [] := by
    intro h
    simp only [refsBs, cb_refs h, List.append_nil, ite_self]
  match k, hids : refsLL res with
  | 0, [] =>
    simp only [lO]
    split
    · rename_i hc
      rw [key [] (by rw [hids]; exact reach_nil _ _ _) (by simp)]
      simp only [pos, rens_calm hc, List.map_nil]
    · rfl
  | 0, [id] =>
    simp only [lO]
    split
    · rename_i h
      have hr := reach_one h.1 (show (rdH st.hp id).md = 0 ∨ (rdH st.hp id).md = 1 by omega)
      rw [key [id] (by rw [hids]; exact hr) (by simpa using h.1)]
      rfl
    · rfl
  | 1, [] =>
    simp only [lO]
    split
    · rename_i h
      rw [key [0] (by rw [hids]; show reach st.hp fuel (refsBs st.hp [0] ++ []) [0] = [0]; rw [hb h.2]; exact reach_nil _ _ _) (by simpa using h.2)]
      simp only [rens_calm h.1, List.map_cons, List.map_nil]
    · rfl
  | 1, [0] =>
    simp only [lO]
    split
    · rename_i h
      rw [key [0] (by
        rw [hids]
        show reach st.hp fuel (refsBs st.hp [0] ++ [0]) [0] = [0]
        rw [hb h]
        simp only [fuel, List.nil_append, reach, has, if_true, Bool.true_or]) (by simpa using h)]
      rfl
    · rfl
  | 1, [_ + 1] => rfl
  | 0, _ :: _ :: _ => rfl
  | 1, 0 :: _ :: _ => rfl
  | 1, (_ + 1) :: _ :: _ => rfl
  | _ + 2, [] => rfl
  | _ + 2, [_] => rfl
  | _ + 2, _ :: _ :: _ => rfl
@[go_sem] theorem lO_00 (res : List D) : lO c fr st res 0 [] = if calms res = true then some (res, []) else fbL c fr st res := rfl
@[go_sem] theorem lO_01 (res : List D) (id : Nat) : lO c fr st res 0 [id] = if cb (rdH st.hp id) = true ∧ (rdH st.hp id).md < 2 then some (res.map (ren [(id, 0)]), [rdH st.hp id]) else fbL c fr st res := rfl
@[go_sem] theorem lO_10 (res : List D) : lO c fr st res 1 [] = if calms res = true ∧ cb (rdH st.hp 0) = true then some (res, [rdH st.hp 0]) else fbL c fr st res := rfl
@[go_sem] theorem lO_11 (res : List D) : lO c fr st res 1 [0] = if cb (rdH st.hp 0) = true then some (res.map (ren [(0, 0)]), [rdH st.hp 0]) else fbL c fr st res := rfl
end

/-! Capacities, clearing, appends of zeros, slices of what is written -/
section
variable {P : Program} {c : Cfg} {fr : Fr} {dr : Bool} {call : Vm.Callee} (dst : Option Tmp) (ty : TypeId) (pos : String) (after : Array Edge) (guard : Option (Nat × Bool)) (st : St)
def cpD (st : St) (e : Option TypeId) (n : Option Nat) : Option (D × St) := match e, n with
  | some _, some n => some (.s (.int .i64 n), st)
  | _, _ => none
@[go_sem] theorem d_cap (x : Operand) (t : TypeId) : opD P c fr dr call st { dst := dst, op := .call { callee := .builtin .cap, args := #[x], argTypes := #[t] }, type := ty, pos := pos, after := after, guard := guard } = cpD st (elt P t) (capD st.hp (ev st.tm x)) := by
  have e : opD P c fr dr call st { dst := dst, op := .call { callee := .builtin .cap, args := #[x], argTypes := #[t] }, type := ty, pos := pos, after := after, guard := guard } = op1 P c fr dr call st { dst := dst, op := .call { callee := .builtin .cap, args := #[x], argTypes := #[t] }, type := ty, pos := pos, after := after, guard := guard } := rfl
  rw [e]; unfold op1 cpD
  dsimp only [List.map]
  cases elt P t <;> cases capD st.hp (ev st.tm x) <;> rfl
@[go_sem] theorem cpD_some (e n : Nat) : cpD st (some e) (some n) = some (.s (.int .i64 n), st) := rfl
@[go_sem] theorem capD_nilS (hp : List (Nat × Blk)) : capD hp nilS = some 0 := rfl
@[go_sem] theorem cut_nilS {t el : TypeId} {n : Nat} (he : elt P t = some el) (hz : sz P el = some n) (hp : List (Nat × Blk)) (k : IntKind) : cut P t dr hp nilS none (some (.s (.int k ((0 : Nat) : Int)))) none = some (nilS, hp) := by
  unfold cut nilS
  simp only [he, hz]
  rfl
/-- What is cleared. -/
def crT (P : Program) (t : TypeId) : Option (Nat × List D) := match elt P t with
  | some el => (match zer P el, sz P el with
    | some z, some n => if n = z.length ∧ 0 < n then some (n, z) else none
    | _, _ => none)
  | none => none
def crS (r : Option St) : Option (D × St) := match r with
  | some st => some (und, st)
  | none => none
noncomputable def crK (P : Program) (c : Cfg) (fr : Fr) (dr : Bool) (call : Vm.Callee) (st : St) (o : Oper) (r : Option (Nat × List D)) (d : D) : Option (D × St) := match r, d with
  | some (n, z), .a id lo k z0 => if 0 < k then crS (writeD fr n st id lo k z0 (List.replicate k z)) else fbO P c fr dr call st o
  | _, _ => fbO P c fr dr call st o
@[go_sem] theorem d_clear (x : Operand) (t : TypeId) : opD P c fr dr call st { dst := dst, op := .call { callee := .builtin .clear, args := #[x], argTypes := #[t] }, type := ty, pos := pos, after := after, guard := guard } =
    crK P c fr dr call st { dst := dst, op := .call { callee := .builtin .clear, args := #[x], argTypes := #[t] }, type := ty, pos := pos, after := after, guard := guard } (crT P t) (ev st.tm x) := by
  unfold crK
  split
  · rename_i n z id lo k z0 h hd
    split
    · rename_i hk
      have e : opD P c fr dr call st { dst := dst, op := .call { callee := .builtin .clear, args := #[x], argTypes := #[t] }, type := ty, pos := pos, after := after, guard := guard } = op1 P c fr dr call st { dst := dst, op := .call { callee := .builtin .clear, args := #[x], argTypes := #[t] }, type := ty, pos := pos, after := after, guard := guard } := rfl
      rw [e]
      unfold crT at h
      unfold op1 crS
      cases h1 : elt P t with
      | none => rw [h1] at h; cases h
      | some el =>
        simp only [h1] at h
        cases h2 : zer P el <;> cases h3 : sz P el <;> simp only [h2, h3] at h <;> try (cases h; done)
        split at h
        · rename_i hc
          cases h
          obtain ⟨c1, c2⟩ := hc
          simp only [List.map_cons, List.map_nil, hd, h1, h2, h3, ← c1]
          cases writeD fr n st id lo k z0 (List.replicate k z) with
          | none => rfl
          | some st' => simp [c2, hk]
        · cases h
    · rfl
  · rfl
@[go_sem] theorem crK_a (o : Oper) (n id lo k z0 : Nat) (z : List D) : crK P c fr dr call st o (some (n, z)) (.a id lo k z0) = if 0 < k then crS (writeD fr n st id lo k z0 (List.replicate k z)) else fbO P c fr dr call st o := rfl
@[go_sem] theorem crS_some (st : St) : crS (some st) = some (und, st) := rfl
/-- What is appended as so many zeros. -/
def apX (P : Program) (t u : TypeId) : Option (Nat × Nat × List D) := match elt P t with
  | some el => (match sz P el, byt P el, zer P el with
    | some n, some b, some z => if 0 < n ∧ z.length = n ∧ (elt P u).isNone = true ∧ intT P u = true then some (n, b, z) else none
    | _, _, _ => none)
  | none => none
theorem d_grow (x y : Operand) (t u : TypeId) (n b m : Nat) (z : List D) (h : apX P t u = some (n, b, z)) (hm : asNat (ev st.tm y) = some m) : opD P c fr dr call st { dst := dst, op := .call { callee := .builtin .append, args := #[x, y], argTypes := #[t, u] }, type := ty, pos := pos, after := after, guard := guard } =
    appendD fr n b st (ev st.tm x) (.l none (List.replicate m z)) := by
  have e : opD P c fr dr call st { dst := dst, op := .call { callee := .builtin .append, args := #[x, y], argTypes := #[t, u] }, type := ty, pos := pos, after := after, guard := guard } = op1 P c fr dr call st { dst := dst, op := .call { callee := .builtin .append, args := #[x, y], argTypes := #[t, u] }, type := ty, pos := pos, after := after, guard := guard } := rfl
  rw [e]
  unfold apX at h
  unfold op1
  cases h1 : elt P t with
  | none => rw [h1] at h; cases h
  | some el =>
    simp only [h1] at h
    cases h2 : sz P el <;> cases h3 : byt P el <;> cases h4 : zer P el <;> simp only [h2, h3, h4] at h <;> try (cases h; done)
    split at h
    · rename_i hc
      cases h
      obtain ⟨c1, c2, c3, c4⟩ := hc
      cases h5 : elt P u with
      | some e => rw [h5] at c3; simp at c3
      | none => simp only [List.map_cons, List.map_nil, h1, h2, h3, h4, h5, c1, c2, c4, hm, and_self, if_true]
    · cases h
/-- An append onto a slice with room: it goes on in its block. -/
theorem app_in {fr : Fr} {n bytes id k : Nat} {es new : List (List D)} {cp : Option Nat} {y : D} (hb : rdH st.hp id = ⟨es, true, 0, true, cp⟩) (hy : peek st.hp y = some new) (hz : sizesOk n new = true) (hne : new.isEmpty = false) (hro : fr.ro = false ∨ fr.k ≤ id) (hl : k + new.length ≤ es.length)
    (hm : (k + new.length) * bytes ≤ 140737488355328) (hm' : k + new.length ≤ 140737488355328) :
    appendD fr n bytes st (.a id 0 k n) y = some (.a id 0 (k + new.length) n, { tm := st.tm, hp := (id, ⟨es.take k ++ new ++ es.drop (k + new.length), true, 0, true, cp⟩) :: st.hp, nx := st.nx }) := by
  unfold appendD
  rw [hy]
  have e : appendD.lenOr (D.a id 0 k n) = k := rfl
  simp only [hz, e, hm, hm', decide_true, Bool.and_self, if_true, hb, hro, and_self, hne, Bool.false_eq_true, if_false, Nat.zero_add, Nat.zero_lt_succ]
  simp
  omega
@[go_sem] theorem peek_a (hp : List (Nat × Blk)) (id lo n z : Nat) (es : List (List D)) (cp : Option Nat) (h : rdH hp id = ⟨es, true, 0, true, cp⟩) (hl : lo + n ≤ es.length) : peek hp (.a id lo n z) = some ((es.drop lo).take n) := by
  unfold peek
  simp [h, hl]
theorem cut_a_lo {t el : TypeId} {n : Nat} (he : elt P t = some el) (hz : sz P el = some n) (hp : List (Nat × Blk)) (k : IntKind) (id o m l : Nat) (hl : l ≤ m) : cut P t dr hp (.a id o m n) (some (.s (.int k (l : Int)))) none none = some (.a id (o + l) (m - l) n, hp) := by
  unfold cut
  simp [he, hz, bnd, asNat, hl]
theorem cut_a_hi {t el : TypeId} {n : Nat} (he : elt P t = some el) (hz : sz P el = some n) (hp : List (Nat × Blk)) (k : IntKind) (id o m h : Nat) (hl : h ≤ m) : cut P t dr hp (.a id o m n) none (some (.s (.int k (h : Int)))) none = some (.a id o h n, hp) := by
  unfold cut
  simp [he, hz, bnd, asNat, hl]
end
end Vm
end Go.Proofs.Ytenldcieoalgoaa

/-
  What is read of an argument, as lists and numbers.
-/
namespace Go.Proofs.Ytenldcieoalgoaa
namespace Vm
open Go Go.RowKit
section
variable {P : Program} {n : Nat} {t : TypeId} {ds : List D} {α : Type} {f : α → List D}
theorem fit_int {k : IntKind} (hu : P.underlying t = some (.int k)) (h : Fit P (n + 1) t ds) : ∃ x, ds = [.s (.int k x)] ∧ (Lit.int k x).wf = true := by
  unfold Fit at h
  simpa only [hu] using h
theorem fit_bool (hu : P.underlying t = some .bool) (h : Fit P (n + 1) t ds) : ∃ x, ds = [.s (.bool x)] := by
  unfold Fit at h
  simpa only [hu] using h
theorem fit_str (hu : P.underlying t = some .string) (h : Fit P (n + 1) t ds) : ∃ x, ds = [.s (.string x)] := by
  unfold Fit at h
  simpa only [hu] using h
theorem fit_sl {e : TypeId} {p : α → Prop} (hu : P.underlying t = some (.slice e)) (he : ∀ x, Fit P n e x → ∃ a : α, x = f a ∧ p a) (h : Fit P (n + 1) t ds) : ∃ x : Sl α, ds = [x.d f] ∧ x.xs.length ≤ maxLen ∧ ∀ a ∈ x.xs, p a := by
  unfold Fit at h
  simp only [hu] at h
  rcases h with rfl | ⟨es, rfl, hl, hes⟩
  · exact ⟨.nil, rfl, Nat.zero_le _, by simp [Sl.xs]⟩
  · have : ∃ xs : List α, es = xs.map f ∧ ∀ a ∈ xs, p a := by
      clear hl
      induction es with
      | nil => exact ⟨[], rfl, by simp⟩
      | cons x r ih =>
        obtain ⟨xs, h1, h2⟩ := ih (fun y hy => hes y (List.mem_cons_of_mem _ hy))
        obtain ⟨a, h3, h4⟩ := he x (hes x (by simp))
        exact ⟨a :: xs, by rw [h1, h3]; rfl, by simpa using ⟨h4, h2⟩⟩
    obtain ⟨xs, rfl, hp⟩ := this
    exact ⟨.l none xs, rfl, by simpa [Sl.xs] using hl, hp⟩
theorem fit_struct {fs : Array Field} (hu : P.underlying t = some (.struct fs)) (h : Fit P (n + 1) t ds) : FitL (Fit P n) fs.toList ds := by
  unfold Fit at h
  simpa only [hu] using h
theorem fitL_cons {r : TypeId → List D → Prop} {fl : Field} {fs : List Field} (h : FitL r (fl :: fs) ds) : ∃ p q, ds = p ++ q ∧ r fl.type p ∧ FitL r fs q := h
theorem fitL_nil {r : TypeId → List D → Prop} (h : FitL r [] ds) : ds = [] := h
theorem fitArg_int {k : IntKind} {d : D} (hu : P.underlying t = some (.int k)) (h : FitArg P t d) : ∃ x, d = .s (.int k x) ∧ (Lit.int k x).wf = true := by
  unfold FitArg at h
  simp only [hu] at h
  obtain ⟨x, h1, h2⟩ := fit_int hu h
  simp only [List.cons.injEq, and_true] at h1
  exact ⟨x, h1, h2⟩
theorem fitArg_bool {d : D} (hu : P.underlying t = some .bool) (h : FitArg P t d) : ∃ x, d = .s (.bool x) := by
  unfold FitArg at h
  simp only [hu] at h
  obtain ⟨x, h1⟩ := fit_bool hu h
  simp only [List.cons.injEq, and_true] at h1
  exact ⟨x, h1⟩
theorem fitArg_sl {e : TypeId} {d : D} {p : α → Prop} (hu : P.underlying t = some (.slice e)) (he : ∀ x, Fit P 7 e x → ∃ a : α, x = f a ∧ p a) (h : FitArg P t d) : ∃ x : Sl α, d = x.d f ∧ x.xs.length ≤ maxLen ∧ ∀ a ∈ x.xs, p a := by
  unfold FitArg at h
  simp only [hu] at h
  obtain ⟨x, h1, h2, h3⟩ := fit_sl hu he h
  simp only [List.cons.injEq, and_true] at h1
  exact ⟨x, h1, h2, h3⟩
theorem fitArg_struct {fs : Array Field} {d : D} (hu : P.underlying t = some (.struct fs)) (h : FitArg P t d) : ∃ ds, d = .g ds ∧ Fit P 8 t ds := by
  unfold FitArg at h
  simpa only [hu] using h
theorem fitAll_cons {ts : List TypeId} (h : FitAll P (t :: ts) ds) : ∃ d r, ds = d :: r ∧ FitArg P t d ∧ FitAll P ts r := h
theorem fitAll_nil (h : FitAll P [] ds) : ds = [] := h
theorem wf_i64 {x : Int} (h : (Lit.int .i64 x).wf = true) : -9223372036854775808 ≤ x ∧ x < 9223372036854775808 := by
  simp only [Lit.wf, Bool.and_eq_true, decide_eq_true_eq] at h
  have e1 : IntKind.i64.min = -9223372036854775808 := by decide
  have e2 : IntKind.i64.max = 9223372036854775807 := by decide
  rw [e1, e2] at h
  omega
theorem maxLen_lt {n : Nat} (h : n ≤ maxLen) : n < 9223372036854775808 := by
  unfold maxLen at h; omega
end
end Vm
end Go.Proofs.Ytenldcieoalgoaa

/-
  The library's sort at this program: which numbers its functions and types have; each body by the kernel.
-/
namespace Go.Proofs.Ytenldcieoalgoaa
open Go Go.Shelf
def srtRen : Ren where
  f := fun x => match x with
    | 53 => 37
    | 64 => 42
    | 63 => 41
    | 78 => 52
    | 79 => 53
    | 70 => 43
    | 71 => 44
    | 72 => 45
    | 73 => 46
    | 74 => 47
    | 75 => 48
    | 59 => 49
    | 76 => 50
    | 77 => 51
    | 88 => 54
    | 89 => 55
    | 90 => 56
    | 91 => 57
    | 92 => 58
    | 68 => 59
    | 96 => 60
    | _ => 0
  t := fun x => match x with
    | 22 => 34
    | 23 => 2
    | 3 => 3
    | 51 => 65
    | 0 => 0
    | 67 => 79
    | 69 => 81
    | 4 => 4
    | 61 => 72
    | 60 => 71
    | 44 => 59
    | 5 => 5
    | 9 => 9
    | 75 => 82
    | 79 => 86
    | 83 => 89
    | 84 => 47
    | _ => 0
  g := fun x => match x with
    | _ => 0
theorem srtLays : SlLaysN.n53 Try.prog srtRen where
  mixed := by kernel_rfl
  f53 := ⟨"slices.Sort[[]int64,int64]", of_decide_eq_true (by kernel_rfl), by kernel_rfl⟩
  f59 := ⟨"cmp.Less[int64]", of_decide_eq_true (by kernel_rfl), by kernel_rfl⟩
  f63 := ⟨"slices.pdqsortOrdered[int64]", of_decide_eq_true (by kernel_rfl), by kernel_rfl⟩
  f64 := by kernel_rfl
  f68 := ⟨"cmp.isNaN[int64]", of_decide_eq_true (by kernel_rfl), by kernel_rfl⟩
  f70 := ⟨"slices.insertionSortOrdered[int64]", of_decide_eq_true (by kernel_rfl), by kernel_rfl⟩
  f71 := ⟨"slices.heapSortOrdered[int64]", of_decide_eq_true (by kernel_rfl), by kernel_rfl⟩
  f72 := ⟨"slices.breakPatternsOrdered[int64]", of_decide_eq_true (by kernel_rfl), by kernel_rfl⟩
  f73 := ⟨"slices.choosePivotOrdered[int64]", of_decide_eq_true (by kernel_rfl), by kernel_rfl⟩
  f74 := ⟨"slices.reverseRangeOrdered[int64]", of_decide_eq_true (by kernel_rfl), by kernel_rfl⟩
  f75 := ⟨"slices.partialInsertionSortOrdered[int64]", of_decide_eq_true (by kernel_rfl), by kernel_rfl⟩
  f76 := ⟨"slices.partitionEqualOrdered[int64]", of_decide_eq_true (by kernel_rfl), by kernel_rfl⟩
  f77 := ⟨"slices.partitionOrdered[int64]", of_decide_eq_true (by kernel_rfl), by kernel_rfl⟩
  f78 := by kernel_rfl
  f79 := by kernel_rfl
  f88 := ⟨"slices.siftDownOrdered[int64]", of_decide_eq_true (by kernel_rfl), by kernel_rfl⟩
  f89 := by kernel_rfl
  f90 := by kernel_rfl
  f91 := ⟨"slices.medianAdjacentOrdered[int64]", of_decide_eq_true (by kernel_rfl), by kernel_rfl⟩
  f92 := ⟨"slices.medianOrdered[int64]", of_decide_eq_true (by kernel_rfl), by kernel_rfl⟩
  f96 := ⟨"slices.order2Ordered[int64]", of_decide_eq_true (by kernel_rfl), by kernel_rfl⟩
  t0 := Try.underlying0
  a0 := Try.isAgg0
  z0 := Try.sizeOf0
  v0 := Try.zeroValue0
  t3 := Try.underlying3
  a3 := Try.isAgg3
  z3 := Try.sizeOf3
  v3 := Try.zeroValue3
  t4 := Try.underlying4
  a4 := Try.isAgg4
  z4 := Try.sizeOf4
  v4 := Try.zeroValue4
  t5 := Try.underlying5
  a5 := Try.isAgg5
  z5 := Try.sizeOf5
  v5 := Try.zeroValue5
  t9 := Try.underlying9
  a9 := Try.isAgg9
  z9 := Try.sizeOf9
  v9 := Try.zeroValue9
  t22 := Try.underlying34
  a22 := Try.isAgg34
  z22 := Try.sizeOf34
  v22 := Try.zeroValue34
  t23 := Try.underlying2
  a23 := Try.isAgg2
  z23 := Try.sizeOf2
  v23 := Try.zeroValue2
  t44 := Try.underlying59
  a44 := Try.isAgg59
  z44 := Try.sizeOf59
  v44 := Try.zeroValue59
  t51 := Try.underlying65
  a51 := Try.isAgg65
  z51 := Try.sizeOf65
  v51 := Try.zeroValue65
  t60 := Try.underlying71
  a60 := Try.isAgg71
  z60 := Try.sizeOf71
  v60 := Try.zeroValue71
  t61 := Try.underlying72
  a61 := Try.isAgg72
  z61 := Try.sizeOf72
  v61 := Try.zeroValue72
  t67 := Try.underlying79
  a67 := Try.isAgg79
  z67 := Try.sizeOf79
  v67 := Try.zeroValue79
  t69 := Try.underlying81
  a69 := Try.isAgg81
  z69 := Try.sizeOf81
  v69 := Try.zeroValue81
  t75 := Try.underlying82
  a75 := Try.isAgg82
  z75 := Try.sizeOf82
  v75 := Try.zeroValue82
  t79 := Try.underlying86
  a79 := Try.isAgg86
  z79 := Try.sizeOf86
  v79 := Try.zeroValue86
  t83 := Try.underlying89
  a83 := Try.isAgg89
  z83 := Try.sizeOf89
  v83 := Try.zeroValue89
  t84 := Try.underlying47
  a84 := Try.isAgg47
  z84 := Try.sizeOf47
  v84 := Try.zeroValue47
end Go.Proofs.Ytenldcieoalgoaa

/-
  What is chosen for the pieces' laws; the closed test of layer 25, run by the kernel.
-/
namespace Go.Proofs.Ytenldcieoalgoaa
open Go Vm

def okL : List Nat := [3, 4, 5, 6, 7, 8, 9, 10, 11, 12, 13, 14, 15, 16, 17, 18, 19, 20, 21, 22, 23, 24, 25, 26, 27, 28, 29, 30, 31, 32, 33, 34, 35, 36, 38, 39, 40]
def wrL : List Nat := [37, 38]
def ownL : List Nat := [15, 36, 38, 40]
def byRefL : List Nat := [37, 38]
def cfg : Vm.Cfg := { wr := fun f => has wrL f, own := fun f => has ownL f, byRef := fun f => has byRefL f, keep := fun _ => false, live := fun _ _ => none, lock := fun _ _ => [], ok := fun f => has okL f, free := fun f t => (f == 14 || f == 24) && (t == 45 || t == 47), orc := fun f args bs => if f = 37 then sortO args bs else none }

theorem mix : Try.prog.follows .mixedOrders = true := by kernel_rfl
theorem okAll : okL.all (funOk Try.prog cfg) = true := by kernel_rfl
theorem cfgOk : ∀ f, cfg.ok f = true → funOk Try.prog cfg f = true := fun f h => List.all_eq_true.1 okAll f (has_iff.1 h)
theorem sortCalls : SortCalls Try.prog 37 := fun blk off cap zs w h1 h2 h3 => AnyG.slices_Sort_int srtLays blk off cap zs w h1 h2 h3
theorem cfgOrc : OrcOk Try.prog cfg := by
  refine ⟨fun f args bs res bs' h φ F w vs ha hm _ => ?_, fun f args bs r h => ?_⟩
  · simp only [cfg] at h
    split at h
    · rename_i hf
      subst hf
      exact sortO_ok sortCalls (by rfl) h ha hm
    · cases h
  · simp only [cfg] at h
    split at h
    · rename_i hf
      subst hf
      exact ⟨_, Try.func37, by kernel_rfl, by kernel_rfl⟩
    · cases h

theorem goes_run : callN Try.prog cfg 60 9 [] [] = some ([.s (.bool true)], []) := by kernel_rfl

end Go.Proofs.Ytenldcieoalgoaa

/-
  Facts about the program's types, each by the kernel.
-/
namespace Go.Proofs.Ytenldcieoalgoaa
open Go Vm
attribute [go_sem] wrL ownL byRefL
@[go_sem] theorem free0 (f t : Nat) : cfg.free f t = ((f == 14 || f == 24) && (t == 45 || t == 47)) := (rfl)
@[go_sem] theorem lock0 (f r : Nat) : cfg.lock f r = [] := (rfl)
@[go_sem] theorem keep0 (f : Nat) : cfg.keep f = false := (rfl)
@[go_sem] theorem own0 (f : Nat) : cfg.own f = has ownL f := (rfl)
@[go_sem] theorem byRef0 (f : Nat) : cfg.byRef f = has byRefL f := (rfl)
@[go_sem] theorem wr0 (f : Nat) : cfg.wr f = has wrL f := (rfl)
theorem head0 (fr : Fr) (body : Code) (st : St) : headD cfg fr body st = some st := rfl
@[go_sem] theorem ft2 : Try.prog.eqGuardType Try.prog.depth 2 = false ∧ sz Try.prog 2 = some 1 ∧ agg Try.prog 2 = false ∧ elt Try.prog 2 = none ∧ arr Try.prog 2 = none ∧ zer Try.prog 2 = some [.s (.int .i64 0)] :=
  ⟨by kernel_rfl, by kernel_rfl, by kernel_rfl, by kernel_rfl, by kernel_rfl, by kernel_rfl⟩
@[go_sem] theorem ft3 : Try.prog.eqGuardType Try.prog.depth 3 = false ∧ sz Try.prog 3 = some 1 ∧ agg Try.prog 3 = false ∧ elt Try.prog 3 = none ∧ arr Try.prog 3 = none ∧ zer Try.prog 3 = some [.s (.int .i64 0)] :=
  ⟨by kernel_rfl, by kernel_rfl, by kernel_rfl, by kernel_rfl, by kernel_rfl, by kernel_rfl⟩
@[go_sem] theorem ft4 : Try.prog.eqGuardType Try.prog.depth 4 = false ∧ sz Try.prog 4 = some 1 ∧ agg Try.prog 4 = false ∧ elt Try.prog 4 = none ∧ arr Try.prog 4 = none ∧ zer Try.prog 4 = some [.s (.bool false)] ∧ (∀ x y : Bool, binD Try.prog .eql 4 (.s (.bool x)) (.s (.bool y)) = some (.s (.bool (x == y)))) ∧ (∀ x y : Bool, binD Try.prog .neq 4 (.s (.bool x)) (.s (.bool y)) = some (.s (.bool (!(x == y))))) :=
  ⟨by kernel_rfl, by kernel_rfl, by kernel_rfl, by kernel_rfl, by kernel_rfl, by kernel_rfl, by intros; kernel_rfl, by intros; kernel_rfl⟩
@[go_sem] theorem ft5 : Try.prog.eqGuardType Try.prog.depth 5 = false ∧ sz Try.prog 5 = some 1 ∧ agg Try.prog 5 = false ∧ elt Try.prog 5 = none ∧ arr Try.prog 5 = none ∧ zer Try.prog 5 = some [.s (.int .u8 0)] :=
  ⟨by kernel_rfl, by kernel_rfl, by kernel_rfl, by kernel_rfl, by kernel_rfl, by kernel_rfl⟩
@[go_sem] theorem ft9 : Try.prog.eqGuardType Try.prog.depth 9 = false ∧ sz Try.prog 9 = some 1 ∧ agg Try.prog 9 = false ∧ elt Try.prog 9 = none ∧ arr Try.prog 9 = none ∧ zer Try.prog 9 = some [.s (.string ⟨#[]⟩)] :=
  ⟨by kernel_rfl, by kernel_rfl, by kernel_rfl, by kernel_rfl, by kernel_rfl, by kernel_rfl⟩
@[go_sem] theorem ft23 : Try.prog.eqGuardType Try.prog.depth 23 = false ∧ sz Try.prog 23 = some 1 ∧ agg Try.prog 23 = false ∧ elt Try.prog 23 = some 37 ∧ arr Try.prog 23 = none ∧ zer Try.prog 23 = some [nilS] ∧ lenS Try.prog 23 = true ∧ cutT Try.prog 23 = some 3 ∧ (∀ (α : Type) (f : α → List D) (x : Sl α), binD Try.prog .eql 23 (x.d f) nilS = some (.s (.bool x.isNil))) ∧ (∀ (α : Type) (f : α → List D) (x : Sl α), binD Try.prog .neq 23 (x.d f) nilS = some (.s (.bool !x.isNil))) ∧ msT Try.prog 23 = some (3, 24, [.s (.int .i64 0), .s (.int .i64 0), .s (.int .i64 0)]) :=
  ⟨by kernel_rfl, by kernel_rfl, by kernel_rfl, by kernel_rfl, by kernel_rfl, by kernel_rfl, by kernel_rfl, by kernel_rfl, by intro _ _ x; cases x <;> kernel_rfl, by intro _ _ x; cases x <;> kernel_rfl, by kernel_rfl⟩
@[go_sem] theorem ft25 : Try.prog.eqGuardType Try.prog.depth 25 = false ∧ sz Try.prog 25 = some 1 ∧ agg Try.prog 25 = false ∧ elt Try.prog 25 = none ∧ arr Try.prog 25 = none ∧ zer Try.prog 25 = some [.s (.int .i64 0)] :=
  ⟨by kernel_rfl, by kernel_rfl, by kernel_rfl, by kernel_rfl, by kernel_rfl, by kernel_rfl⟩
@[go_sem] theorem ft27 : Try.prog.eqGuardType Try.prog.depth 27 = false ∧ sz Try.prog 27 = some 1 ∧ agg Try.prog 27 = false ∧ elt Try.prog 27 = none ∧ arr Try.prog 27 = none ∧ zer Try.prog 27 = some [.s (.int .i64 0)] :=
  ⟨by kernel_rfl, by kernel_rfl, by kernel_rfl, by kernel_rfl, by kernel_rfl, by kernel_rfl⟩
@[go_sem] theorem ft34 : Try.prog.eqGuardType Try.prog.depth 34 = false ∧ sz Try.prog 34 = some 1 ∧ agg Try.prog 34 = false ∧ elt Try.prog 34 = some 2 ∧ arr Try.prog 34 = none ∧ zer Try.prog 34 = some [nilS] ∧ lenS Try.prog 34 = true ∧ cutT Try.prog 34 = some 1 ∧ (∀ (α : Type) (f : α → List D) (x : Sl α), binD Try.prog .eql 34 (x.d f) nilS = some (.s (.bool x.isNil))) ∧ (∀ (α : Type) (f : α → List D) (x : Sl α), binD Try.prog .neq 34 (x.d f) nilS = some (.s (.bool !x.isNil))) ∧ msT Try.prog 34 = some (1, 8, [.s (.int .i64 0)]) :=
  ⟨by kernel_rfl, by kernel_rfl, by kernel_rfl, by kernel_rfl, by kernel_rfl, by kernel_rfl, by kernel_rfl, by kernel_rfl, by intro _ _ x; cases x <;> kernel_rfl, by intro _ _ x; cases x <;> kernel_rfl, by kernel_rfl⟩
@[go_sem] theorem ft37 : Try.prog.eqGuardType Try.prog.depth 37 = false ∧ sz Try.prog 37 = some 3 ∧ agg Try.prog 37 = true ∧ elt Try.prog 37 = none ∧ arr Try.prog 37 = none ∧ zer Try.prog 37 = some [.s (.int .i64 0), .s (.int .i64 0), .s (.int .i64 0)] ∧ structOk Try.prog 37 = true ∧ plainN Try.prog 37 = some 3 ∧ fld Try.prog 37 0 = some (0, 1) ∧ agF Try.prog 37 0 = some false ∧ fld Try.prog 37 1 = some (1, 1) ∧ agF Try.prog 37 1 = some false ∧ fld Try.prog 37 2 = some (2, 1) ∧ agF Try.prog 37 2 = some false :=
  ⟨by kernel_rfl, by kernel_rfl, by kernel_rfl, by kernel_rfl, by kernel_rfl, by kernel_rfl, by kernel_rfl, by kernel_rfl, by kernel_rfl, by kernel_rfl, by kernel_rfl, by kernel_rfl, by kernel_rfl, by kernel_rfl⟩
@[go_sem] theorem ft61 : Try.prog.eqGuardType Try.prog.depth 61 = false ∧ sz Try.prog 61 = some 1 ∧ agg Try.prog 61 = false ∧ elt Try.prog 61 = none ∧ arr Try.prog 61 = none ∧ zer Try.prog 61 = some [.s .nilFunc] :=
  ⟨by kernel_rfl, by kernel_rfl, by kernel_rfl, by kernel_rfl, by kernel_rfl, by kernel_rfl⟩
@[go_sem] theorem ft65 : Try.prog.eqGuardType Try.prog.depth 65 = false ∧ sz Try.prog 65 = some 1 ∧ agg Try.prog 65 = false ∧ elt Try.prog 65 = none ∧ arr Try.prog 65 = none ∧ zer Try.prog 65 = some [.s (.int .u64 0)] :=
  ⟨by kernel_rfl, by kernel_rfl, by kernel_rfl, by kernel_rfl, by kernel_rfl, by kernel_rfl⟩
@[go_sem] theorem ft66 : Try.prog.eqGuardType Try.prog.depth 66 = false ∧ sz Try.prog 66 = some 1 ∧ agg Try.prog 66 = false ∧ elt Try.prog 66 = some 23 ∧ arr Try.prog 66 = none ∧ zer Try.prog 66 = some [nilS] ∧ lenS Try.prog 66 = true ∧ cutT Try.prog 66 = some 1 ∧ (∀ (α : Type) (f : α → List D) (x : Sl α), binD Try.prog .eql 66 (x.d f) nilS = some (.s (.bool x.isNil))) ∧ (∀ (α : Type) (f : α → List D) (x : Sl α), binD Try.prog .neq 66 (x.d f) nilS = some (.s (.bool !x.isNil))) ∧ msT Try.prog 66 = some (1, 24, [nilS]) :=
  ⟨by kernel_rfl, by kernel_rfl, by kernel_rfl, by kernel_rfl, by kernel_rfl, by kernel_rfl, by kernel_rfl, by kernel_rfl, by intro _ _ x; cases x <;> kernel_rfl, by intro _ _ x; cases x <;> kernel_rfl, by kernel_rfl⟩
@[go_sem] theorem ft71 : Try.prog.eqGuardType Try.prog.depth 71 = false ∧ sz Try.prog 71 = some 1 ∧ agg Try.prog 71 = false ∧ elt Try.prog 71 = none ∧ arr Try.prog 71 = none ∧ zer Try.prog 71 = some [.s (.int .i64 0)] :=
  ⟨by kernel_rfl, by kernel_rfl, by kernel_rfl, by kernel_rfl, by kernel_rfl, by kernel_rfl⟩
@[go_sem] theorem ft79 : Try.prog.eqGuardType Try.prog.depth 79 = false ∧ sz Try.prog 79 = some 1 ∧ agg Try.prog 79 = false ∧ elt Try.prog 79 = none ∧ arr Try.prog 79 = none ∧ zer Try.prog 79 = some [.s (.int .u32 0)] :=
  ⟨by kernel_rfl, by kernel_rfl, by kernel_rfl, by kernel_rfl, by kernel_rfl, by kernel_rfl⟩
@[go_sem] theorem ft81 : Try.prog.eqGuardType Try.prog.depth 81 = false ∧ sz Try.prog 81 = some 1 ∧ agg Try.prog 81 = false ∧ elt Try.prog 81 = none ∧ arr Try.prog 81 = none ∧ zer Try.prog 81 = some [.s (.int .u64 0)] :=
  ⟨by kernel_rfl, by kernel_rfl, by kernel_rfl, by kernel_rfl, by kernel_rfl, by kernel_rfl⟩
@[go_sem] theorem ft82 : Try.prog.eqGuardType Try.prog.depth 82 = false ∧ sz Try.prog 82 = some 1 ∧ agg Try.prog 82 = false ∧ elt Try.prog 82 = none ∧ arr Try.prog 82 = none ∧ zer Try.prog 82 = some [.s (.int .u64 0)] :=
  ⟨by kernel_rfl, by kernel_rfl, by kernel_rfl, by kernel_rfl, by kernel_rfl, by kernel_rfl⟩
@[go_sem] theorem ft86 : Try.prog.eqGuardType Try.prog.depth 86 = false ∧ sz Try.prog 86 = some 1 ∧ agg Try.prog 86 = false ∧ elt Try.prog 86 = none ∧ arr Try.prog 86 = none ∧ zer Try.prog 86 = some [.s (.pointer none)] ∧ (∀ id i off, eqNil Try.prog 86 (.p id i off) (.s (.pointer none)) = some false) ∧ (binD Try.prog .eql 86 (.s (.pointer none)) (.s (.pointer none)) = some (.s (.bool true))) ∧ (binD Try.prog .neq 86 (.s (.pointer none)) (.s (.pointer none)) = some (.s (.bool false))) :=
  ⟨by kernel_rfl, by kernel_rfl, by kernel_rfl, by kernel_rfl, by kernel_rfl, by kernel_rfl, by intros; kernel_rfl, by kernel_rfl, by kernel_rfl⟩
@[go_sem] theorem fap23_3 : apT Try.prog 23 3 = none := by kernel_rfl
@[go_sem] theorem fap23_23 : apT Try.prog 23 23 = some (3, 24) := by kernel_rfl
@[go_sem] theorem fap34_34 : apT Try.prog 34 34 = some (1, 8) := by kernel_rfl
@[go_sem] theorem fcv3_65 (x : Int) : cvD Try.prog 3 65 (.s (.int .i64 x)) = some (.s (.int .u64 (IntKind.u64.wrap x))) := by kernel_rfl
@[go_sem] theorem fcv5_3 (x : Int) : cvD Try.prog 5 3 (.s (.int .u8 x)) = some (.s (.int .i64 (IntKind.i64.wrap x))) := by kernel_rfl
@[go_sem] theorem fcv81_5 (x : Int) : cvD Try.prog 81 5 (.s (.int .u64 x)) = some (.s (.int .u8 (IntKind.u8.wrap x))) := by kernel_rfl
@[go_sem] theorem fcv79_5 (x : Int) : cvD Try.prog 79 5 (.s (.int .u32 x)) = some (.s (.int .u8 (IntKind.u8.wrap x))) := by kernel_rfl
@[go_sem] theorem fcv65_3 (x : Int) : cvD Try.prog 65 3 (.s (.int .u64 x)) = some (.s (.int .i64 (IntKind.i64.wrap x))) := by kernel_rfl
@[go_sem] theorem fcv3_82 (x : Int) : cvD Try.prog 3 82 (.s (.int .i64 x)) = some (.s (.int .u64 (IntKind.u64.wrap x))) := by kernel_rfl
@[go_sem] theorem fcv65_79 (x : Int) : cvD Try.prog 65 79 (.s (.int .u64 x)) = some (.s (.int .u32 (IntKind.u32.wrap x))) := by kernel_rfl
end Go.Proofs.Ytenldcieoalgoaa

section
/-
  Whether pieces are a function: what the check and the law's own check give.
-/
namespace Go.Proofs.Ytenldcieoalgoaa
open Go Vm
set_option maxRecDepth 4000
set_option linter.unusedSimpArgs false
set_option linter.unusedVariables false

/-- A piece. -/
structure Ln where
  f : Int
  v : Int
  r : Int
  deriving DecidableEq
def lne (l : Ln) : List D := [.s (.int .i64 l.f), .s (.int .i64 l.v), .s (.int .i64 l.r)]
theorem lne_len (a : Ln) : (lne a).length = 3 := (rfl)
attribute [go_sem] lne_len

/-- A piece's value at a number. -/
def atF (l : Ln) (x : Int) : Int := IntKind.i64.wrap (l.v + IntKind.i64.wrap (IntKind.i64.wrap (x - l.f) * l.r))
@[go_sem] theorem at26 (l : Ln) (x : Int) : callI Try.prog cfg 26 [.g (lne l), .s (.int .i64 x)] [] = some ([.s (.int .i64 (atF l x))], []) := by
  rw [callI_eq Try.func26 rfl rfl]
  simp only [Try.f26, *, go_sem, ↓reduceIte, Nat.reduceAdd, Nat.reduceSub, Nat.reduceMul, Nat.reduceLeDiff, Nat.reduceLT, Nat.reduceEqDiff, Nat.reduceBEq, Int.reduceLT, Int.reduceLE, Int.reduceEq, Int.reduceAdd, Int.reduceNeg, Int.reduceToNat, reduceCtorEq, lne, atF]

/-- May a value be? -/
def bdF (x : Int) : Bool := decide (-4000000000000000 ≤ x) && decide (x ≤ 4000000000000000)
@[go_sem] theorem bounded27 (x : Int) : callI Try.prog cfg 27 [.s (.int .i64 x)] [] = some ([.s (.bool (bdF x))], []) := by
  rw [callI_eq Try.func27 rfl rfl]
  by_cases h : -4000000000000000 ≤ x <;> simp only [Try.f27, *, go_sem, ↓reduceIte, Nat.reduceAdd, Nat.reduceSub, Nat.reduceMul, Nat.reduceLeDiff, Nat.reduceLT, Nat.reduceEqDiff, Nat.reduceBEq, Int.reduceLT, Int.reduceLE, Int.reduceEq, Int.reduceAdd, Int.reduceNeg, Int.reduceToNat, reduceCtorEq, bdF, decide_true, decide_false, Bool.true_and, Bool.false_and]

/-- The last number of a piece, of those behind it. -/
def endF : List Ln → Int
  | [] => 10000000000
  | l :: _ => IntKind.i64.wrap (l.f - 1)
theorem end28 (xs : Sl Ln) (hlen : xs.xs.length < 9223372036854775808) (i : Nat) (hi : i < xs.xs.length) : callI Try.prog cfg 28 [xs.d lne, .s (.int .i64 (i : Int))] [] = some ([.s (.int .i64 (endF (xs.xs.drop (i + 1))))], []) := by
  rw [callI_eq Try.func28 rfl rfl]
  have hw : IntKind.i64.wrap ((i : Int) + 1) = ((i + 1 : Nat) : Int) := by rw [IntKind.wrap_i64]; omega
  by_cases h : i + 1 < xs.xs.length
  · have h2 : ((i + 1 : Nat) : Int) < (xs.xs.length : Int) := by omega
    have h3 : xs.xs[i + 1]? = some xs.xs[i + 1] := by simp [h]
    rw [List.drop_eq_getElem_cons h]
    simp only [Try.f28, *, go_sem, ↓reduceIte, Nat.reduceAdd, Nat.reduceSub, Nat.reduceMul, Nat.reduceLeDiff, Nat.reduceLT, Nat.reduceEqDiff, Nat.reduceBEq, Int.reduceLT, Int.reduceLE, Int.reduceEq, Int.reduceAdd, Int.reduceNeg, Int.reduceToNat, reduceCtorEq, lne, endF]
  · have h2 : ¬ ((i + 1 : Nat) : Int) < (xs.xs.length : Int) := by omega
    rw [List.drop_eq_nil_of_le (by omega)]
    simp only [Try.f28, *, go_sem, ↓reduceIte, Nat.reduceAdd, Nat.reduceSub, Nat.reduceMul, Nat.reduceLeDiff, Nat.reduceLT, Nat.reduceEqDiff, Nat.reduceBEq, Int.reduceLT, Int.reduceLE, Int.reduceEq, Int.reduceAdd, Int.reduceNeg, Int.reduceToNat, reduceCtorEq, lne, endF]

/-- The first look: from 0 on, rising, of rates that may be. -/
def ckA : Option Int → List Ln → Int
  | _, [] => 0
  | p, a :: r => if a.f < 0 then 1 else if 10000000000 < a.f then 1 else if p = none ∧ a.f ≠ 0 then 1 else if (∃ q, p = some q ∧ a.f ≤ q) then 6 else if 40000 < a.r then 50 else if a.r < -40000 then 50 else ckA (some a.f) r
/-- The second look: values that may be. -/
def ckB : List Ln → Int
  | [] => 0
  | a :: r => if bdF a.v = true then (if bdF (atF a (endF r)) = true then ckB r else 10) else 10
def ckF (xs : List Ln) : Int := if xs.length = 0 then 2 else if 256 < xs.length then 2 else if ckA none xs = 0 then ckB xs else ckA none xs

theorem ckA_none (a : Ln) (r : List Ln) : ckA none (a :: r) = if a.f < 0 then 1 else if 10000000000 < a.f then 1 else if a.f = 0 then (if 40000 < a.r then 50 else if a.r < -40000 then 50 else ckA (some a.f) r) else 1 := by
  by_cases h : a.f = 0 <;> simp [ckA, h]
theorem ckA_some (q : Int) (a : Ln) (r : List Ln) : ckA (some q) (a :: r) = if a.f < 0 then 1 else if 10000000000 < a.f then 1 else if a.f ≤ q then 6 else if 40000 < a.r then 50 else if a.r < -40000 then 50 else ckA (some a.f) r := by
  simp [ckA]
theorem ckA_nil (p : Option Int) : ckA p [] = 0 := (rfl)
/-- What stands ahead. -/
def Ah (xs : List Ln) (i : Nat) (p : Option Int) : Prop := (i = 0 ∧ p = none) ∨ ∃ j l, i = j + 1 ∧ xs[j]? = some l ∧ p = some l.f

@[go_sem] theorem check12 (xs : Sl Ln) (hlen : xs.xs.length < 9223372036854775808) : callI Try.prog cfg 12 [xs.d lne] [] = some ([.s (.int .i64 (ckF xs.xs))], []) := by
  rw [callI_eq Try.func12 rfl rfl]
  by_cases hn : xs.xs.length = 0
  · have hn2 : ((xs.xs.length : Nat) : Int) = 0 := by omega
    simp only [Try.f12, *, go_sem, ↓reduceIte, Nat.reduceAdd, Nat.reduceSub, Nat.reduceMul, Nat.reduceLeDiff, Nat.reduceLT, Nat.reduceEqDiff, Nat.reduceBEq, Int.reduceLT, Int.reduceLE, Int.reduceEq, Int.reduceAdd, Int.reduceNeg, Int.reduceToNat, reduceCtorEq, ckF]
  have hn2 : ¬ ((xs.xs.length : Nat) : Int) = 0 := by omega
  by_cases hm : 256 < xs.xs.length
  · have hm2 : 256 < ((xs.xs.length : Nat) : Int) := by omega
    simp only [Try.f12, *, go_sem, ↓reduceIte, Nat.reduceAdd, Nat.reduceSub, Nat.reduceMul, Nat.reduceLeDiff, Nat.reduceLT, Nat.reduceEqDiff, Nat.reduceBEq, Int.reduceLT, Int.reduceLE, Int.reduceEq, Int.reduceAdd, Int.reduceNeg, Int.reduceToNat, reduceCtorEq, ckF]
  have hm2 : ¬ 256 < ((xs.xs.length : Nat) : Int) := by omega
  simp only [Try.f12, *, go_sem, ↓reduceIte, Nat.reduceAdd, Nat.reduceSub, Nat.reduceMul, Nat.reduceLeDiff, Nat.reduceLT, Nat.reduceEqDiff, Nat.reduceBEq, Int.reduceLT, Int.reduceLE, Int.reduceEq, Int.reduceAdd, Int.reduceNeg, Int.reduceToNat, reduceCtorEq]
  generalize hx : exe _ _ _ (.loop _) _ = r
  obtain ⟨z, s1, rfl, hp⟩ := list_use hx (head0 _ _) xs.xs hlen
    (fun i (p : Option Int) st => rdT st.tm 17 = .s (.int .i64 (i : Int)) ∧ rdT st.tm 16 = .s (.int .i64 (xs.xs.length : Int)) ∧ rdT st.tm 15 = xs.d lne ∧ rdT st.tm 0 = xs.d lne ∧ Ah xs.xs i p)
    ckA (fun r x st2 => (x = .exit 0 ∧ r = 0 ∧ rdT st2.tm 0 = xs.d lne) ∨ (x = .ret ∧ ¬ r = 0 ∧ rdT st2.tm 2 = .s (.int .i64 r))) none
    (by simp only [*, go_sem, ↓reduceIte, Nat.reduceAdd, Nat.reduceSub, Nat.reduceMul, Nat.reduceLeDiff, Nat.reduceLT, Nat.reduceEqDiff, Nat.reduceBEq, Int.reduceLT, Int.reduceLE, Int.reduceEq, Int.reduceAdd, Int.reduceNeg, Int.reduceToNat, reduceCtorEq, Ah]) (by
      clear hx hn hn2 hm hm2
      rintro i p st a rest ha hd hlt hw ⟨h17, h16, h15, h0, hA⟩
      have hn : Ah xs.xs (i + 1) (some a.f) := .inr ⟨i, a, rfl, ha, rfl⟩
      rcases hA with ⟨e0, rfl⟩ | ⟨j, l, rfl, hl, rfl⟩
      · have e1 : ¬ 0 < (i : Int) := by omega
        replace e0 : ((i : Int) = 0) = True := eq_true (by omega)
        by_cases c1 : a.f < 0
        · simp only [*, go_sem, ↓reduceIte, Nat.reduceAdd, Nat.reduceSub, Nat.reduceMul, Nat.reduceLeDiff, Nat.reduceLT, Nat.reduceEqDiff, Nat.reduceBEq, Int.reduceLT, Int.reduceLE, Int.reduceEq, Int.reduceAdd, Int.reduceNeg, Int.reduceToNat, reduceCtorEq, lne, ckA_none]
        by_cases c2 : 10000000000 < a.f
        · simp only [*, go_sem, ↓reduceIte, Nat.reduceAdd, Nat.reduceSub, Nat.reduceMul, Nat.reduceLeDiff, Nat.reduceLT, Nat.reduceEqDiff, Nat.reduceBEq, Int.reduceLT, Int.reduceLE, Int.reduceEq, Int.reduceAdd, Int.reduceNeg, Int.reduceToNat, reduceCtorEq, lne, ckA_none]
        by_cases c3 : a.f = 0
        · have c0 := c3
          replace c3 := eq_true c3
          clear c0
          by_cases c4 : 40000 < a.r
          · simp only [*, go_sem, ↓reduceIte, Nat.reduceAdd, Nat.reduceSub, Nat.reduceMul, Nat.reduceLeDiff, Nat.reduceLT, Nat.reduceEqDiff, Nat.reduceBEq, Int.reduceLT, Int.reduceLE, Int.reduceEq, Int.reduceAdd, Int.reduceNeg, Int.reduceToNat, reduceCtorEq, lne, ckA_none]
          by_cases c5 : a.r < -40000
          · simp only [*, go_sem, ↓reduceIte, Nat.reduceAdd, Nat.reduceSub, Nat.reduceMul, Nat.reduceLeDiff, Nat.reduceLT, Nat.reduceEqDiff, Nat.reduceBEq, Int.reduceLT, Int.reduceLE, Int.reduceEq, Int.reduceAdd, Int.reduceNeg, Int.reduceToNat, reduceCtorEq, lne, ckA_none]
          simp only [*, go_sem, ↓reduceIte, Nat.reduceAdd, Nat.reduceSub, Nat.reduceMul, Nat.reduceLeDiff, Nat.reduceLT, Nat.reduceEqDiff, Nat.reduceBEq, Int.reduceLT, Int.reduceLE, Int.reduceEq, Int.reduceAdd, Int.reduceNeg, Int.reduceToNat, reduceCtorEq, lne, ckA_none]
          exact ⟨_, hn, rfl⟩
        · simp only [*, go_sem, ↓reduceIte, Nat.reduceAdd, Nat.reduceSub, Nat.reduceMul, Nat.reduceLeDiff, Nat.reduceLT, Nat.reduceEqDiff, Nat.reduceBEq, Int.reduceLT, Int.reduceLE, Int.reduceEq, Int.reduceAdd, Int.reduceNeg, Int.reduceToNat, reduceCtorEq, lne, ckA_none]
      · have e1 : IntKind.i64.wrap (((j + 1 : Nat) : Int) - 1) = (j : Int) := by rw [IntKind.wrap_i64]; omega
        have e2 : ¬ ((j + 1 : Nat) : Int) = 0 := by omega
        have e3 : 0 < ((j + 1 : Nat) : Int) := by omega
        by_cases c1 : a.f < 0
        · simp only [*, go_sem, ↓reduceIte, Nat.reduceAdd, Nat.reduceSub, Nat.reduceMul, Nat.reduceLeDiff, Nat.reduceLT, Nat.reduceEqDiff, Nat.reduceBEq, Int.reduceLT, Int.reduceLE, Int.reduceEq, Int.reduceAdd, Int.reduceNeg, Int.reduceToNat, reduceCtorEq, lne, ckA_some]
        by_cases c2 : 10000000000 < a.f
        · simp only [*, go_sem, ↓reduceIte, Nat.reduceAdd, Nat.reduceSub, Nat.reduceMul, Nat.reduceLeDiff, Nat.reduceLT, Nat.reduceEqDiff, Nat.reduceBEq, Int.reduceLT, Int.reduceLE, Int.reduceEq, Int.reduceAdd, Int.reduceNeg, Int.reduceToNat, reduceCtorEq, lne, ckA_some]
        by_cases c3 : a.f ≤ l.f
        · simp only [*, go_sem, ↓reduceIte, Nat.reduceAdd, Nat.reduceSub, Nat.reduceMul, Nat.reduceLeDiff, Nat.reduceLT, Nat.reduceEqDiff, Nat.reduceBEq, Int.reduceLT, Int.reduceLE, Int.reduceEq, Int.reduceAdd, Int.reduceNeg, Int.reduceToNat, reduceCtorEq, lne, ckA_some]
        by_cases c4 : 40000 < a.r
        · simp only [*, go_sem, ↓reduceIte, Nat.reduceAdd, Nat.reduceSub, Nat.reduceMul, Nat.reduceLeDiff, Nat.reduceLT, Nat.reduceEqDiff, Nat.reduceBEq, Int.reduceLT, Int.reduceLE, Int.reduceEq, Int.reduceAdd, Int.reduceNeg, Int.reduceToNat, reduceCtorEq, lne, ckA_some]
        by_cases c5 : a.r < -40000
        · simp only [*, go_sem, ↓reduceIte, Nat.reduceAdd, Nat.reduceSub, Nat.reduceMul, Nat.reduceLeDiff, Nat.reduceLT, Nat.reduceEqDiff, Nat.reduceBEq, Int.reduceLT, Int.reduceLE, Int.reduceEq, Int.reduceAdd, Int.reduceNeg, Int.reduceToNat, reduceCtorEq, lne, ckA_some]
        simp only [*, go_sem, ↓reduceIte, Nat.reduceAdd, Nat.reduceSub, Nat.reduceMul, Nat.reduceLeDiff, Nat.reduceLT, Nat.reduceEqDiff, Nat.reduceBEq, Int.reduceLT, Int.reduceLE, Int.reduceEq, Int.reduceAdd, Int.reduceNeg, Int.reduceToNat, reduceCtorEq, lne, ckA_some]
        exact ⟨_, hn, rfl⟩)
    (by
      clear hx
      rintro p st ⟨h17, h16, h15, h0, hA⟩
      simp only [*, go_sem, ↓reduceIte, Nat.reduceAdd, Nat.reduceSub, Nat.reduceMul, Nat.reduceLeDiff, Nat.reduceLT, Nat.reduceEqDiff, Nat.reduceBEq, Int.reduceLT, Int.reduceLE, Int.reduceEq, Int.reduceAdd, Int.reduceNeg, Int.reduceToNat, reduceCtorEq, Int.lt_irrefl, ckA_nil])
  clear hx
  rcases hp with ⟨rfl, h1, h2⟩ | ⟨rfl, h1, h2⟩
  case inr => simp only [*, go_sem, ↓reduceIte, Nat.reduceAdd, Nat.reduceSub, Nat.reduceMul, Nat.reduceLeDiff, Nat.reduceLT, Nat.reduceEqDiff, Nat.reduceBEq, Int.reduceLT, Int.reduceLE, Int.reduceEq, Int.reduceAdd, Int.reduceNeg, Int.reduceToNat, reduceCtorEq, ckF]
  simp only [*, go_sem, ↓reduceIte, Nat.reduceAdd, Nat.reduceSub, Nat.reduceMul, Nat.reduceLeDiff, Nat.reduceLT, Nat.reduceEqDiff, Nat.reduceBEq, Int.reduceLT, Int.reduceLE, Int.reduceEq, Int.reduceAdd, Int.reduceNeg, Int.reduceToNat, reduceCtorEq]
  generalize hx : exe _ _ _ (.loop _) _ = r
  obtain ⟨z, s2, rfl, hp⟩ := list_use hx (head0 _ _) xs.xs hlen
    (fun i (_ : Unit) st => rdT st.tm 66 = .s (.int .i64 (i : Int)) ∧ rdT st.tm 65 = .s (.int .i64 (xs.xs.length : Int)) ∧ rdT st.tm 64 = xs.d lne ∧ rdT st.tm 0 = xs.d lne)
    (fun _ l => ckB l) (fun r x st2 => (x = .exit 3 ∧ r = 0) ∨ (x = .ret ∧ r = 10 ∧ rdT st2.tm 2 = .s (.int .i64 10))) ()
    (by simp only [*, go_sem, ↓reduceIte, Nat.reduceAdd, Nat.reduceSub, Nat.reduceMul, Nat.reduceLeDiff, Nat.reduceLT, Nat.reduceEqDiff, Nat.reduceBEq, Int.reduceLT, Int.reduceLE, Int.reduceEq, Int.reduceAdd, Int.reduceNeg, Int.reduceToNat, reduceCtorEq]) (by
      clear hx h1 h2 hn hn2 hm hm2
      rintro i _ st a rest ha hd hlt hw ⟨h17, h16, h15, h0⟩
      have hi : i < xs.xs.length := by omega
      have k := end28 xs hlen i hi
      have hd2 : xs.xs.drop (i + 1) = rest := by rw [← List.drop_drop, hd]; rfl
      rw [hd2] at k
      have ke := at26 a (endF rest)
      simp only [lne] at ke
      by_cases c1 : bdF a.v = true
      · by_cases c2 : bdF (atF a (endF rest)) = true
        · simp only [*, go_sem, ↓reduceIte, Nat.reduceAdd, Nat.reduceSub, Nat.reduceMul, Nat.reduceLeDiff, Nat.reduceLT, Nat.reduceEqDiff, Nat.reduceBEq, Int.reduceLT, Int.reduceLE, Int.reduceEq, Int.reduceAdd, Int.reduceNeg, Int.reduceToNat, reduceCtorEq, lne, ckB]
        · simp only [*, go_sem, ↓reduceIte, Nat.reduceAdd, Nat.reduceSub, Nat.reduceMul, Nat.reduceLeDiff, Nat.reduceLT, Nat.reduceEqDiff, Nat.reduceBEq, Int.reduceLT, Int.reduceLE, Int.reduceEq, Int.reduceAdd, Int.reduceNeg, Int.reduceToNat, reduceCtorEq, lne, ckB]
      · simp only [*, go_sem, ↓reduceIte, Nat.reduceAdd, Nat.reduceSub, Nat.reduceMul, Nat.reduceLeDiff, Nat.reduceLT, Nat.reduceEqDiff, Nat.reduceBEq, Int.reduceLT, Int.reduceLE, Int.reduceEq, Int.reduceAdd, Int.reduceNeg, Int.reduceToNat, reduceCtorEq, lne, ckB])
    (by
      clear hx
      rintro p st ⟨h17, h16, h15, h0⟩
      simp only [*, go_sem, ↓reduceIte, Nat.reduceAdd, Nat.reduceSub, Nat.reduceMul, Nat.reduceLeDiff, Nat.reduceLT, Nat.reduceEqDiff, Nat.reduceBEq, Int.reduceLT, Int.reduceLE, Int.reduceEq, Int.reduceAdd, Int.reduceNeg, Int.reduceToNat, reduceCtorEq, Int.lt_irrefl, ckB])
  clear hx
  rcases hp with ⟨rfl, h1⟩ | ⟨rfl, h1, h2⟩ <;> simp only [*, go_sem, ↓reduceIte, Nat.reduceAdd, Nat.reduceSub, Nat.reduceMul, Nat.reduceLeDiff, Nat.reduceLT, Nat.reduceEqDiff, Nat.reduceBEq, Int.reduceLT, Int.reduceLE, Int.reduceEq, Int.reduceAdd, Int.reduceNeg, Int.reduceToNat, reduceCtorEq, ckF]

end Go.Proofs.Ytenldcieoalgoaa
end

section
/-
  The law's own check of pieces; the law's own value at a number.
-/
namespace Go.Proofs.Ytenldcieoalgoaa
open Go Vm
set_option maxRecDepth 4000
set_option linter.unusedSimpArgs false
set_option linter.unusedVariables false

theorem bdF_hi {x : Int} (h : 4000000000000000 < x) : bdF x = false := by simp [bdF]; omega
theorem bdF_lo {x : Int} (h : x < -4000000000000000) : bdF x = false := by simp [bdF]; omega
theorem bdF_ok {x : Int} (h : ¬ 4000000000000000 < x) (h2 : ¬ x < -4000000000000000) : bdF x = true := by simp [bdF]; omega

@[go_sem] theorem wrong10 (xs : Sl Ln) (hlen : xs.xs.length < 9223372036854775808) : callI Try.prog cfg 10 [xs.d lne] [] = some ([.s (.int .i64 (ckF xs.xs))], []) := by
  rw [callI_eq Try.func10 rfl rfl]
  by_cases hn : xs.xs.length = 0
  · have hn2 : ((xs.xs.length : Nat) : Int) < 1 := by omega
    simp only [Try.f10, *, go_sem, ↓reduceIte, Nat.reduceAdd, Nat.reduceSub, Nat.reduceMul, Nat.reduceLeDiff, Nat.reduceLT, Nat.reduceEqDiff, Nat.reduceBEq, Int.reduceLT, Int.reduceLE, Int.reduceEq, Int.reduceAdd, Int.reduceNeg, Int.reduceToNat, reduceCtorEq, ckF]
  have hn2 : ¬ ((xs.xs.length : Nat) : Int) < 1 := by omega
  by_cases hm : 256 < xs.xs.length
  · have hm2 : 256 < ((xs.xs.length : Nat) : Int) := by omega
    simp only [Try.f10, *, go_sem, ↓reduceIte, Nat.reduceAdd, Nat.reduceSub, Nat.reduceMul, Nat.reduceLeDiff, Nat.reduceLT, Nat.reduceEqDiff, Nat.reduceBEq, Int.reduceLT, Int.reduceLE, Int.reduceEq, Int.reduceAdd, Int.reduceNeg, Int.reduceToNat, reduceCtorEq, ckF]
  have hm2 : ¬ 256 < ((xs.xs.length : Nat) : Int) := by omega
  simp only [Try.f10, *, go_sem, ↓reduceIte, Nat.reduceAdd, Nat.reduceSub, Nat.reduceMul, Nat.reduceLeDiff, Nat.reduceLT, Nat.reduceEqDiff, Nat.reduceBEq, Int.reduceLT, Int.reduceLE, Int.reduceEq, Int.reduceAdd, Int.reduceNeg, Int.reduceToNat, reduceCtorEq]
  generalize hx : exe _ _ _ (.loop _) _ = r
  obtain ⟨z, s1, rfl, hp⟩ := list_use hx (head0 _ _) xs.xs hlen
    (fun i (p : Option Int) st => rdT st.tm 20 = .s (.int .i64 (i : Int)) ∧ rdT st.tm 19 = .s (.int .i64 (xs.xs.length : Int)) ∧ rdT st.tm 18 = xs.d lne ∧ rdT st.tm 0 = xs.d lne ∧ Ah xs.xs i p)
    ckA (fun r x st2 => (x = .exit 0 ∧ r = 0 ∧ rdT st2.tm 0 = xs.d lne) ∨ (x = .ret ∧ ¬ r = 0 ∧ rdT st2.tm 2 = .s (.int .i64 r))) none
    (by simp only [*, go_sem, ↓reduceIte, Nat.reduceAdd, Nat.reduceSub, Nat.reduceMul, Nat.reduceLeDiff, Nat.reduceLT, Nat.reduceEqDiff, Nat.reduceBEq, Int.reduceLT, Int.reduceLE, Int.reduceEq, Int.reduceAdd, Int.reduceNeg, Int.reduceToNat, reduceCtorEq, Ah]) (by
      clear hx hn hn2 hm hm2
      rintro i p st a rest ha hd hlt hw ⟨h17, h16, h15, h0, hA⟩
      have hn : Ah xs.xs (i + 1) (some a.f) := .inr ⟨i, a, rfl, ha, rfl⟩
      rcases hA with ⟨e0, rfl⟩ | ⟨j, l, rfl, hl, rfl⟩
      · have e1 : ¬ 0 < (i : Int) := by omega
        replace e0 : ((i : Int) = 0) = True := eq_true (by omega)
        by_cases c1 : a.f < 0
        · simp only [*, go_sem, ↓reduceIte, Nat.reduceAdd, Nat.reduceSub, Nat.reduceMul, Nat.reduceLeDiff, Nat.reduceLT, Nat.reduceEqDiff, Nat.reduceBEq, Int.reduceLT, Int.reduceLE, Int.reduceEq, Int.reduceAdd, Int.reduceNeg, Int.reduceToNat, reduceCtorEq, lne, ckA_none]
        by_cases c2 : 10000000000 < a.f
        · simp only [*, go_sem, ↓reduceIte, Nat.reduceAdd, Nat.reduceSub, Nat.reduceMul, Nat.reduceLeDiff, Nat.reduceLT, Nat.reduceEqDiff, Nat.reduceBEq, Int.reduceLT, Int.reduceLE, Int.reduceEq, Int.reduceAdd, Int.reduceNeg, Int.reduceToNat, reduceCtorEq, lne, ckA_none]
        by_cases c3 : a.f = 0
        · have c0 := c3
          replace c3 := eq_true c3
          clear c0
          by_cases c4 : 40000 < a.r
          · simp only [*, go_sem, ↓reduceIte, Nat.reduceAdd, Nat.reduceSub, Nat.reduceMul, Nat.reduceLeDiff, Nat.reduceLT, Nat.reduceEqDiff, Nat.reduceBEq, Int.reduceLT, Int.reduceLE, Int.reduceEq, Int.reduceAdd, Int.reduceNeg, Int.reduceToNat, reduceCtorEq, lne, ckA_none]
          by_cases c5 : a.r < -40000
          · simp only [*, go_sem, ↓reduceIte, Nat.reduceAdd, Nat.reduceSub, Nat.reduceMul, Nat.reduceLeDiff, Nat.reduceLT, Nat.reduceEqDiff, Nat.reduceBEq, Int.reduceLT, Int.reduceLE, Int.reduceEq, Int.reduceAdd, Int.reduceNeg, Int.reduceToNat, reduceCtorEq, lne, ckA_none]
          simp only [*, go_sem, ↓reduceIte, Nat.reduceAdd, Nat.reduceSub, Nat.reduceMul, Nat.reduceLeDiff, Nat.reduceLT, Nat.reduceEqDiff, Nat.reduceBEq, Int.reduceLT, Int.reduceLE, Int.reduceEq, Int.reduceAdd, Int.reduceNeg, Int.reduceToNat, reduceCtorEq, lne, ckA_none]
          exact ⟨_, hn, rfl⟩
        · simp only [*, go_sem, ↓reduceIte, Nat.reduceAdd, Nat.reduceSub, Nat.reduceMul, Nat.reduceLeDiff, Nat.reduceLT, Nat.reduceEqDiff, Nat.reduceBEq, Int.reduceLT, Int.reduceLE, Int.reduceEq, Int.reduceAdd, Int.reduceNeg, Int.reduceToNat, reduceCtorEq, lne, ckA_none]
      · have e1 : IntKind.i64.wrap (((j + 1 : Nat) : Int) - 1) = (j : Int) := by rw [IntKind.wrap_i64]; omega
        have e2 : ¬ ((j + 1 : Nat) : Int) = 0 := by omega
        have e3 : 0 < ((j + 1 : Nat) : Int) := by omega
        by_cases c1 : a.f < 0
        · simp only [*, go_sem, ↓reduceIte, Nat.reduceAdd, Nat.reduceSub, Nat.reduceMul, Nat.reduceLeDiff, Nat.reduceLT, Nat.reduceEqDiff, Nat.reduceBEq, Int.reduceLT, Int.reduceLE, Int.reduceEq, Int.reduceAdd, Int.reduceNeg, Int.reduceToNat, reduceCtorEq, lne, ckA_some]
        by_cases c2 : 10000000000 < a.f
        · simp only [*, go_sem, ↓reduceIte, Nat.reduceAdd, Nat.reduceSub, Nat.reduceMul, Nat.reduceLeDiff, Nat.reduceLT, Nat.reduceEqDiff, Nat.reduceBEq, Int.reduceLT, Int.reduceLE, Int.reduceEq, Int.reduceAdd, Int.reduceNeg, Int.reduceToNat, reduceCtorEq, lne, ckA_some]
        by_cases c3 : a.f ≤ l.f
        · simp only [*, go_sem, ↓reduceIte, Nat.reduceAdd, Nat.reduceSub, Nat.reduceMul, Nat.reduceLeDiff, Nat.reduceLT, Nat.reduceEqDiff, Nat.reduceBEq, Int.reduceLT, Int.reduceLE, Int.reduceEq, Int.reduceAdd, Int.reduceNeg, Int.reduceToNat, reduceCtorEq, lne, ckA_some]
        by_cases c4 : 40000 < a.r
        · simp only [*, go_sem, ↓reduceIte, Nat.reduceAdd, Nat.reduceSub, Nat.reduceMul, Nat.reduceLeDiff, Nat.reduceLT, Nat.reduceEqDiff, Nat.reduceBEq, Int.reduceLT, Int.reduceLE, Int.reduceEq, Int.reduceAdd, Int.reduceNeg, Int.reduceToNat, reduceCtorEq, lne, ckA_some]
        by_cases c5 : a.r < -40000
        · simp only [*, go_sem, ↓reduceIte, Nat.reduceAdd, Nat.reduceSub, Nat.reduceMul, Nat.reduceLeDiff, Nat.reduceLT, Nat.reduceEqDiff, Nat.reduceBEq, Int.reduceLT, Int.reduceLE, Int.reduceEq, Int.reduceAdd, Int.reduceNeg, Int.reduceToNat, reduceCtorEq, lne, ckA_some]
        simp only [*, go_sem, ↓reduceIte, Nat.reduceAdd, Nat.reduceSub, Nat.reduceMul, Nat.reduceLeDiff, Nat.reduceLT, Nat.reduceEqDiff, Nat.reduceBEq, Int.reduceLT, Int.reduceLE, Int.reduceEq, Int.reduceAdd, Int.reduceNeg, Int.reduceToNat, reduceCtorEq, lne, ckA_some]
        exact ⟨_, hn, rfl⟩)
    (by
      clear hx
      rintro p st ⟨h17, h16, h15, h0, hA⟩
      simp only [*, go_sem, ↓reduceIte, Nat.reduceAdd, Nat.reduceSub, Nat.reduceMul, Nat.reduceLeDiff, Nat.reduceLT, Nat.reduceEqDiff, Nat.reduceBEq, Int.reduceLT, Int.reduceLE, Int.reduceEq, Int.reduceAdd, Int.reduceNeg, Int.reduceToNat, reduceCtorEq, Int.lt_irrefl, ckA_nil])
  clear hx
  rcases hp with ⟨rfl, h1, h2⟩ | ⟨rfl, h1, h2⟩
  case inr => simp only [*, go_sem, ↓reduceIte, Nat.reduceAdd, Nat.reduceSub, Nat.reduceMul, Nat.reduceLeDiff, Nat.reduceLT, Nat.reduceEqDiff, Nat.reduceBEq, Int.reduceLT, Int.reduceLE, Int.reduceEq, Int.reduceAdd, Int.reduceNeg, Int.reduceToNat, reduceCtorEq, ckF]
  simp only [*, go_sem, ↓reduceIte, Nat.reduceAdd, Nat.reduceSub, Nat.reduceMul, Nat.reduceLeDiff, Nat.reduceLT, Nat.reduceEqDiff, Nat.reduceBEq, Int.reduceLT, Int.reduceLE, Int.reduceEq, Int.reduceAdd, Int.reduceNeg, Int.reduceToNat, reduceCtorEq]
  generalize hx : exe _ _ _ (.loop _) _ = r
  obtain ⟨z, s2, rfl, hp⟩ := list_use hx (head0 _ _) xs.xs hlen
    (fun i (_ : Unit) st => rdT st.tm 66 = .s (.int .i64 (i : Int)) ∧ rdT st.tm 65 = .s (.int .i64 (xs.xs.length : Int)) ∧ rdT st.tm 64 = xs.d lne ∧ rdT st.tm 0 = xs.d lne)
    (fun _ l => ckB l) (fun r x st2 => (x = .exit 2 ∧ r = 0) ∨ (x = .ret ∧ r = 10 ∧ rdT st2.tm 2 = .s (.int .i64 10))) ()
    (by simp only [*, go_sem, ↓reduceIte, Nat.reduceAdd, Nat.reduceSub, Nat.reduceMul, Nat.reduceLeDiff, Nat.reduceLT, Nat.reduceEqDiff, Nat.reduceBEq, Int.reduceLT, Int.reduceLE, Int.reduceEq, Int.reduceAdd, Int.reduceNeg, Int.reduceToNat, reduceCtorEq]) (by
      clear hx h1 h2 hn hn2 hm hm2
      rintro i _ st a rest ha hd hlt hw ⟨h17, h16, h15, h0⟩
      have hl : xs.xs.length = i + 1 + rest.length := by
        have := congrArg List.length hd
        simp at this
        omega
      have hw1 : IntKind.i64.wrap (-4000000000000000) = -4000000000000000 := by decide
      cases rest with
      | nil =>
        have h4 : ¬ ((i + 1 : Nat) : Int) < (xs.xs.length : Int) := by simp at hl; omega
        clear hl
        by_cases c1 : 4000000000000000 < a.v
        · have b1 := bdF_hi c1
          simp only [*, go_sem, ↓reduceIte, Nat.reduceAdd, Nat.reduceSub, Nat.reduceMul, Nat.reduceLeDiff, Nat.reduceLT, Nat.reduceEqDiff, Nat.reduceBEq, Int.reduceLT, Int.reduceLE, Int.reduceEq, Int.reduceAdd, Int.reduceNeg, Int.reduceToNat, reduceCtorEq, lne, ckB]
        by_cases c2 : a.v < -4000000000000000
        · have b1 := bdF_lo c2
          simp only [*, go_sem, ↓reduceIte, Nat.reduceAdd, Nat.reduceSub, Nat.reduceMul, Nat.reduceLeDiff, Nat.reduceLT, Nat.reduceEqDiff, Nat.reduceBEq, Int.reduceLT, Int.reduceLE, Int.reduceEq, Int.reduceAdd, Int.reduceNeg, Int.reduceToNat, reduceCtorEq, lne, ckB]
        have b1 := bdF_ok c1 c2
        by_cases c3 : 4000000000000000 < atF a (endF [])
        · have b2 := bdF_hi c3
          simp only [atF, endF] at c3 b2
          simp only [*, go_sem, ↓reduceIte, Nat.reduceAdd, Nat.reduceSub, Nat.reduceMul, Nat.reduceLeDiff, Nat.reduceLT, Nat.reduceEqDiff, Nat.reduceBEq, Int.reduceLT, Int.reduceLE, Int.reduceEq, Int.reduceAdd, Int.reduceNeg, Int.reduceToNat, reduceCtorEq, lne, ckB, atF, endF]
        by_cases c4 : atF a (endF []) < -4000000000000000
        · have b2 := bdF_lo c4
          simp only [atF, endF] at c3 b2 c4
          simp only [*, go_sem, ↓reduceIte, Nat.reduceAdd, Nat.reduceSub, Nat.reduceMul, Nat.reduceLeDiff, Nat.reduceLT, Nat.reduceEqDiff, Nat.reduceBEq, Int.reduceLT, Int.reduceLE, Int.reduceEq, Int.reduceAdd, Int.reduceNeg, Int.reduceToNat, reduceCtorEq, lne, ckB, atF, endF]
        have b2 := bdF_ok c3 c4
        simp only [atF, endF] at c3 b2 c4
        simp only [*, go_sem, ↓reduceIte, Nat.reduceAdd, Nat.reduceSub, Nat.reduceMul, Nat.reduceLeDiff, Nat.reduceLT, Nat.reduceEqDiff, Nat.reduceBEq, Int.reduceLT, Int.reduceLE, Int.reduceEq, Int.reduceAdd, Int.reduceNeg, Int.reduceToNat, reduceCtorEq, lne, ckB, atF, endF]
      | cons b rest =>
        have h4 : ((i + 1 : Nat) : Int) < (xs.xs.length : Int) := by simp at hl; omega
        have h5 : xs.xs[i + 1]? = some b := by
          have : (xs.xs.drop i)[1]? = some b := by rw [hd]; rfl
          simpa using this
        clear hl
        by_cases c1 : 4000000000000000 < a.v
        · have b1 := bdF_hi c1
          simp only [*, go_sem, ↓reduceIte, Nat.reduceAdd, Nat.reduceSub, Nat.reduceMul, Nat.reduceLeDiff, Nat.reduceLT, Nat.reduceEqDiff, Nat.reduceBEq, Int.reduceLT, Int.reduceLE, Int.reduceEq, Int.reduceAdd, Int.reduceNeg, Int.reduceToNat, reduceCtorEq, lne, ckB]
        by_cases c2 : a.v < -4000000000000000
        · have b1 := bdF_lo c2
          simp only [*, go_sem, ↓reduceIte, Nat.reduceAdd, Nat.reduceSub, Nat.reduceMul, Nat.reduceLeDiff, Nat.reduceLT, Nat.reduceEqDiff, Nat.reduceBEq, Int.reduceLT, Int.reduceLE, Int.reduceEq, Int.reduceAdd, Int.reduceNeg, Int.reduceToNat, reduceCtorEq, lne, ckB]
        have b1 := bdF_ok c1 c2
        by_cases c3 : 4000000000000000 < atF a (endF (b :: rest))
        · have b2 := bdF_hi c3
          simp only [atF, endF] at c3 b2
          simp only [*, go_sem, ↓reduceIte, Nat.reduceAdd, Nat.reduceSub, Nat.reduceMul, Nat.reduceLeDiff, Nat.reduceLT, Nat.reduceEqDiff, Nat.reduceBEq, Int.reduceLT, Int.reduceLE, Int.reduceEq, Int.reduceAdd, Int.reduceNeg, Int.reduceToNat, reduceCtorEq, lne, ckB, atF, endF]
        by_cases c4 : atF a (endF (b :: rest)) < -4000000000000000
        · have b2 := bdF_lo c4
          simp only [atF, endF] at c3 b2 c4
          simp only [*, go_sem, ↓reduceIte, Nat.reduceAdd, Nat.reduceSub, Nat.reduceMul, Nat.reduceLeDiff, Nat.reduceLT, Nat.reduceEqDiff, Nat.reduceBEq, Int.reduceLT, Int.reduceLE, Int.reduceEq, Int.reduceAdd, Int.reduceNeg, Int.reduceToNat, reduceCtorEq, lne, ckB, atF, endF]
        have b2 := bdF_ok c3 c4
        simp only [atF, endF] at c3 b2 c4
        simp only [*, go_sem, ↓reduceIte, Nat.reduceAdd, Nat.reduceSub, Nat.reduceMul, Nat.reduceLeDiff, Nat.reduceLT, Nat.reduceEqDiff, Nat.reduceBEq, Int.reduceLT, Int.reduceLE, Int.reduceEq, Int.reduceAdd, Int.reduceNeg, Int.reduceToNat, reduceCtorEq, lne, ckB, atF, endF])
    (by
      clear hx
      rintro p st ⟨h17, h16, h15, h0⟩
      simp only [*, go_sem, ↓reduceIte, Nat.reduceAdd, Nat.reduceSub, Nat.reduceMul, Nat.reduceLeDiff, Nat.reduceLT, Nat.reduceEqDiff, Nat.reduceBEq, Int.reduceLT, Int.reduceLE, Int.reduceEq, Int.reduceAdd, Int.reduceNeg, Int.reduceToNat, reduceCtorEq, Int.lt_irrefl, ckB])
  clear hx
  rcases hp with ⟨rfl, h1⟩ | ⟨rfl, h1, h2⟩ <;> simp only [*, go_sem, ↓reduceIte, Nat.reduceAdd, Nat.reduceSub, Nat.reduceMul, Nat.reduceLeDiff, Nat.reduceLT, Nat.reduceEqDiff, Nat.reduceBEq, Int.reduceLT, Int.reduceLE, Int.reduceEq, Int.reduceAdd, Int.reduceNeg, Int.reduceToNat, reduceCtorEq, ckF]

/-- A function's value at a number. -/
def atL : Int → Int → List Ln → Int
  | _, o, [] => o
  | x, o, a :: r => if a.f ≤ x then atL x (atF a x) r else atL x o r
@[go_sem] theorem at13 (xs : Sl Ln) (hlen : xs.xs.length < 9223372036854775808) (x : Int) : callI Try.prog cfg 13 [xs.d lne, .s (.int .i64 x)] [] = some ([.s (.int .i64 (atL x 0 xs.xs))], []) := by
  rw [callI_eq Try.func13 rfl rfl]
  simp only [Try.f13, *, go_sem, ↓reduceIte, Nat.reduceAdd, Nat.reduceSub, Nat.reduceMul, Nat.reduceLeDiff, Nat.reduceLT, Nat.reduceEqDiff, Nat.reduceBEq, Int.reduceLT, Int.reduceLE, Int.reduceEq, Int.reduceAdd, Int.reduceNeg, Int.reduceToNat, reduceCtorEq]
  generalize hx : exe _ _ _ (.loop _) _ = r
  obtain ⟨z, s1, rfl, hp⟩ := list_use hx (head0 _ _) xs.xs hlen
    (fun i (o : Int) st => rdT st.tm 10 = .s (.int .i64 (i : Int)) ∧ rdT st.tm 9 = .s (.int .i64 (xs.xs.length : Int)) ∧ rdT st.tm 8 = xs.d lne ∧ rdT st.tm 1 = .s (.int .i64 x) ∧ rdT st.tm 5 = .s (.int .i64 o))
    (atL x) (fun r ex st2 => ex = .exit 0 ∧ rdT st2.tm 5 = .s (.int .i64 r)) 0
    (by simp only [*, go_sem, ↓reduceIte, Nat.reduceAdd, Nat.reduceSub, Nat.reduceMul, Nat.reduceLeDiff, Nat.reduceLT, Nat.reduceEqDiff, Nat.reduceBEq, Int.reduceLT, Int.reduceLE, Int.reduceEq, Int.reduceAdd, Int.reduceNeg, Int.reduceToNat, reduceCtorEq]) (by
      clear hx
      rintro i o st a rest ha hd hlt hw ⟨h10, h9, h8, h1, h5⟩
      by_cases c : a.f ≤ x <;> simp only [*, go_sem, ↓reduceIte, Nat.reduceAdd, Nat.reduceSub, Nat.reduceMul, Nat.reduceLeDiff, Nat.reduceLT, Nat.reduceEqDiff, Nat.reduceBEq, Int.reduceLT, Int.reduceLE, Int.reduceEq, Int.reduceAdd, Int.reduceNeg, Int.reduceToNat, reduceCtorEq, lne, atL, atF]
      · exact ⟨_, rfl, rfl⟩
      · exact ⟨_, rfl, rfl⟩)
    (by
      clear hx
      rintro o st ⟨h10, h9, h8, h1, h5⟩
      simp only [*, go_sem, ↓reduceIte, Nat.reduceAdd, Nat.reduceSub, Nat.reduceMul, Nat.reduceLeDiff, Nat.reduceLT, Nat.reduceEqDiff, Nat.reduceBEq, Int.reduceLT, Int.reduceLE, Int.reduceEq, Int.reduceAdd, Int.reduceNeg, Int.reduceToNat, reduceCtorEq, Int.lt_irrefl, atL])
  clear hx
  obtain ⟨rfl, h1⟩ := hp
  simp only [*, go_sem, ↓reduceIte, Nat.reduceAdd, Nat.reduceSub, Nat.reduceMul, Nat.reduceLeDiff, Nat.reduceLT, Nat.reduceEqDiff, Nat.reduceBEq, Int.reduceLT, Int.reduceLE, Int.reduceEq, Int.reduceAdd, Int.reduceNeg, Int.reduceToNat, reduceCtorEq]

end Go.Proofs.Ytenldcieoalgoaa
end

section
/-
  In which piece a number is; the value there.
-/
namespace Go.Proofs.Ytenldcieoalgoaa
open Go Vm
set_option maxRecDepth 4000
set_option linter.unusedSimpArgs false
set_option linter.unusedVariables false

/-- How the search's step tells a piece's number from one. -/
def cmF (a x : Int) : Int := if a < x then -1 else if x < a then 1 else 0
@[go_sem] theorem find35 (l : Ln) (x : Int) : callI Try.prog cfg 35 [.g (lne l), .s (.int .i64 x)] [] = some ([.s (.int .i64 (cmF l.f x))], []) := by
  rw [callI_eq Try.func35 rfl rfl]
  by_cases h : l.f < x
  · simp only [Try.f35, *, go_sem, ↓reduceIte, Nat.reduceAdd, Nat.reduceSub, Nat.reduceMul, Nat.reduceLeDiff, Nat.reduceLT, Nat.reduceEqDiff, Nat.reduceBEq, Int.reduceLT, Int.reduceLE, Int.reduceEq, Int.reduceAdd, Int.reduceNeg, Int.reduceToNat, reduceCtorEq, lne, cmF]
  by_cases h2 : x < l.f
  · simp only [Try.f35, *, go_sem, ↓reduceIte, Nat.reduceAdd, Nat.reduceSub, Nat.reduceMul, Nat.reduceLeDiff, Nat.reduceLT, Nat.reduceEqDiff, Nat.reduceBEq, Int.reduceLT, Int.reduceLE, Int.reduceEq, Int.reduceAdd, Int.reduceNeg, Int.reduceToNat, reduceCtorEq, lne, cmF]
  simp only [Try.f35, *, go_sem, ↓reduceIte, Nat.reduceAdd, Nat.reduceSub, Nat.reduceMul, Nat.reduceLeDiff, Nat.reduceLT, Nat.reduceEqDiff, Nat.reduceBEq, Int.reduceLT, Int.reduceLE, Int.reduceEq, Int.reduceAdd, Int.reduceNeg, Int.reduceToNat, reduceCtorEq, lne, cmF]

def natT : D → Nat
  | .s (.int _ x) => x.toNat
  | _ => 0
@[go_sem] theorem natT_nat (k : IntKind) (n : Nat) : natT (.s (.int k (n : Int))) = n := by simp [natT]

/-- Where a number would stand. -/
def Lo (xs : List Ln) (x : Int) (k : Nat) : Prop := k ≤ xs.length ∧ (∀ j l, xs[j]? = some l → j < k → l.f < x) ∧ (∀ j l, xs[j]? = some l → k ≤ j → ¬ l.f < x)

def thF (xs : List Ln) (x : Int) (k : Nat) : Bool := match xs[k]? with | some l => decide (cmF l.f x = 0) | none => false

theorem search34 (xs : Sl Ln) (x : Int) (hl : xs.xs.length ≤ 256) (hs : xs.xs.Pairwise (fun a b => a.f < b.f)) : ∃ k : Nat, callI Try.prog cfg 34 [xs.d lne, .s (.int .i64 x), .f (.func 35) [] []] [] = some ([.s (.int .i64 (k : Int)), .s (.bool (thF xs.xs x k))], []) ∧ Lo xs.xs x k := by
  rw [callI_eq Try.func34 rfl rfl]
  have hmono : ∀ (i j : Nat) (a b : Ln), xs.xs[i]? = some a → xs.xs[j]? = some b → i < j → a.f < b.f := by
    intro i j a b ha hb hij
    obtain ⟨hi, rfl⟩ := List.getElem?_eq_some_iff.1 ha
    obtain ⟨hj, rfl⟩ := List.getElem?_eq_some_iff.1 hb
    exact List.pairwise_iff_getElem.1 hs i j hi hj hij
  simp only [Try.f34, *, go_sem, ↓reduceIte, Nat.reduceAdd, Nat.reduceSub, Nat.reduceMul, Nat.reduceLeDiff, Nat.reduceLT, Nat.reduceEqDiff, Nat.reduceBEq, Int.reduceLT, Int.reduceLE, Int.reduceEq, Int.reduceAdd, Int.reduceNeg, Int.reduceToNat, reduceCtorEq]
  generalize hx : exe _ _ _ (.loop _) _ = r
  obtain ⟨z, s1, rfl, hp⟩ := loop_use hx (head0 _ _)
    (fun st => ∃ lo hi : Nat, rdT st.tm 9 = .s (.int .i64 (lo : Int)) ∧ rdT st.tm 10 = .s (.int .i64 (hi : Int)) ∧ rdT st.tm 0 = xs.d lne ∧ rdT st.tm 1 = .s (.int .i64 x) ∧ rdT st.tm 2 = .f (.func 35) [] [] ∧ rdT st.tm 8 = .s (.int .i64 (xs.xs.length : Int)) ∧
      lo ≤ hi ∧ hi ≤ xs.xs.length ∧ (∀ j l, xs.xs[j]? = some l → j < lo → l.f < x) ∧ (∀ j l, xs.xs[j]? = some l → hi ≤ j → ¬ l.f < x))
    (fun st => natT (rdT st.tm 10) - natT (rdT st.tm 9))
    (fun ex st => ex = .exit 0 ∧ ∃ k : Nat, rdT st.tm 9 = .s (.int .i64 (k : Int)) ∧ rdT st.tm 0 = xs.d lne ∧ rdT st.tm 1 = .s (.int .i64 x) ∧ rdT st.tm 2 = .f (.func 35) [] [] ∧ rdT st.tm 8 = .s (.int .i64 (xs.xs.length : Int)) ∧ Lo xs.xs x k)
    ⟨0, xs.xs.length, by simp only [*, go_sem, ↓reduceIte, Nat.reduceAdd, Nat.reduceSub, Nat.reduceMul, Nat.reduceLeDiff, Nat.reduceLT, Nat.reduceEqDiff, Nat.reduceBEq, Int.reduceLT, Int.reduceLE, Int.reduceEq, Int.reduceAdd, Int.reduceNeg, Int.reduceToNat, reduceCtorEq, Nat.zero_le, Nat.le_refl, Nat.not_lt_zero, Nat.not_le]; intro j l h h2; have := (List.getElem?_eq_some_iff.1 h).1; omega⟩
    (by
      clear hx
      rintro st ⟨lo, hi, h9, h10, h0, h1, h2, h8, c1, c2, c3, c4⟩
      by_cases hlt : lo < hi
      · have e1 : (lo : Int) < (hi : Int) := by omega
        have e2 : IntKind.i64.wrap ((lo : Int) + (hi : Int)) = ((lo + hi : Nat) : Int) := by rw [IntKind.wrap_i64]; omega
        have e3 : IntKind.u64.wrap ((lo + hi : Nat) : Int) = ((lo + hi : Nat) : Int) := by rw [IntKind.wrap_u64]; omega
        have e4 : ((lo + hi : Nat) : Int) / 2 = (((lo + hi) / 2 : Nat) : Int) := by omega
        have e5 : IntKind.i64.wrap (((lo + hi) / 2 : Nat) : Int) = (((lo + hi) / 2 : Nat) : Int) := by rw [IntKind.wrap_i64]; omega
        generalize hm : (lo + hi) / 2 = m at e4 e5
        have m1 : lo ≤ m := by omega
        have m2 : m < hi := by omega
        have m3 : m < xs.xs.length := by omega
        have e6 : xs.xs[m]? = some xs.xs[m] := by simp [m3]
        generalize xs.xs[m] = l at e6
        have e7 : IntKind.i64.wrap ((m : Int) + 1) = ((m + 1 : Nat) : Int) := by rw [IntKind.wrap_i64]; omega
        have k := find35 l x
        simp only [lne] at k
        have c3' := c3
        have c4' := c4
        have cx := c2
        have hmm := hmono
        clear hm c1 c2 c3 c4 hmono hs m3 hl
        by_cases hc : l.f < x
        · have e8 : cmF l.f x < 0 := by simp [cmF, hc]
          simp only [*, go_sem, ↓reduceIte, Nat.reduceAdd, Nat.reduceSub, Nat.reduceMul, Nat.reduceLeDiff, Nat.reduceLT, Nat.reduceEqDiff, Nat.reduceBEq, Int.reduceLT, Int.reduceLE, Int.reduceEq, Int.reduceAdd, Int.reduceNeg, Int.reduceToNat, reduceCtorEq, lne]
          refine ⟨⟨m + 1, rfl, hi, rfl, ?_⟩, ?_⟩
          · refine ⟨by omega, cx, fun j a ha hj => ?_, c4'⟩
            rcases Nat.lt_or_ge j m with hjm | hjm
            · have := hmm j m a l ha e6 hjm; omega
            · have : j = m := by omega
              subst this; rw [e6] at ha; cases ha; exact hc
          · omega
        · have e8 : ¬ cmF l.f x < 0 := by unfold cmF; rw [if_neg hc]; split <;> omega
          simp only [*, go_sem, ↓reduceIte, Nat.reduceAdd, Nat.reduceSub, Nat.reduceMul, Nat.reduceLeDiff, Nat.reduceLT, Nat.reduceEqDiff, Nat.reduceBEq, Int.reduceLT, Int.reduceLE, Int.reduceEq, Int.reduceAdd, Int.reduceNeg, Int.reduceToNat, reduceCtorEq, lne]
          refine ⟨⟨lo, rfl, m, rfl, ?_⟩, ?_⟩
          · refine ⟨m1, by omega, c3', fun j a ha hj => ?_⟩
            rcases Nat.lt_or_ge m j with hjm | hjm
            · have := hmm m j l a e6 ha hjm; omega
            · have : j = m := by omega
              subst this; rw [e6] at ha; cases ha; exact hc
          · omega
      · have e1 : ¬ (lo : Int) < (hi : Int) := by omega
        have e2 : lo = hi := by omega
        subst e2
        have hL : Lo xs.xs x lo := ⟨c2, c3, c4⟩
        clear c1 c2 c3 c4 hmono hs hl
        simp only [*, go_sem, ↓reduceIte, Nat.reduceAdd, Nat.reduceSub, Nat.reduceMul, Nat.reduceLeDiff, Nat.reduceLT, Nat.reduceEqDiff, Nat.reduceBEq, Int.reduceLT, Int.reduceLE, Int.reduceEq, Int.reduceAdd, Int.reduceNeg, Int.reduceToNat, reduceCtorEq]
        exact ⟨_, rfl, hL⟩)
  clear hx
  obtain ⟨rfl, k, h9, h0, h1, h2, h8, hL⟩ := hp
  refine ⟨k, ?_, hL⟩
  clear hmono hs hl
  by_cases hk : k < xs.xs.length
  · have e1 : (k : Int) < (xs.xs.length : Int) := by omega
    have e6 : xs.xs[k]? = some xs.xs[k] := by simp [hk]
    generalize xs.xs[k] = l at e6
    have kk := find35 l x
    simp only [lne] at kk
    clear hL hk
    simp only [*, go_sem, ↓reduceIte, Nat.reduceAdd, Nat.reduceSub, Nat.reduceMul, Nat.reduceLeDiff, Nat.reduceLT, Nat.reduceEqDiff, Nat.reduceBEq, Int.reduceLT, Int.reduceLE, Int.reduceEq, Int.reduceAdd, Int.reduceNeg, Int.reduceToNat, reduceCtorEq, lne, thF]
  · have e1 : ¬ (k : Int) < (xs.xs.length : Int) := by omega
    have e2 : xs.xs[k]? = none := by simp; omega
    simp only [*, go_sem, ↓reduceIte, Nat.reduceAdd, Nat.reduceSub, Nat.reduceMul, Nat.reduceLeDiff, Nat.reduceLT, Nat.reduceEqDiff, Nat.reduceBEq, Int.reduceLT, Int.reduceLE, Int.reduceEq, Int.reduceAdd, Int.reduceNeg, Int.reduceToNat, reduceCtorEq, lne, thF]

/-- How many pieces begin no further on. -/
def cnt (x : Int) : List Ln → Nat
  | [] => 0
  | a :: r => if a.f ≤ x then cnt x r + 1 else 0
theorem cnt_of (x : Int) : ∀ (xs : List Ln) (k : Nat), k ≤ xs.length → (∀ j l, xs[j]? = some l → j < k → l.f ≤ x) → (∀ l, xs[k]? = some l → ¬ l.f ≤ x) → cnt x xs = k
  | [], k, h, _, _ => by simp at h; simp [cnt, h]
  | a :: r, 0, _, _, h => by simp [cnt, h a rfl]
  | a :: r, k + 1, h, h1, h2 => by
    have ha : a.f ≤ x := h1 0 a rfl (by omega)
    have := cnt_of x r k (by simpa using h) (fun j l hj hk => h1 (j + 1) l (by simpa using hj) (by omega)) (fun l hl => h2 l (by simpa using hl))
    simp [cnt, ha, this]
theorem cnt_le (x : Int) : ∀ xs : List Ln, cnt x xs ≤ xs.length
  | [] => by simp [cnt]
  | a :: r => by
    have := cnt_le x r
    simp only [cnt, List.length_cons]
    split <;> omega
/-- The piece in which a number is. -/
def fnd (x : Int) (xs : List Ln) : Nat := cnt x xs - 1

theorem find25 (xs : Sl Ln) (x : Int) (hl : xs.xs.length ≤ 256) (hs : xs.xs.Pairwise (fun a b => a.f < b.f)) : callI Try.prog cfg 25 [xs.d lne, .s (.int .i64 x)] [] = some ([.s (.int .i64 (fnd x xs.xs : Nat))], []) := by
  obtain ⟨k, h34, hk, h1, h2⟩ := search34 xs x hl hs
  rw [callI_eq Try.func25 rfl rfl]
  have hmono : ∀ (i j : Nat) (a b : Ln), xs.xs[i]? = some a → xs.xs[j]? = some b → i < j → a.f < b.f := by
    intro i j a b ha hb hij
    obtain ⟨hi, rfl⟩ := List.getElem?_eq_some_iff.1 ha
    obtain ⟨hj, rfl⟩ := List.getElem?_eq_some_iff.1 hb
    exact List.pairwise_iff_getElem.1 hs i j hi hj hij
  cases ht : thF xs.xs x k with
  | true =>
    have hf : fnd x xs.xs = k := by
      unfold thF at ht
      split at ht
      · rename_i l hkl
        have he : l.f = x := by
          have ht2 := of_decide_eq_true ht
          unfold cmF at ht2
          split at ht2
          · omega
          · split at ht2 <;> omega
        have hkk : k < xs.xs.length := (List.getElem?_eq_some_iff.1 hkl).1
        have := cnt_of x xs.xs (k + 1) (by omega) (fun j a ha hj => by
          rcases Nat.lt_or_ge j k with hh | hh
          · have := h1 j a ha hh; omega
          · have : j = k := by omega
            subst this; rw [hkl] at ha; cases ha; omega) (fun a ha => by
          have := hmono k (k + 1) l a hkl ha (by omega); omega)
        unfold fnd; omega
      · cases ht
    rw [hf]
    rw [ht] at h34
    clear hmono hs hl hf h1 h2
    simp only [Try.f25, *, go_sem, ↓reduceIte, Nat.reduceAdd, Nat.reduceSub, Nat.reduceMul, Nat.reduceLeDiff, Nat.reduceLT, Nat.reduceEqDiff, Nat.reduceBEq, Int.reduceLT, Int.reduceLE, Int.reduceEq, Int.reduceAdd, Int.reduceNeg, Int.reduceToNat, reduceCtorEq]
  | false =>
    have hf : fnd x xs.xs = k - 1 := by
      have := cnt_of x xs.xs k hk (fun j a ha hj => by have := h1 j a ha hj; omega) (fun a ha => by
        have h3 := h2 k a ha (by omega)
        unfold thF at ht
        rw [ha] at ht
        have ht2 := of_decide_eq_false ht
        unfold cmF at ht2
        rw [if_neg h3] at ht2
        split at ht2 <;> omega)
      unfold fnd; omega
    have e1 : (if (0 : Int) < IntKind.i64.wrap ((k : Int) - 1) then IntKind.i64.wrap ((k : Int) - 1) else 0) = ((k - 1 : Nat) : Int) := by
      rw [IntKind.wrap_i64]; split <;> omega
    rw [hf]
    rw [ht] at h34
    clear hmono hs hl hf h1 h2
    simp only [Try.f25, *, go_sem, ↓reduceIte, Nat.reduceAdd, Nat.reduceSub, Nat.reduceMul, Nat.reduceLeDiff, Nat.reduceLT, Nat.reduceEqDiff, Nat.reduceBEq, Int.reduceLT, Int.reduceLE, Int.reduceEq, Int.reduceAdd, Int.reduceNeg, Int.reduceToNat, reduceCtorEq]

end Go.Proofs.Ytenldcieoalgoaa
end

section
/-
  What a check that passes says; the value at a number; the law of checks.
-/
namespace Go.Proofs.Ytenldcieoalgoaa
open Go Vm
set_option maxRecDepth 4000
set_option linter.unusedSimpArgs false
set_option linter.unusedVariables false

/-- Rising pieces from a number on, of numbers and rates that may be. -/
structure Good (xs : List Ln) : Prop where
  sort : xs.Pairwise (fun a b => a.f < b.f)
  low : ∀ a ∈ xs, 0 ≤ a.f
  top : ∀ a ∈ xs, a.f ≤ 10000000000
  rmax : ∀ a ∈ xs, a.r ≤ 40000
  rmin : ∀ a ∈ xs, -40000 ≤ a.r
theorem ckA_ok : ∀ (xs : List Ln) (p : Option Int), ckA p xs = 0 → Good xs ∧ (∀ q, p = some q → ∀ a ∈ xs, q < a.f) ∧ (p = none → ∀ a, xs[0]? = some a → a.f = 0)
  | [], p, _ => ⟨⟨.nil, by simp, by simp, by simp, by simp⟩, by simp, by simp⟩
  | a :: r, p, h => by
    have key : ckA (some a.f) r = 0 ∧ 0 ≤ a.f ∧ a.f ≤ 10000000000 ∧ a.r ≤ 40000 ∧ -40000 ≤ a.r ∧ (∀ q, p = some q → q < a.f) ∧ (p = none → a.f = 0) := by
      cases p with
      | none =>
        rw [ckA_none] at h
        repeat' split at h
        all_goals first | (exfalso; omega) | skip
        refine ⟨h, ?_, ?_, ?_, ?_, ?_, ?_⟩ <;> first | omega | (intro q hq; cases hq) | (intro _; omega)
      | some q =>
        rw [ckA_some] at h
        repeat' split at h
        all_goals first | (exfalso; omega) | skip
        refine ⟨h, ?_, ?_, ?_, ?_, ?_, ?_⟩ <;> first | omega | (intro q hq; cases hq; omega) | (intro hq; cases hq)
    obtain ⟨h1, h2, h3, h4, h5, h6, h7⟩ := key
    obtain ⟨g, g2, _⟩ := ckA_ok r (some a.f) h1
    refine ⟨⟨List.pairwise_cons.2 ⟨g2 _ rfl, g.sort⟩, ?_, ?_, ?_, ?_⟩, ?_, ?_⟩
    · simp only [List.forall_mem_cons]; exact ⟨h2, g.low⟩
    · simp only [List.forall_mem_cons]; exact ⟨h3, g.top⟩
    · simp only [List.forall_mem_cons]; exact ⟨h4, g.rmax⟩
    · simp only [List.forall_mem_cons]; exact ⟨h5, g.rmin⟩
    · intro q hq
      simp only [List.forall_mem_cons]
      exact ⟨h6 q hq, fun b hb => by have := h6 q hq; have := g2 _ rfl b hb; omega⟩
    · intro hp b hb
      simp at hb; subst hb; exact h7 hp
structure Okf (xs : List Ln) : Prop extends Good xs where
  ne : xs.length ≠ 0
  most : xs.length ≤ 256
  head : ∀ a, xs[0]? = some a → a.f = 0
  b : ckB xs = 0
theorem ckF_ok {xs : List Ln} (h : ckF xs = 0) : Okf xs := by
  unfold ckF at h
  split at h
  · cases h
  split at h
  · cases h
  split at h
  · rename_i h1 h2 h3
    obtain ⟨g, _, g2⟩ := ckA_ok xs none h3
    exact { g with ne := h1, most := by omega, head := g2 rfl, b := h }
  · rename_i h3; exact (h3 h).elim

theorem atL_far (x o : Int) : ∀ xs : List Ln, (∀ a ∈ xs, x < a.f) → atL x o xs = o
  | [], _ => rfl
  | a :: r, h => by
    have h1 := h a (by simp)
    have : ¬ a.f ≤ x := by omega
    simp only [atL, this, if_false]
    exact atL_far x o r fun b hb => h b (by simp [hb])
theorem atL_cnt (x : Int) : ∀ (xs : List Ln) (o : Int), xs.Pairwise (fun a b => a.f < b.f) → atL x o xs = if cnt x xs = 0 then o else (match xs[cnt x xs - 1]? with | some l => atF l x | none => o)
  | [], o, _ => by simp [atL, cnt]
  | a :: r, o, h => by
    obtain ⟨h1, h2⟩ := List.pairwise_cons.1 h
    by_cases ha : a.f ≤ x
    · simp only [atL, ha, if_true, cnt]
      rw [atL_cnt x r _ h2]
      by_cases hc : cnt x r = 0
      · simp [hc]
      · have hcl := cnt_le x r
        obtain ⟨m, hm⟩ : ∃ m, cnt x r = m + 1 := ⟨cnt x r - 1, by omega⟩
        have : m < r.length := by omega
        simp [hm, this]
    · simp only [atL, ha, if_false, cnt, if_true]
      exact atL_far x o r fun b hb => by have := h1 b hb; omega
theorem cnt_pos {x : Int} {xs : List Ln} (g : Okf xs) (hx : 0 ≤ x) : 0 < cnt x xs := by
  cases hxs : xs with
  | nil => exact (g.ne (by simp [hxs])).elim
  | cons a r =>
    have := g.head a (by simp [hxs])
    have h2 : a.f ≤ x := by omega
    simp [cnt, h2]
theorem fnd_lt {x : Int} {xs : List Ln} (g : Okf xs) : fnd x xs < xs.length := by
  have := cnt_le x xs
  have := g.ne
  unfold fnd; omega
/-- The piece in which a number is, and the value there. -/
theorem fnd_at {x : Int} {xs : List Ln} (g : Okf xs) (hx : 0 ≤ x) : ∃ l, xs[fnd x xs]? = some l ∧ atF l x = atL x 0 xs ∧ l.f ≤ x := by
  have h1 := fnd_lt (x := x) g
  have h2 := cnt_pos g hx
  have h3 : xs[fnd x xs]? = some xs[fnd x xs] := by simp [h1]
  refine ⟨_, h3, ?_, ?_⟩
  · rw [atL_cnt x xs 0 g.sort, if_neg (by omega)]
    unfold fnd at h3
    rw [h3]; rfl
  · have key : ∀ (xs : List Ln) (k : Nat) (l : Ln), k < cnt x xs → xs[k]? = some l → l.f ≤ x := by
      intro xs
      induction xs with
      | nil => intro k l h; simp [cnt] at h
      | cons a r ih =>
        intro k l h hl
        simp only [cnt] at h
        split at h
        · cases k with
          | zero => simp at hl; subst hl; assumption
          | succ k => exact ih k l (by omega) (by simpa using hl)
        · omega
    exact key xs _ _ (by unfold fnd; omega) h3

def atE (x : Int) (xs : List Ln) : Int := if ckF xs = 0 then (if x < 0 then 1 else if 10000000000 < x then 1 else 0) else ckF xs
def atV (x : Int) (xs : List Ln) : Int := if atE x xs = 0 then atL x 0 xs else 0
@[go_sem] theorem at11 (xs : Sl Ln) (hlen : xs.xs.length < 9223372036854775808) (x : Int) : callI Try.prog cfg 11 [xs.d lne, .s (.int .i64 x)] [] = some ([.s (.int .i64 (atV x xs.xs)), .s (.int .i64 (atE x xs.xs))], []) := by
  rw [callI_eq Try.func11 rfl rfl]
  by_cases hc : ckF xs.xs = 0
  · by_cases h1 : x < 0
    · replace hc := eq_true hc
      have hc2 := of_eq_true hc
      simp only [Try.f11, *, go_sem, ↓reduceIte, Nat.reduceAdd, Nat.reduceSub, Nat.reduceMul, Nat.reduceLeDiff, Nat.reduceLT, Nat.reduceEqDiff, Nat.reduceBEq, Int.reduceLT, Int.reduceLE, Int.reduceEq, Int.reduceAdd, Int.reduceNeg, Int.reduceToNat, reduceCtorEq, atV, atE]
    by_cases h2 : 10000000000 < x
    · simp only [Try.f11, *, go_sem, ↓reduceIte, Nat.reduceAdd, Nat.reduceSub, Nat.reduceMul, Nat.reduceLeDiff, Nat.reduceLT, Nat.reduceEqDiff, Nat.reduceBEq, Int.reduceLT, Int.reduceLE, Int.reduceEq, Int.reduceAdd, Int.reduceNeg, Int.reduceToNat, reduceCtorEq, atV, atE]
    have g := ckF_ok hc
    have k := find25 xs x g.most g.sort
    obtain ⟨l, hl, ha, _⟩ := fnd_at g (by omega : 0 ≤ x)
    have ka := at26 l x
    rw [ha] at ka
    simp only [lne] at ka
    generalize fnd x xs.xs = i at *
    clear g ha
    simp only [Try.f11, *, go_sem, ↓reduceIte, Nat.reduceAdd, Nat.reduceSub, Nat.reduceMul, Nat.reduceLeDiff, Nat.reduceLT, Nat.reduceEqDiff, Nat.reduceBEq, Int.reduceLT, Int.reduceLE, Int.reduceEq, Int.reduceAdd, Int.reduceNeg, Int.reduceToNat, reduceCtorEq, atV, atE, lne]
  · simp only [Try.f11, *, go_sem, ↓reduceIte, Nat.reduceAdd, Nat.reduceSub, Nat.reduceMul, Nat.reduceLeDiff, Nat.reduceLT, Nat.reduceEqDiff, Nat.reduceBEq, Int.reduceLT, Int.reduceLE, Int.reduceEq, Int.reduceAdd, Int.reduceNeg, Int.reduceToNat, reduceCtorEq, atV, atE]

@[go_sem] theorem goes9 : callI Try.prog cfg 9 [] [] = some ([.s (.bool true)], []) := callI_iff.2 ⟨60, goes_run⟩

theorem checks3 (xs : Sl Ln) (hlen : xs.xs.length < 9223372036854775808) (x : Int) : callI Try.prog cfg 3 [xs.d lne, .s (.int .i64 x)] [] = some ([.s (.bool true)], []) := by
  rw [callI_eq Try.func3 rfl rfl]
  by_cases h4 : 400 < (xs.xs.length : Int)
  · simp only [Try.f3, *, go_sem, ↓reduceIte, Nat.reduceAdd, Nat.reduceSub, Nat.reduceMul, Nat.reduceLeDiff, Nat.reduceLT, Nat.reduceEqDiff, Nat.reduceBEq, Int.reduceLT, Int.reduceLE, Int.reduceEq, Int.reduceAdd, Int.reduceNeg, Int.reduceToNat, reduceCtorEq]
  by_cases hc : ckF xs.xs = 0
  · by_cases h1 : x < 0
    · simp only [Try.f3, *, go_sem, ↓reduceIte, Nat.reduceAdd, Nat.reduceSub, Nat.reduceMul, Nat.reduceLeDiff, Nat.reduceLT, Nat.reduceEqDiff, Nat.reduceBEq, Int.reduceLT, Int.reduceLE, Int.reduceEq, Int.reduceAdd, Int.reduceNeg, Int.reduceToNat, reduceCtorEq, atV, atE]
    by_cases h2 : 10000000000 < x
    · simp only [Try.f3, *, go_sem, ↓reduceIte, Nat.reduceAdd, Nat.reduceSub, Nat.reduceMul, Nat.reduceLeDiff, Nat.reduceLT, Nat.reduceEqDiff, Nat.reduceBEq, Int.reduceLT, Int.reduceLE, Int.reduceEq, Int.reduceAdd, Int.reduceNeg, Int.reduceToNat, reduceCtorEq, atV, atE]
    simp only [Try.f3, *, go_sem, ↓reduceIte, Nat.reduceAdd, Nat.reduceSub, Nat.reduceMul, Nat.reduceLeDiff, Nat.reduceLT, Nat.reduceEqDiff, Nat.reduceBEq, Int.reduceLT, Int.reduceLE, Int.reduceEq, Int.reduceAdd, Int.reduceNeg, Int.reduceToNat, reduceCtorEq, atV, atE]
  · simp only [Try.f3, *, go_sem, ↓reduceIte, Nat.reduceAdd, Nat.reduceSub, Nat.reduceMul, Nat.reduceLeDiff, Nat.reduceLT, Nat.reduceEqDiff, Nat.reduceBEq, Int.reduceLT, Int.reduceLE, Int.reduceEq, Int.reduceAdd, Int.reduceNeg, Int.reduceToNat, reduceCtorEq, atV, atE]

end Go.Proofs.Ytenldcieoalgoaa
end

/-
  The statements' arguments, as pieces and numbers.
-/
namespace Go.Proofs.Ytenldcieoalgoaa
open Go Vm

def i64Ok (x : Int) : Prop := -9223372036854775808 ≤ x ∧ x < 9223372036854775808
def lnOk (a : Ln) : Prop := i64Ok a.f ∧ i64Ok a.v ∧ i64Ok a.r
theorem fit37 {n : Nat} {ds : List D} (h : Fit Try.prog (n + 2) 37 ds) : ∃ a : Ln, ds = lne a ∧ lnOk a := by
  obtain ⟨p1, q1, rfl, h1, h⟩ := fitL_cons (fit_struct Try.underlying37 h)
  obtain ⟨p2, q2, rfl, h2, h⟩ := fitL_cons h
  obtain ⟨p3, q3, rfl, h3, h⟩ := fitL_cons h
  cases fitL_nil h
  obtain ⟨x1, rfl, w1⟩ := fit_int Try.underlying2 h1
  obtain ⟨x2, rfl, w2⟩ := fit_int Try.underlying27 h2
  obtain ⟨x3, rfl, w3⟩ := fit_int Try.underlying3 h3
  exact ⟨⟨x1, x2, x3⟩, rfl, wf_i64 w1, wf_i64 w2, wf_i64 w3⟩
end Go.Proofs.Ytenldcieoalgoaa

section
/-
  The least number whose value is no less than one; does a function fall?
-/
namespace Go.Proofs.Ytenldcieoalgoaa
open Go Vm
set_option maxRecDepth 4000
set_option linter.unusedSimpArgs false
set_option linter.unusedVariables false

/-- The least number that reaches one, how many pieces were looked at, whether there is one. -/
def rcF (y : Int) : Nat → List Ln → Int × Nat × Bool
  | i, [] => (0, i, false)
  | i, a :: r => if atF a (endF r) < y then rcF y (i + 1) r else if y ≤ a.v then (a.f, i + 1, true) else if a.r ≤ 0 then (a.f, i + 1, true) else
    (IntKind.i64.wrap (a.f + IntKind.i64.wrap (Int.tdiv (IntKind.i64.wrap (IntKind.i64.wrap (IntKind.i64.wrap (y - a.v) + a.r) - 1)) a.r)), i + 1, true)
def rcV (y : Int) (xs : List Ln) : Int × Nat × Bool := if ckF xs = 0 then rcF y 0 xs else (0, 0, false)

@[go_sem] theorem reach18 (xs : Sl Ln) (hlen : xs.xs.length < 9223372036854775808) (y : Int) : callI Try.prog cfg 18 [xs.d lne, .s (.int .i64 y)] [] = some ([.s (.int .i64 (rcV y xs.xs).1), .s (.int .i64 ((rcV y xs.xs).2.1 : Nat)), .s (.bool (rcV y xs.xs).2.2)], []) := by
  rw [callI_eq Try.func18 rfl rfl]
  by_cases hc : ckF xs.xs = 0
  case neg =>
    have e0 : ((0 : Nat) : Int) = 0 := rfl
    simp only [Try.f18, *, go_sem, ↓reduceIte, Nat.reduceAdd, Nat.reduceSub, Nat.reduceMul, Nat.reduceLeDiff, Nat.reduceLT, Nat.reduceEqDiff, Nat.reduceBEq, Int.reduceLT, Int.reduceLE, Int.reduceEq, Int.reduceAdd, Int.reduceNeg, Int.reduceToNat, reduceCtorEq, rcV]
  simp only [Try.f18, *, go_sem, ↓reduceIte, Nat.reduceAdd, Nat.reduceSub, Nat.reduceMul, Nat.reduceLeDiff, Nat.reduceLT, Nat.reduceEqDiff, Nat.reduceBEq, Int.reduceLT, Int.reduceLE, Int.reduceEq, Int.reduceAdd, Int.reduceNeg, Int.reduceToNat, reduceCtorEq, rcV]
  generalize hx : exe _ _ _ (.loop _) _ = r
  obtain ⟨z, s1, rfl, hp⟩ := list_use hx (head0 _ _) xs.xs hlen
    (fun i (n : Nat) st => n = i ∧ rdT st.tm 16 = .s (.int .i64 (i : Int)) ∧ rdT st.tm 15 = .s (.int .i64 (xs.xs.length : Int)) ∧ rdT st.tm 14 = xs.d lne ∧ rdT st.tm 0 = xs.d lne ∧ rdT st.tm 1 = .s (.int .i64 y))
    (rcF y) (fun r x st2 => (x = .exit 0 ∧ r = (0, xs.xs.length, false) ∧ rdT st2.tm 0 = xs.d lne) ∨ (x = .ret ∧ rdT st2.tm 4 = .s (.int .i64 r.1) ∧ rdT st2.tm 5 = .s (.int .i64 (r.2.1 : Nat)) ∧ rdT st2.tm 6 = .s (.bool r.2.2))) 0
    (by simp only [*, go_sem, ↓reduceIte, Nat.reduceAdd, Nat.reduceSub, Nat.reduceMul, Nat.reduceLeDiff, Nat.reduceLT, Nat.reduceEqDiff, Nat.reduceBEq, Int.reduceLT, Int.reduceLE, Int.reduceEq, Int.reduceAdd, Int.reduceNeg, Int.reduceToNat, reduceCtorEq]) (by
      clear hx hc
      rintro i n st a rest ha hd hlt hw ⟨rfl, h17, h16, h15, h0, h1⟩
      have hi : n < xs.xs.length := by omega
      have k := end28 xs hlen n hi
      have hd2 : xs.xs.drop (n + 1) = rest := by rw [← List.drop_drop, hd]; rfl
      rw [hd2] at k
      have ke := at26 a (endF rest)
      simp only [lne] at ke
      by_cases c1 : atF a (endF rest) < y
      · simp only [*, go_sem, ↓reduceIte, Nat.reduceAdd, Nat.reduceSub, Nat.reduceMul, Nat.reduceLeDiff, Nat.reduceLT, Nat.reduceEqDiff, Nat.reduceBEq, Int.reduceLT, Int.reduceLE, Int.reduceEq, Int.reduceAdd, Int.reduceNeg, Int.reduceToNat, reduceCtorEq, lne, rcF]
      by_cases c2 : y ≤ a.v
      · simp only [*, go_sem, ↓reduceIte, Nat.reduceAdd, Nat.reduceSub, Nat.reduceMul, Nat.reduceLeDiff, Nat.reduceLT, Nat.reduceEqDiff, Nat.reduceBEq, Int.reduceLT, Int.reduceLE, Int.reduceEq, Int.reduceAdd, Int.reduceNeg, Int.reduceToNat, reduceCtorEq, lne, rcF]
      by_cases c3 : a.r ≤ 0
      · simp only [*, go_sem, ↓reduceIte, Nat.reduceAdd, Nat.reduceSub, Nat.reduceMul, Nat.reduceLeDiff, Nat.reduceLT, Nat.reduceEqDiff, Nat.reduceBEq, Int.reduceLT, Int.reduceLE, Int.reduceEq, Int.reduceAdd, Int.reduceNeg, Int.reduceToNat, reduceCtorEq, lne, rcF]
      have c4 : a.r ≠ 0 := by omega
      simp only [*, go_sem, ↓reduceIte, Nat.reduceAdd, Nat.reduceSub, Nat.reduceMul, Nat.reduceLeDiff, Nat.reduceLT, Nat.reduceEqDiff, Nat.reduceBEq, Int.reduceLT, Int.reduceLE, Int.reduceEq, Int.reduceAdd, Int.reduceNeg, Int.reduceToNat, reduceCtorEq, lne, rcF])
    (by
      clear hx hc
      rintro n st ⟨rfl, h17, h16, h15, h0, h1⟩
      simp only [*, go_sem, ↓reduceIte, Nat.reduceAdd, Nat.reduceSub, Nat.reduceMul, Nat.reduceLeDiff, Nat.reduceLT, Nat.reduceEqDiff, Nat.reduceBEq, Int.reduceLT, Int.reduceLE, Int.reduceEq, Int.reduceAdd, Int.reduceNeg, Int.reduceToNat, reduceCtorEq, Int.lt_irrefl, rcF])
  clear hx hc
  rcases hp with ⟨rfl, h1, h2⟩ | ⟨rfl, h1, h2, h3⟩ <;> simp only [*, go_sem, ↓reduceIte, Nat.reduceAdd, Nat.reduceSub, Nat.reduceMul, Nat.reduceLeDiff, Nat.reduceLT, Nat.reduceEqDiff, Nat.reduceBEq, Int.reduceLT, Int.reduceLE, Int.reduceEq, Int.reduceAdd, Int.reduceNeg, Int.reduceToNat, reduceCtorEq]

def bk : Option Ln → Ln → Bool
  | none, _ => false
  | some q, a => decide (a.v < atF q (IntKind.i64.wrap (a.f - 1)))
/-- Is there a number whose value is less than that ahead? -/
def flF : Option Ln → List Ln → Bool
  | _, [] => false
  | p, a :: r => if a.r < 0 ∧ a.f < endF r then true else if bk p a = true then true else flF (some a) r
def Ag (xs : List Ln) (i : Nat) (p : Option Ln) : Prop := (i = 0 ∧ p = none) ∨ ∃ j l, i = j + 1 ∧ xs[j]? = some l ∧ p = some l

@[go_sem] theorem falls19 (xs : Sl Ln) (hlen : xs.xs.length < 9223372036854775808) : callI Try.prog cfg 19 [xs.d lne] [] = some ([.s (.bool (flF none xs.xs))], []) := by
  rw [callI_eq Try.func19 rfl rfl]
  simp only [Try.f19, *, go_sem, ↓reduceIte, Nat.reduceAdd, Nat.reduceSub, Nat.reduceMul, Nat.reduceLeDiff, Nat.reduceLT, Nat.reduceEqDiff, Nat.reduceBEq, Int.reduceLT, Int.reduceLE, Int.reduceEq, Int.reduceAdd, Int.reduceNeg, Int.reduceToNat, reduceCtorEq]
  generalize hx : exe _ _ _ (.loop _) _ = r
  obtain ⟨z, s1, rfl, hp⟩ := list_use hx (head0 _ _) xs.xs hlen
    (fun i (p : Option Ln) st => rdT st.tm 7 = .s (.int .i64 (i : Int)) ∧ rdT st.tm 6 = .s (.int .i64 (xs.xs.length : Int)) ∧ rdT st.tm 5 = xs.d lne ∧ rdT st.tm 0 = xs.d lne ∧ Ag xs.xs i p)
    flF (fun r x st2 => (x = .exit 0 ∧ r = false) ∨ (x = .ret ∧ r = true ∧ rdT st2.tm 2 = .s (.bool true))) none
    (by simp only [*, go_sem, ↓reduceIte, Nat.reduceAdd, Nat.reduceSub, Nat.reduceMul, Nat.reduceLeDiff, Nat.reduceLT, Nat.reduceEqDiff, Nat.reduceBEq, Int.reduceLT, Int.reduceLE, Int.reduceEq, Int.reduceAdd, Int.reduceNeg, Int.reduceToNat, reduceCtorEq, Ag]) (by
      clear hx
      rintro i p st a rest ha hd hlt hw ⟨h7, h6, h5, h0, hA⟩
      have hn : Ag xs.xs (i + 1) (some a) := .inr ⟨i, a, rfl, ha, rfl⟩
      have hi : i < xs.xs.length := by omega
      have k := end28 xs hlen i hi
      have hd2 : xs.xs.drop (i + 1) = rest := by rw [← List.drop_drop, hd]; rfl
      rw [hd2] at k
      clear hd2
      by_cases c1 : a.r < 0 ∧ a.f < endF rest
      · obtain ⟨c1, c2⟩ := c1
        simp only [*, go_sem, ↓reduceIte, Nat.reduceAdd, Nat.reduceSub, Nat.reduceMul, Nat.reduceLeDiff, Nat.reduceLT, Nat.reduceEqDiff, Nat.reduceBEq, Int.reduceLT, Int.reduceLE, Int.reduceEq, Int.reduceAdd, Int.reduceNeg, Int.reduceToNat, reduceCtorEq, lne, flF]
      have hc : flF p (a :: rest) = if bk p a = true then true else flF (some a) rest := by simp only [flF, c1, if_false]
      rcases hA with ⟨e0, rfl⟩ | ⟨j, l, rfl, hl, rfl⟩
      · have e1 : ¬ 0 < (i : Int) := by omega
        replace e0 : ((i : Int) = 0) = True := eq_true (by omega)
        by_cases d1 : a.r < 0
        · have d2 : ¬ a.f < endF rest := fun h => c1 ⟨d1, h⟩
          clear c1
          simp only [*, go_sem, ↓reduceIte, Nat.reduceAdd, Nat.reduceSub, Nat.reduceMul, Nat.reduceLeDiff, Nat.reduceLT, Nat.reduceEqDiff, Nat.reduceBEq, Int.reduceLT, Int.reduceLE, Int.reduceEq, Int.reduceAdd, Int.reduceNeg, Int.reduceToNat, reduceCtorEq, lne, bk]
          exact ⟨_, hn, rfl⟩
        · clear c1
          simp only [*, go_sem, ↓reduceIte, Nat.reduceAdd, Nat.reduceSub, Nat.reduceMul, Nat.reduceLeDiff, Nat.reduceLT, Nat.reduceEqDiff, Nat.reduceBEq, Int.reduceLT, Int.reduceLE, Int.reduceEq, Int.reduceAdd, Int.reduceNeg, Int.reduceToNat, reduceCtorEq, lne, bk]
          exact ⟨_, hn, rfl⟩
      · have e1 : IntKind.i64.wrap (((j + 1 : Nat) : Int) - 1) = (j : Int) := by rw [IntKind.wrap_i64]; omega
        have e3 : 0 < ((j + 1 : Nat) : Int) := by omega
        have ke := at26 l (IntKind.i64.wrap (a.f - 1))
        simp only [lne] at ke
        by_cases c3 : a.v < atF l (IntKind.i64.wrap (a.f - 1))
        · by_cases d1 : a.r < 0
          · have d2 : ¬ a.f < endF rest := fun h => c1 ⟨d1, h⟩
            clear c1
            simp only [*, go_sem, ↓reduceIte, Nat.reduceAdd, Nat.reduceSub, Nat.reduceMul, Nat.reduceLeDiff, Nat.reduceLT, Nat.reduceEqDiff, Nat.reduceBEq, Int.reduceLT, Int.reduceLE, Int.reduceEq, Int.reduceAdd, Int.reduceNeg, Int.reduceToNat, reduceCtorEq, lne, bk, decide_true]
          · clear c1
            simp only [*, go_sem, ↓reduceIte, Nat.reduceAdd, Nat.reduceSub, Nat.reduceMul, Nat.reduceLeDiff, Nat.reduceLT, Nat.reduceEqDiff, Nat.reduceBEq, Int.reduceLT, Int.reduceLE, Int.reduceEq, Int.reduceAdd, Int.reduceNeg, Int.reduceToNat, reduceCtorEq, lne, bk, decide_true]
        · by_cases d1 : a.r < 0
          · have d2 : ¬ a.f < endF rest := fun h => c1 ⟨d1, h⟩
            clear c1
            simp only [*, go_sem, ↓reduceIte, Nat.reduceAdd, Nat.reduceSub, Nat.reduceMul, Nat.reduceLeDiff, Nat.reduceLT, Nat.reduceEqDiff, Nat.reduceBEq, Int.reduceLT, Int.reduceLE, Int.reduceEq, Int.reduceAdd, Int.reduceNeg, Int.reduceToNat, reduceCtorEq, lne, bk, decide_false]
            exact ⟨_, hn, rfl⟩
          · clear c1
            simp only [*, go_sem, ↓reduceIte, Nat.reduceAdd, Nat.reduceSub, Nat.reduceMul, Nat.reduceLeDiff, Nat.reduceLT, Nat.reduceEqDiff, Nat.reduceBEq, Int.reduceLT, Int.reduceLE, Int.reduceEq, Int.reduceAdd, Int.reduceNeg, Int.reduceToNat, reduceCtorEq, lne, bk, decide_false]
            exact ⟨_, hn, rfl⟩)
    (by
      clear hx
      rintro p st ⟨h7, h6, h5, h0, hA⟩
      simp only [*, go_sem, ↓reduceIte, Nat.reduceAdd, Nat.reduceSub, Nat.reduceMul, Nat.reduceLeDiff, Nat.reduceLT, Nat.reduceEqDiff, Nat.reduceBEq, Int.reduceLT, Int.reduceLE, Int.reduceEq, Int.reduceAdd, Int.reduceNeg, Int.reduceToNat, reduceCtorEq, Int.lt_irrefl, flF])
  clear hx
  rcases hp with ⟨rfl, h1⟩ | ⟨rfl, h1, h2⟩ <;> simp only [*, go_sem, ↓reduceIte, Nat.reduceAdd, Nat.reduceSub, Nat.reduceMul, Nat.reduceLeDiff, Nat.reduceLT, Nat.reduceEqDiff, Nat.reduceBEq, Int.reduceLT, Int.reduceLE, Int.reduceEq, Int.reduceAdd, Int.reduceNeg, Int.reduceToNat, reduceCtorEq]

end Go.Proofs.Ytenldcieoalgoaa
end

section
/-
  The law of what reaches: plain.
-/
namespace Go.Proofs.Ytenldcieoalgoaa
open Go Vm
set_option linter.unusedSimpArgs false
set_option linter.unusedVariables false

theorem wrap_ok {x : Int} (h1 : -9223372036854775808 ≤ x) (h2 : x < 9223372036854775808) : IntKind.i64.wrap x = x := by rw [IntKind.wrap_i64]; omega

theorem ckB_ok : ∀ (xs : List Ln), ckB xs = 0 → ∀ i a, xs[i]? = some a → bdF a.v = true ∧ bdF (atF a (endF (xs.drop (i + 1)))) = true
  | [], _, i, a, h => by simp at h
  | b :: r, hb, i, a, h => by
    simp only [ckB] at hb
    split at hb
    · rename_i h1
      split at hb
      · rename_i h2
        cases i with
        | zero => simp at h; subst h; exact ⟨h1, by simpa using h2⟩
        | succ i => simpa using ckB_ok r hb i a (by simpa using h)
      · cases hb
    · cases hb
theorem bdF_iff {x : Int} : bdF x = true ↔ -4000000000000000 ≤ x ∧ x ≤ 4000000000000000 := by simp [bdF]

section
variable {xs : List Ln} (g : Okf xs)
include g
theorem Okf.bv {i : Nat} {a : Ln} (h : xs[i]? = some a) : -4000000000000000 ≤ a.v ∧ a.v ≤ 4000000000000000 := bdF_iff.1 (ckB_ok xs g.b i a h).1
theorem Okf.f0 {i : Nat} {a : Ln} (h : xs[i]? = some a) : 0 ≤ a.f ∧ a.f ≤ 10000000000 ∧ a.r ≤ 40000 ∧ -40000 ≤ a.r :=
  have hm := List.mem_of_getElem? h
  ⟨g.low a hm, g.top a hm, g.rmax a hm, g.rmin a hm⟩
theorem Okf.lt {i j : Nat} {a b : Ln} (ha : xs[i]? = some a) (hb : xs[j]? = some b) (h : i < j) : a.f < b.f := by
  obtain ⟨hi, rfl⟩ := List.getElem?_eq_some_iff.1 ha
  obtain ⟨hj, rfl⟩ := List.getElem?_eq_some_iff.1 hb
  exact List.pairwise_iff_getElem.1 g.sort i j hi hj h
/-- The last number of a piece: where it goes on, and that it is no less than the first. -/
theorem Okf.fin {i : Nat} {a : Ln} (h : xs[i]? = some a) : a.f ≤ endF (xs.drop (i + 1)) ∧ endF (xs.drop (i + 1)) ≤ 10000000000 ∧ (∀ b, xs[i + 1]? = some b → endF (xs.drop (i + 1)) = b.f - 1) := by
  by_cases hn : i + 1 < xs.length
  · have h3 : xs[i + 1]? = some xs[i + 1] := by simp [hn]
    rw [List.drop_eq_getElem_cons hn]
    generalize xs[i + 1] = b at h3
    have h1 := g.lt h h3 (by omega)
    have h2 := g.f0 h3
    have h4 := g.f0 h
    have hw : endF (b :: xs.drop (i + 1 + 1)) = b.f - 1 := by simp only [endF]; exact wrap_ok (by omega) (by omega)
    rw [hw]
    refine ⟨by omega, by omega, fun c hc => ?_⟩
    rw [h3] at hc; cases hc; rfl
  · rw [List.drop_eq_nil_of_le (by omega)]
    have h4 := g.f0 h
    refine ⟨h4.2.1, Int.le_refl _, fun b hb => ?_⟩
    have := (List.getElem?_eq_some_iff.1 hb).1
    omega
/-- A piece's value: nothing is cut off. -/
theorem Okf.at_eq {i : Nat} {a : Ln} {x : Int} (h : xs[i]? = some a) (h1 : a.f ≤ x) (h2 : x ≤ 10000000000) : atF a x = a.v + (x - a.f) * a.r ∧ -400000000000000 ≤ (x - a.f) * a.r ∧ (x - a.f) * a.r ≤ 400000000000000 := by
  have hb := g.bv h
  have hf := g.f0 h
  have k1 : (x - a.f) * a.r ≤ (x - a.f) * 40000 := Int.mul_le_mul_of_nonneg_left (by omega) (by omega)
  have k2 : (x - a.f) * (-40000) ≤ (x - a.f) * a.r := Int.mul_le_mul_of_nonneg_left (by omega) (by omega)
  have w1 : IntKind.i64.wrap (x - a.f) = x - a.f := wrap_ok (by omega) (by omega)
  have w2 : IntKind.i64.wrap ((x - a.f) * a.r) = (x - a.f) * a.r := wrap_ok (by omega) (by omega)
  refine ⟨?_, by omega, by omega⟩
  unfold atF
  rw [w1, w2]
  exact wrap_ok (by omega) (by omega)
/-- The value at a number is that of the piece in which it is. -/
theorem Okf.at_in {i : Nat} {a : Ln} {x : Int} (h : xs[i]? = some a) (h1 : a.f ≤ x) (h2 : ∀ b, xs[i + 1]? = some b → x < b.f) : atL x 0 xs = atF a x := by
  have hi : i < xs.length := (List.getElem?_eq_some_iff.1 h).1
  have hc := cnt_of x xs (i + 1) (by omega) (fun j l hl hj => by
    rcases Nat.lt_or_ge j i with hh | hh
    · have := g.lt hl h hh; omega
    · have : j = i := by omega
      subst this; rw [h] at hl; cases hl; exact h1) (fun l hl => by have := h2 l hl; omega)
  rw [atL_cnt x xs 0 g.sort, hc, if_neg (by omega)]
  simp [h]
theorem Okf.at_end {i : Nat} {a : Ln} {x : Int} (h : xs[i]? = some a) (h1 : a.f ≤ x) (h2 : x ≤ endF (xs.drop (i + 1))) : atL x 0 xs = atF a x :=
  g.at_in h h1 fun b hb => by have := (g.fin h).2.2 b hb; omega
/-- Cut off ahead of a piece. -/
theorem Okf.at_take {j : Nat} {l a : Ln} (hl : xs[j]? = some l) (ha : xs[j + 1]? = some a) : atL (IntKind.i64.wrap (a.f - 1)) 0 (xs.take (j + 1)) = atF l (IntKind.i64.wrap (a.f - 1)) := by
  have hf := g.f0 ha
  have hlt := g.lt hl ha (by omega)
  rw [wrap_ok (by omega) (by omega)]
  have hjl : j + 1 < xs.length := (List.getElem?_eq_some_iff.1 ha).1
  have hc := cnt_of (a.f - 1) (xs.take (j + 1)) (j + 1) (by simp; omega) (fun i b hb hi => by
    rw [List.getElem?_take_of_lt hi] at hb
    rcases Nat.lt_or_ge i j with hh | hh
    · have := g.lt hb hl hh; omega
    · have : i = j := by omega
      subst this; rw [hl] at hb; cases hb; omega) (fun b hb => by
    have := (List.getElem?_eq_some_iff.1 hb).1; simp at this; omega)
  rw [atL_cnt _ _ _ (g.sort.sublist (List.take_sublist _ _)), hc, if_neg (by omega)]
  have : (xs.take (j + 1))[j + 1 - 1]? = some l := by
    rw [List.getElem?_take_of_lt (by omega)]; exact hl
  rw [this]

/-- What reaches one. -/
theorem rc_law (y : Int) (hy1 : -4000000000000000 ≤ y) (hy2 : y ≤ 4000000000000000) : ∀ (rest : List Ln) (i : Nat), xs.drop i = rest → i ≤ xs.length → (∀ j a, j < i → xs[j]? = some a → atF a (endF (xs.drop (j + 1))) < y) →
    ((rcF y i rest).2.2 = false → (rcF y i rest).1 = 0 ∧ (rcF y i rest).2.1 = xs.length ∧ atL 10000000000 0 xs < y) ∧
    ((rcF y i rest).2.2 = true → 1 ≤ (rcF y i rest).2.1 ∧ (rcF y i rest).2.1 ≤ xs.length ∧ y ≤ atL (rcF y i rest).1 0 xs ∧ ((rcF y i rest).1 = 0 ∨ atL (IntKind.i64.wrap ((rcF y i rest).1 - 1)) 0 xs < y)) := by
  intro rest
  induction rest with
  | nil =>
    intro i hd hil hp
    have hi : i = xs.length := by
      have := congrArg List.length hd
      simp at this; omega
    subst hi
    refine ⟨fun _ => ⟨rfl, rfl, ?_⟩, fun h => by simp [rcF] at h⟩
    have hn := g.ne
    obtain ⟨m, hm⟩ : ∃ m, xs.length = m + 1 := ⟨xs.length - 1, by omega⟩
    have h3 : xs[m]? = some xs[m] := by simp [hm]
    generalize xs[m] = a at h3
    have h4 := hp m a (by omega) h3
    have h5 : xs.drop (m + 1) = [] := List.drop_eq_nil_of_le (by omega)
    rw [h5] at h4
    rw [g.at_end h3 (g.f0 h3).2.1 (by rw [h5]; exact Int.le_refl _)]
    exact h4
  | cons a rest ih =>
    intro i hd hil hp
    have hi : i < xs.length := by
      have := congrArg List.length hd
      simp at this; omega
    have ha : xs[i]? = some a := by
      have : (xs.drop i)[0]? = some a := by rw [hd]; rfl
      simpa using this
    have hd2 : xs.drop (i + 1) = rest := by rw [← List.drop_drop, hd]; rfl
    have hfin := g.fin ha
    rw [hd2] at hfin
    have hf := g.f0 ha
    have hb := g.bv ha
    by_cases c1 : atF a (endF rest) < y
    · simp only [rcF, c1, if_true]
      exact ih (i + 1) hd2 (by omega) fun j b hj hjb => by
        rcases Nat.lt_or_ge j i with hh | hh
        · exact hp j b hh hjb
        · have : j = i := by omega
          subst this; rw [ha] at hjb; cases hjb; rw [hd2]; exact c1
    · have hate := g.at_eq ha hfin.1 hfin.2.1
      -- ahead of the piece's first number
      have hahead : a.f = 0 ∨ atL (IntKind.i64.wrap (a.f - 1)) 0 xs < y := by
        cases i with
        | zero => exact .inl (g.head a ha)
        | succ j =>
          right
          have hj : xs[j]? = some xs[j] := by simp [show j < xs.length by omega]
          generalize xs[j] = q at hj
          have h1 := hp j q (by omega) hj
          have h2 := (g.fin hj).2.2 a ha
          have h3 := g.lt hj ha (by omega)
          rw [wrap_ok (by omega) (by omega), g.at_in hj (by omega) (fun b hb => by rw [ha] at hb; cases hb; omega), ← h2]
          exact h1
      by_cases c2 : y ≤ a.v
      · rw [show rcF y i (a :: rest) = (a.f, i + 1, true) by simp only [rcF, c1, if_false, c2, if_true]]
        refine ⟨fun h => by simp at h, fun _ => ⟨by dsimp only; omega, by dsimp only; omega, ?_, hahead⟩⟩
        rw [g.at_end ha (Int.le_refl _) (by rw [hd2]; exact hfin.1), (g.at_eq ha (Int.le_refl _) hf.2.1).1]
        rw [Int.sub_self, Int.zero_mul]; omega
      · by_cases c3 : a.r ≤ 0
        · exfalso
          have : (endF rest - a.f) * a.r ≤ 0 := Int.mul_nonpos_of_nonneg_of_nonpos (by omega) c3
          omega
        · rw [show rcF y i (a :: rest) = (IntKind.i64.wrap (a.f + IntKind.i64.wrap (Int.tdiv (IntKind.i64.wrap (IntKind.i64.wrap (IntKind.i64.wrap (y - a.v) + a.r) - 1)) a.r)), i + 1, true) by simp only [rcF, c1, if_false, c2, c3]]
          have w1 : IntKind.i64.wrap (y - a.v) = y - a.v := wrap_ok (by omega) (by omega)
          have w2 : IntKind.i64.wrap (y - a.v + a.r) = y - a.v + a.r := wrap_ok (by omega) (by omega)
          have w3 : IntKind.i64.wrap (y - a.v + a.r - 1) = y - a.v + a.r - 1 := wrap_ok (by omega) (by omega)
          rw [w1, w2, w3, Int.tdiv_eq_ediv_of_nonneg (by omega)]
          have hr : 0 < a.r := by omega
          generalize hq : (y - a.v + a.r - 1) / a.r = q
          have q1 : q * a.r ≤ y - a.v + a.r - 1 := by rw [← hq]; exact Int.ediv_mul_le _ (by omega)
          have q2 : y - a.v + a.r - 1 < (q + 1) * a.r := by rw [← hq]; exact Int.lt_ediv_add_one_mul_self _ hr
          have q3 : 1 ≤ q := by
            rcases (by omega : 0 < q ∨ q ≤ 0) with h | h
            · omega
            · have : (q + 1) * a.r ≤ 1 * a.r := Int.mul_le_mul_of_nonneg_right (by omega) (by omega)
              omega
          have q4 : q ≤ endF rest - a.f := by
            rcases (by omega : endF rest - a.f < q ∨ q ≤ endF rest - a.f) with h | h
            · have : (endF rest - a.f + 1) * a.r ≤ q * a.r := Int.mul_le_mul_of_nonneg_right (by omega) (by omega)
              rw [Int.add_mul] at this
              omega
            · exact h
          rw [Int.add_mul] at q2
          have w4 : IntKind.i64.wrap q = q := wrap_ok (by omega) (by omega)
          have w5 : IntKind.i64.wrap (a.f + q) = a.f + q := wrap_ok (by omega) (by omega)
          have w6 : IntKind.i64.wrap (a.f + q - 1) = a.f + q - 1 := wrap_ok (by omega) (by omega)
          rw [w4, w5]
          refine ⟨fun h => by simp at h, fun _ => ⟨by dsimp only; omega, by dsimp only; omega, ?_, .inr ?_⟩⟩
          · rw [g.at_end ha (by omega) (by rw [hd2]; omega), (g.at_eq ha (by omega) (by omega)).1]
            rw [show a.f + q - a.f = q by omega]
            omega
          · show atL (IntKind.i64.wrap (a.f + q - 1)) 0 xs < y
            rw [w6, g.at_end ha (by omega) (by rw [hd2]; omega), (g.at_eq ha (by omega) (by omega)).1]
            rw [show a.f + q - 1 - a.f = q - 1 by omega, Int.sub_mul]
            omega
end

end Go.Proofs.Ytenldcieoalgoaa
end

section
/-
  All numbers at which a piece begins: the library's functions.
-/
namespace Go.Proofs.Ytenldcieoalgoaa
open Go Vm
set_option maxRecDepth 4000
set_option linter.unusedSimpArgs false
set_option linter.unusedVariables false

def z3 : List D := [.s (.int .i64 0), .s (.int .i64 0), .s (.int .i64 0)]
theorem apx23_3 : apX Try.prog 23 3 = some (3, 24, z3) := by kernel_rfl
theorem z3_lne : z3 = lne ⟨0, 0, 0⟩ := rfl

theorem grow40 (n : Nat) (h0 : 0 < n) (hn : n ≤ 1000) : callI Try.prog cfg 40 [nilS, .s (.int .i64 (n : Int))] [] = some ([.a 0 0 0 3], [⟨(List.replicate n (⟨0, 0, 0⟩ : Ln)).map lne, true, 0, true, none⟩]) := by
  rw [callI_eq Try.func40 rfl rfl]
  have e0 : ¬ (n : Int) < 0 := by omega
  have e1 : IntKind.i64.wrap ((n : Int) - IntKind.i64.wrap (0 - 0)) = (n : Int) := by rw [IntKind.wrap_i64, IntKind.wrap_i64]; omega
  have e2 : 0 < (n : Int) := by omega
  have e3 : ((0 : Nat) : Int) = 0 := rfl
  have cn : ∀ dr hp, cut Try.prog 23 dr hp nilS none (some (.s (.int .i64 0))) none = some (nilS, hp) := fun dr hp => by kernel_rfl
  have ca : ∀ dr hp id, cut Try.prog 23 dr hp (.a id 0 n 3) none (some (.s (.int .i64 0))) none = some (.a id 0 0 3, hp) := fun dr hp id => cut_a_hi (by kernel_rfl : elt Try.prog 23 = some 37) (by kernel_rfl : sz Try.prog 37 = some 3) hp .i64 id 0 n 0 (by omega)
  have ha : ∀ fr (st : St), appendD fr 3 24 st nilS (.l none (List.replicate n z3)) = some (.a st.nx 0 n 3, { tm := st.tm, hp := (st.nx, ⟨(List.replicate n (⟨0, 0, 0⟩ : Ln)).map lne, true, 0, true, none⟩) :: st.hp, nx := st.nx + 1 }) := fun fr st => by
    have := app_full (f := lne) (x := Sl.nil) (y := .l none (List.replicate n z3)) (new := (List.replicate n (⟨0, 0, 0⟩ : Ln)).map lne) (n := 3) (bytes := 24) (fr := fr) (st := st) lne_len (by intro c xs h; cases h) (by simp [peek, z3_lne]) (sizes_map 3 lne_len _) (by simp [Sl.xs]; omega) (by simp [Sl.xs]; omega) (by simp; omega)
    simpa [Sl.d, Sl.xs] using this
  have hg := fun (dr : Bool) (st : St) (fr : Fr) (call : Vm.Callee) (x y : Operand) (dst : Option Tmp) (pos : String) (after : Array Edge) (guard : Option (Nat × Bool)) (ty : TypeId) (h : ev st.tm y = .s (.int .i64 (n : Int))) => d_grow (P := Try.prog) (c := cfg) (fr := fr) (dr := dr) (call := call) dst ty pos after guard st x y 23 3 3 24 n z3 apx23_3 (by rw [h]; simp [asNat])
  clear h0 hn
  simp only [Try.f40, hg, ↓hg, *, go_sem, ↓reduceIte, Nat.reduceAdd, Nat.reduceSub, Nat.reduceMul, Nat.reduceLeDiff, Nat.reduceLT, Nat.reduceEqDiff, Nat.reduceBEq, Int.reduceLT, Int.reduceLE, Int.reduceEq, Int.reduceAdd, Int.reduceNeg, Int.reduceToNat, reduceCtorEq]

theorem concat36 (x y : Sl Ln) (h1 : x.xs.length ≤ 300) (h2 : y.xs.length ≤ 300) (h3 : 0 < x.xs.length) (h4 : 0 < y.xs.length) : callI Try.prog cfg 36 [.l (some 2) [[x.d lne], [y.d lne]]] [] =
    some ([.a 0 0 (x.xs.length + y.xs.length) 3], [⟨(x.xs ++ y.xs).map lne, true, 0, true, none⟩]) := by
  rw [callI_eq Try.func36 rfl rfl]
  have g := grow40 (x.xs.length + y.xs.length) (by omega) (by omega)
  have w1 : IntKind.i64.wrap 1 = 1 := by decide
  have w2 : IntKind.i64.wrap 2 = 2 := by decide
  have e1 : IntKind.i64.wrap (0 + (x.xs.length : Int)) = (x.xs.length : Int) := by rw [IntKind.wrap_i64]; omega
  have e2 : IntKind.i64.wrap ((x.xs.length : Int) + (y.xs.length : Int)) = ((x.xs.length + y.xs.length : Nat) : Int) := by rw [IntKind.wrap_i64]; omega
  have e3 : ¬ (x.xs.length : Int) < 0 := by omega
  have e4 : ¬ ((x.xs.length + y.xs.length : Nat) : Int) < 0 := by omega
  have p1 : (x.xs.map lne).isEmpty = false := by simp; intro h; rw [h] at h3; simp at h3
  have p2 : (y.xs.map lne).isEmpty = false := by simp; intro h; rw [h] at h4; simp at h4
  have a1 : ∀ (st : St) (id : Nat), rdH st.hp id = ⟨(List.replicate (x.xs.length + y.xs.length) (⟨0, 0, 0⟩ : Ln)).map lne, true, 0, true, none⟩ → appendD ⟨0, 36, 36, true⟩ 3 24 st (.a id 0 0 3) (x.d lne) = some (.a id 0 x.xs.length 3, { tm := st.tm, hp := (id, ⟨(x.xs ++ List.replicate y.xs.length (⟨0, 0, 0⟩ : Ln)).map lne, true, 0, true, none⟩) :: st.hp, nx := st.nx }) := fun st id h => by
    have := app_in (fr := ⟨0, 36, 36, true⟩) (n := 3) (bytes := 24) (st := st) (k := 0) h (peek_sl st.hp x) (sizes_map 3 lne_len _) p1 (.inr (Nat.zero_le _)) (by simp) (by simp; omega) (by simp; omega)
    rw [this]
    simp
  have a2 : ∀ (st : St) (id : Nat), rdH st.hp id = ⟨(x.xs ++ List.replicate y.xs.length (⟨0, 0, 0⟩ : Ln)).map lne, true, 0, true, none⟩ → appendD ⟨0, 36, 36, true⟩ 3 24 st (.a id 0 x.xs.length 3) (y.d lne) = some (.a id 0 (x.xs.length + y.xs.length) 3, { tm := st.tm, hp := (id, ⟨(x.xs ++ y.xs).map lne, true, 0, true, none⟩) :: st.hp, nx := st.nx }) := fun st id h => by
    have := app_in (fr := ⟨0, 36, 36, true⟩) (n := 3) (bytes := 24) (st := st) (k := x.xs.length) h (peek_sl st.hp y) (sizes_map 3 lne_len _) p2 (.inr (Nat.zero_le _)) (by simp) (by simp; omega) (by simp; omega)
    rw [this]
    simp
  clear h1 h2 h3 h4 p1 p2
  simp only [Try.f36, *, go_sem, ↓reduceIte, Nat.reduceAdd, Nat.reduceSub, Nat.reduceMul, Nat.reduceLeDiff, Nat.reduceLT, Nat.reduceEqDiff, Nat.reduceBEq, Int.reduceLT, Int.reduceLE, Int.reduceEq, Int.reduceAdd, Int.reduceNeg, Int.reduceToNat, reduceCtorEq]
  repeat (rw [e_loop]; simp only [head0, *, go_sem, ↓reduceIte, Nat.reduceAdd, Nat.reduceSub, Nat.reduceMul, Nat.reduceLeDiff, Nat.reduceLT, Nat.reduceEqDiff, Nat.reduceBEq, Int.reduceLT, Int.reduceLE, Int.reduceEq, Int.reduceAdd, Int.reduceNeg, Int.reduceToNat, reduceCtorEq])

theorem sort37 (zs : List Int) (h0 : 0 < zs.length) (hn : zs.length < 4611686018427387904) (cp : Option Nat) : callI Try.prog cfg 37 [.a 0 0 zs.length 1] [⟨zs.map ieD, true, 0, true, cp⟩] = some ([], [⟨(sortZ zs).map ieD, true, 0, true, cp⟩]) := by
  rw [callI_orc (by rfl)]
  have hi : ∀ zs : List Int, intsD (zs.map ieD) = some zs := by
    intro zs
    induction zs with
    | nil => rfl
    | cons a r ih => simp only [List.map_cons, intsD, ieD]; rw [show List.map ieD r = List.map ieD r from rfl, ih]
  rw [show ∀ a b, cfg.orc 37 a b = sortO a b from fun a b => by simp [cfg]]
  simp only [sortO, List.length_map, hi, h0, hn, and_self, if_true]

end Go.Proofs.Ytenldcieoalgoaa
end

section
/-
  Like numbers side by side, once each: the library's function.
-/
namespace Go.Proofs.Ytenldcieoalgoaa
open Go Vm
set_option maxRecDepth 4000
set_option linter.unusedSimpArgs false
set_option linter.unusedVariables false

theorem ieD_len (a : Int) : (ieD a).length = 1 := (rfl)
attribute [go_sem] ieD_len
/-- Like numbers side by side, once each. -/
def ddS (l : List Int) : List Int := l.foldl (fun acc v => if acc.getLast? = some v then acc else acc ++ [v]) []
theorem ddS_snoc (l : List Int) (v : Int) : ddS (l ++ [v]) = if (ddS l).getLast? = some v then ddS l else ddS l ++ [v] := by
  unfold ddS
  rw [List.foldl_append]
  rfl
theorem snoc_ind {P : List Int → Prop} (h0 : P []) (h1 : ∀ l v, P l → P (l ++ [v])) (l : List Int) : P l := by
  have : ∀ (n : Nat) (l : List Int), l.length = n → P l := by
    intro n
    induction n with
    | zero => intro l h; rw [List.length_eq_zero_iff.1 h]; exact h0
    | succ n ih =>
      intro l h
      have hne : l ≠ [] := by intro h2; rw [h2] at h; simp at h
      rw [← List.dropLast_concat_getLast hne]
      exact h1 _ _ (ih _ (by simp [h]))
  exact this _ l rfl
theorem ddS_last (l : List Int) : (ddS l).getLast? = l.getLast? := by
  induction l using snoc_ind with
  | h0 => rfl
  | h1 l v ih =>
    rw [ddS_snoc]
    split
    · rename_i h; rw [h]; simp
    · simp
theorem ddS_take (zs : List Int) (k : Nat) (v u : Int) (hk : zs[k + 1]? = some v) (hu : zs[k]? = some u) : ddS (zs.take (k + 2)) = if u = v then ddS (zs.take (k + 1)) else ddS (zs.take (k + 1)) ++ [v] := by
  have e1 : zs.take (k + 2) = zs.take (k + 1) ++ [v] := by rw [List.take_add_one, hk]; rfl
  have e2 : zs.take (k + 1) = zs.take k ++ [u] := by rw [List.take_add_one, hu]; rfl
  have e3 : (zs.take (k + 1)).getLast? = some u := by rw [e2]; simp
  rw [e1, ddS_snoc, ddS_last, e3]
  simp
theorem ddS_one (a : Int) : ddS [a] = [a] := by simp [ddS]

theorem crt34 : crT Try.prog 34 = some (1, [.s (.int .i64 0)]) := by kernel_rfl

set_option maxHeartbeats 4000000 in
theorem compact38 (zs : List Int) (h0 : 0 < zs.length) (hn : zs.length < 1000000) (cp : Option Nat) : ∃ tl : List Int, callI Try.prog cfg 38 [.a 0 0 zs.length 1] [⟨zs.map ieD, true, 0, true, cp⟩] = some ([.a 0 0 (ddS zs).length 1], [⟨(ddS zs ++ tl).map ieD, true, 0, true, cp⟩]) := by
  rw [callI_eq Try.func38 rfl rfl]
  by_cases h2 : (zs.length : Int) < 2
  · have : ∃ a, zs = [a] := by
      cases zs with
      | nil => simp at h0
      | cons a r => cases r with
        | nil => exact ⟨a, rfl⟩
        | cons b r => simp at h2; omega
    obtain ⟨a, rfl⟩ := this
    refine ⟨[], ?_⟩
    simp only [ddS_one, List.append_nil]
    clear h0 hn
    simp only [Try.f38, *, go_sem, ↓reduceIte, Nat.reduceAdd, Nat.reduceSub, Nat.reduceMul, Nat.reduceLeDiff, Nat.reduceLT, Nat.reduceEqDiff, Nat.reduceBEq, Int.reduceLT, Int.reduceLE, Int.reduceEq, Int.reduceAdd, Int.reduceNeg, Int.reduceToNat, reduceCtorEq]
  generalize hnn : zs.length = n at *
  simp only [Try.f38, *, go_sem, ↓reduceIte, Nat.reduceAdd, Nat.reduceSub, Nat.reduceMul, Nat.reduceLeDiff, Nat.reduceLT, Nat.reduceEqDiff, Nat.reduceBEq, Int.reduceLT, Int.reduceLE, Int.reduceEq, Int.reduceAdd, Int.reduceNeg, Int.reduceToNat, reduceCtorEq]
  generalize hx : exe _ _ _ (.loop _) _ = r
  obtain ⟨z, s1, rfl, hp⟩ := loop_use hx (head0 _ _)
    (fun st => ∃ i : Nat, rdT st.tm 3 = .s (.int .i64 ((i + 1 : Nat) : Int)) ∧ rdT st.tm 0 = .a 0 0 n 1 ∧ rdH st.hp 0 = ⟨zs.map ieD, true, 0, true, cp⟩ ∧ i + 1 ≤ n ∧ ddS (zs.take (i + 1)) = zs.take (i + 1))
    (fun st => n - natT (rdT st.tm 3))
    (fun ex st => (ex = .exit 0 ∧ rdT st.tm 0 = .a 0 0 n 1 ∧ rdH st.hp 0 = ⟨zs.map ieD, true, 0, true, cp⟩ ∧ ddS zs = zs) ∨
      (ex = .ret ∧ rdT st.tm 2 = .a 0 0 (ddS zs).length 1 ∧ ∃ tl, rdH st.hp 0 = ⟨(ddS zs ++ tl).map ieD, true, 0, true, cp⟩))
    ⟨0, by
      have e1 : zs.take 1 = zs.take 0 ++ [zs[0]] := by rw [List.take_add_one]; simp [hnn, h0]
      have e2 : ddS (zs.take 1) = zs.take 1 := by rw [e1]; simp [ddS_one]
      have e3 : 1 ≤ n := h0
      clear e1 h0 hn h2
      simp only [*, go_sem, ↓reduceIte, Nat.reduceAdd, Nat.reduceSub, Nat.reduceMul, Nat.reduceLeDiff, Nat.reduceLT, Nat.reduceEqDiff, Nat.reduceBEq, Int.reduceLT, Int.reduceLE, Int.reduceEq, Int.reduceAdd, Int.reduceNeg, Int.reduceToNat, reduceCtorEq, Int.natCast_one, Nat.zero_add]⟩
    (by
      clear hx h2
      rintro st ⟨i, h3, h0', hH, hi, hdd⟩
      have lk := lenK_a (P := Try.prog) 34 (by kernel_rfl)
      by_cases hlt : i + 1 < n
      case neg =>
        have e1 : ¬ ((i + 1 : Nat) : Int) < (n : Int) := by omega
        have e2 : ddS zs = zs := by rw [List.take_of_length_le (by omega)] at hdd; exact hdd
        clear hdd hnn hlt hi h0 hn
        simp only [*, go_sem, ↓reduceIte, Nat.reduceAdd, Nat.reduceSub, Nat.reduceMul, Nat.reduceLeDiff, Nat.reduceLT, Nat.reduceEqDiff, Nat.reduceBEq, Int.reduceLT, Int.reduceLE, Int.reduceEq, Int.reduceAdd, Int.reduceNeg, Int.reduceToNat, reduceCtorEq]
      have e1 : ((i + 1 : Nat) : Int) < (n : Int) := by omega
      have w1 : IntKind.i64.wrap (((i + 1 : Nat) : Int) - 1) = (i : Int) := by rw [IntKind.wrap_i64]; omega
      have w2 : IntKind.i64.wrap (((i + 1 : Nat) : Int) + 1) = ((i + 1 + 1 : Nat) : Int) := by rw [IntKind.wrap_i64]; omega
      have g1 : zs[i + 1]? = some zs[i + 1] := by simp [hnn, hlt]
      have g0 : zs[i]? = some zs[i] := by simp [hnn, show i < n by omega]
      generalize zs[i + 1] = v at g1
      generalize zs[i] = u at g0
      have m1 : (zs.map ieD)[i + 1]? = some (ieD v) := by simp [g1]
      have m0 : (zs.map ieD)[i]? = some (ieD u) := by simp [g0]
      have i0 : i < n := by omega
      have ht := ddS_take zs i v u g1 g0
      by_cases huv : v = u
      case neg =>
        have huv2 : ¬ u = v := fun h => huv h.symm
        rw [if_neg huv2, hdd] at ht
        have e2 : zs.take (i + 1 + 1) = zs.take (i + 1) ++ [v] := by rw [List.take_add_one, g1]; rfl
        have e3 : ddS (zs.take (i + 1 + 1)) = zs.take (i + 1 + 1) := by rw [ht, ← e2]
        have e4 : i + 1 + 1 ≤ n := by omega
        have e5 : n - (i + 1 + 1) < n - (i + 1) := by omega
        clear hdd hnn ht e2 h0 hn hi huv2
        simp only [*, go_sem, ↓reduceIte, Nat.reduceAdd, Nat.reduceSub, Nat.reduceMul, Nat.reduceLeDiff, Nat.reduceLT, Nat.reduceEqDiff, Nat.reduceBEq, Int.reduceLT, Int.reduceLE, Int.reduceEq, Int.reduceAdd, Int.reduceNeg, Int.reduceToNat, reduceCtorEq, ieD]
        exact ⟨i + 1, rfl, e4, e3⟩
      subst huv
      rw [if_pos rfl, hdd] at ht
      have hcut : ∀ dr hp, cut Try.prog 34 dr hp (.a 0 0 n 1) (some (.s (.int .i64 ((i + 1 : Nat) : Int)))) none none = some (.a 0 (i + 1) (n - (i + 1)) 1, hp) := fun dr hp => by
        have := cut_a_lo (P := Try.prog) (t := 34) (dr := dr) (by kernel_rfl : elt Try.prog 34 = some 2) (by kernel_rfl : sz Try.prog 2 = some 1) hp .i64 0 0 n (i + 1) (by omega)
        simpa using this
      have hsp : (i + 1) + 1 ≤ n := hlt
      clear hdd
      simp only [lk, h3, h0', hH, e1, w1, m1, m0, i0, hlt, hcut, go_sem, ↓reduceIte, Nat.reduceAdd, Nat.reduceSub, Nat.reduceMul, Nat.reduceLeDiff, Nat.reduceLT, Nat.reduceEqDiff, Nat.reduceBEq, Int.reduceLT, Int.reduceLE, Int.reduceEq, Int.reduceAdd, Int.reduceNeg, Int.reduceToNat, reduceCtorEq, ieD]
      generalize hx2 : exe _ _ _ (.loop _) _ = r2
      obtain ⟨z2, s2, rfl, rfl, w, A, q3, q0, qH, qn, qw, qA⟩ := loop_use hx2 (head0 _ _)
        (fun st => ∃ (w j : Nat) (A : List Int), rdT st.tm 3 = .s (.int .i64 ((w + 1 : Nat) : Int)) ∧ rdT st.tm 5 = .s (.int .i64 ((j + 1 : Nat) : Int)) ∧ rdT st.tm 4 = .a 0 (i + 1) (n - (i + 1)) 1 ∧ rdT st.tm 0 = .a 0 0 n 1 ∧ rdH st.hp 0 = ⟨A.map ieD, true, 0, true, cp⟩ ∧
          A.length = n ∧ i + 1 + (j + 1) ≤ n ∧ w ≤ i + j ∧ A.take (w + 1) = ddS (zs.take (i + 1 + (j + 1))) ∧ A.drop (i + 1 + j) = zs.drop (i + 1 + j))
        (fun st => n - natT (rdT st.tm 5))
        (fun ex st => ex = .exit 2 ∧ ∃ (w : Nat) (A : List Int), rdT st.tm 3 = .s (.int .i64 ((w + 1 : Nat) : Int)) ∧ rdT st.tm 0 = .a 0 0 n 1 ∧ rdH st.hp 0 = ⟨A.map ieD, true, 0, true, cp⟩ ∧ A.length = n ∧ w + 1 < n ∧ A.take (w + 1) = ddS zs)
        (by
          refine ⟨i, 0, zs, ?_⟩
          have ht2 : zs.take (i + 1) = ddS (zs.take (i + 1 + (0 + 1))) := ht.symm
          have e1 : i ≤ i + 0 := Nat.le_refl _
          have e2 : zs.drop (i + 1 + 0) = zs.drop (i + 1 + 0) := rfl
          have e3 : i + 1 + (0 + 1) ≤ n := hsp
          refine ⟨?_, ?_, ?_, ?_, ?_, hnn, e3, e1, ht2, e2⟩ <;> simp only [h3, h0', hH, go_sem, ↓reduceIte, Nat.reduceAdd, Nat.reduceSub, Nat.reduceMul, Nat.reduceLeDiff, Nat.reduceLT, Nat.reduceEqDiff, Nat.reduceBEq, Int.reduceLT, Int.reduceLE, Int.reduceEq, Int.reduceAdd, Int.reduceNeg, Int.reduceToNat, reduceCtorEq, Nat.zero_add, Int.natCast_one])
        (by
          clear hx2 h3 h0' hH m1 m0 w1 w2 g1 g0 ht hcut
          rintro st ⟨w, j, A, h3, h5, h4, h0', hH, hA, hj, hw, hT, hD⟩
          by_cases hlt2 : j + 1 < n - (i + 1)
          case neg =>
            have e1 : ¬ ((j + 1 : Nat) : Int) < ((n - (i + 1) : Nat) : Int) := by omega
            have e2 : i + 1 + (j + 1) = n := by omega
            have e3 : w + 1 < n := by omega
            have hz : zs.take n = zs := List.take_of_length_le (by omega)
            rw [e2, hz] at hT
            clear hz
            clear hnn h0 hn hi hlt hsp i0 e2 hD hw hj hlt2
            simp only [lk, h3, h5, h4, h0', hH, e1, go_sem, ↓reduceIte, Nat.reduceAdd, Nat.reduceSub, Nat.reduceMul, Nat.reduceLeDiff, Nat.reduceLT, Nat.reduceEqDiff, Nat.reduceBEq, Int.reduceLT, Int.reduceLE, Int.reduceEq, Int.reduceAdd, Int.reduceNeg, Int.reduceToNat, reduceCtorEq]
            exact ⟨_, rfl, _, rfl, hA, e3, hT⟩
          have e1 : ((j + 1 : Nat) : Int) < ((n - (i + 1) : Nat) : Int) := by omega
          have e2 : j < n - (i + 1) := by omega
          have w1 : IntKind.i64.wrap (((j + 1 : Nat) : Int) - 1) = (j : Int) := by rw [IntKind.wrap_i64]; omega
          have w2 : IntKind.i64.wrap (((j + 1 : Nat) : Int) + 1) = ((j + 1 + 1 : Nat) : Int) := by rw [IntKind.wrap_i64]; omega
          have w3 : IntKind.i64.wrap (((w + 1 : Nat) : Int) + 1) = ((w + 1 + 1 : Nat) : Int) := by rw [IntKind.wrap_i64]; omega
          have g0 : zs[i + 1 + j]? = some zs[i + 1 + j] := by simp [hnn, show i + 1 + j < n by omega]
          have g1 : zs[i + 1 + (j + 1)]? = some zs[i + 1 + (j + 1)] := by simp [hnn, show i + 1 + (j + 1) < n by omega]
          generalize zs[i + 1 + j] = a at g0
          generalize zs[i + 1 + (j + 1)] = b at g1
          have a0 : A[i + 1 + j]? = some a := by
            have : (A.drop (i + 1 + j))[0]? = some a := by rw [hD]; simpa using g0
            simpa using this
          have a1 : A[i + 1 + (j + 1)]? = some b := by
            have : (A.drop (i + 1 + j))[1]? = some b := by rw [hD, List.getElem?_drop]; exact g1
            rw [List.getElem?_drop] at this
            exact this
          have m0 : (A.map ieD)[i + 1 + j]? = some (ieD a) := by simp [a0]
          have m1 : (A.map ieD)[i + 1 + (j + 1)]? = some (ieD b) := by simp [a1]
          have ht := ddS_take zs (i + 1 + j) b a g1 g0
          have e4 : i + 1 + (j + 1 + 1) ≤ n := by omega
          have e5 : n - (j + 1 + 1) < n - (j + 1) := by omega
          have hD2 : A.drop (i + 1 + (j + 1)) = zs.drop (i + 1 + (j + 1)) := by
            have := congrArg (List.drop 1) hD
            rw [List.drop_drop, List.drop_drop] at this
            exact this
          by_cases hab : b = a
          · subst hab
            rw [if_pos rfl] at ht
            have hT2 : A.take (w + 1) = ddS (zs.take (i + 1 + (j + 1 + 1))) := by rw [hT]; exact ht.symm
            have e6 : w ≤ i + (j + 1) := by omega
            clear g0 g1 a0 a1 hD hT ht hnn h0 hn hi hlt hsp i0 hw hj
            simp only [*, go_sem, ↓reduceIte, Nat.reduceAdd, Nat.reduceSub, Nat.reduceMul, Nat.reduceLeDiff, Nat.reduceLT, Nat.reduceEqDiff, Nat.reduceBEq, Int.reduceLT, Int.reduceLE, Int.reduceEq, Int.reduceAdd, Int.reduceNeg, Int.reduceToNat, reduceCtorEq, ieD]
            exact ⟨_, rfl, _, rfl, _, rfl, hA, e4, e6, hT2, hD2⟩
          · have hab2 : ¬ a = b := fun h => hab h.symm
            rw [if_neg hab2] at ht
            have k1 : w + 1 < n := by omega
            have m2 : (A.map ieD)[w + 1]? = some (ieD A[w + 1]) := by simp [hA, k1]
            have hset : (A.map ieD).set (w + 1) (ieD b) = (A.set (w + 1) b).map ieD := by simp [List.map_set]
            have hT2 : (A.set (w + 1) b).take (w + 1 + 1) = ddS (zs.take (i + 1 + (j + 1 + 1))) := by
              rw [List.take_add_one, List.take_set_of_le (by omega), hT]
              simp [hA, k1]
              exact ht.symm
            have hD3 : (A.set (w + 1) b).drop (i + 1 + (j + 1)) = zs.drop (i + 1 + (j + 1)) := by
              rw [List.drop_set_of_lt (by omega)]; exact hD2
            have e6 : w + 1 ≤ i + (j + 1) := by omega
            have hA2 : (A.set (w + 1) b).length = n := by simp [hA]
            clear g0 g1 a0 a1 hD hT ht hnn h0 hn hi hlt hsp i0 hw hj hD2
            simp only [ieD] at m0 m1 m2 hset
            simp only [*, go_sem, ↓reduceIte, Nat.reduceAdd, Nat.reduceSub, Nat.reduceMul, Nat.reduceLeDiff, Nat.reduceLT, Nat.reduceEqDiff, Nat.reduceBEq, Int.reduceLT, Int.reduceLE, Int.reduceEq, Int.reduceAdd, Int.reduceNeg, Int.reduceToNat, reduceCtorEq, ieD]
            exact ⟨_, rfl, _, rfl, _, rfl, hA2, e4, e6, hT2, hD3⟩)
      clear hx2
      have c1 : ∀ dr hp, cut Try.prog 34 dr hp (.a 0 0 n 1) (some (.s (.int .i64 ((w + 1 : Nat) : Int)))) none none = some (.a 0 (w + 1) (n - (w + 1)) 1, hp) := fun dr hp => by
        have := cut_a_lo (P := Try.prog) (t := 34) (dr := dr) (by kernel_rfl : elt Try.prog 34 = some 2) (by kernel_rfl : sz Try.prog 2 = some 1) hp .i64 0 0 n (w + 1) (by omega)
        simpa using this
      have c2 : ∀ dr hp, cut Try.prog 34 dr hp (.a 0 0 n 1) none (some (.s (.int .i64 ((w + 1 : Nat) : Int)))) none = some (.a 0 0 (w + 1) 1, hp) := fun dr hp =>
        cut_a_hi (P := Try.prog) (t := 34) (dr := dr) (by kernel_rfl : elt Try.prog 34 = some 2) (by kernel_rfl : sz Try.prog 2 = some 1) hp .i64 0 0 n (w + 1) (by omega)
      have hk : 0 < n - (w + 1) := by omega
      have hm : (ddS zs).length = w + 1 := by rw [← qA]; simp; omega
      have hwr : ∀ st : St, rdH st.hp 0 = ⟨A.map ieD, true, 0, true, cp⟩ → writeD ⟨1, 61, 38, false⟩ 1 st 0 (w + 1) (n - (w + 1)) 1 (List.replicate (n - (w + 1)) [.s (.int .i64 0)]) =
          some { tm := st.tm, hp := (0, ⟨(ddS zs ++ List.replicate (n - (w + 1)) 0).map ieD, true, 0, true, cp⟩) :: st.hp, nx := st.nx } := fun st h => by
        have hs : sizesOk 1 (List.replicate (n - (w + 1)) [D.s (.int .i64 0)]) = true := by
          have := sizes_map (f := ieD) 1 ieD_len (List.replicate (n - (w + 1)) 0)
          simpa [ieD] using this
        have hle : w + 1 + (n - (w + 1)) = n := by omega
        unfold writeD
        simp only [h, List.length_map, List.length_replicate, hs, qn, hle, Nat.le_refl, and_self, true_or, if_true]
        rw [← qA]
        simp [ieD, qn, hle, List.map_take]
      have hx3 := crt34
      clear hnn h0 hn hi hlt hsp i0 e1 w1 w2 g1 g0 m1 m0 ht h3 h0' hH hcut qw qA qn
      simp only [*, go_sem, ↓reduceIte, Nat.reduceAdd, Nat.reduceSub, Nat.reduceMul, Nat.reduceLeDiff, Nat.reduceLT, Nat.reduceEqDiff, Nat.reduceBEq, Int.reduceLT, Int.reduceLE, Int.reduceEq, Int.reduceAdd, Int.reduceNeg, Int.reduceToNat, reduceCtorEq, ieD]
      exact ⟨_, rfl⟩)
  clear hx
  rcases hp with ⟨rfl, p0, pH, pd⟩ | ⟨rfl, p2, tl, pH⟩
  · refine ⟨[], ?_⟩
    rw [pd, List.append_nil, hnn]
    clear h0 hn h2 pd hnn
    simp only [*, go_sem, ↓reduceIte, Nat.reduceAdd, Nat.reduceSub, Nat.reduceMul, Nat.reduceLeDiff, Nat.reduceLT, Nat.reduceEqDiff, Nat.reduceBEq, Int.reduceLT, Int.reduceLE, Int.reduceEq, Int.reduceAdd, Int.reduceNeg, Int.reduceToNat, reduceCtorEq]
  · refine ⟨tl, ?_⟩
    clear h0 hn h2 hnn
    simp only [*, go_sem, ↓reduceIte, Nat.reduceAdd, Nat.reduceSub, Nat.reduceMul, Nat.reduceLeDiff, Nat.reduceLT, Nat.reduceEqDiff, Nat.reduceBEq, Int.reduceLT, Int.reduceLE, Int.reduceEq, Int.reduceAdd, Int.reduceNeg, Int.reduceToNat, reduceCtorEq]

end Go.Proofs.Ytenldcieoalgoaa
end

section
/-
  All numbers at which a piece of one of two functions begins.
-/
namespace Go.Proofs.Ytenldcieoalgoaa
open Go Vm
set_option maxRecDepth 4000
set_option linter.unusedSimpArgs false
set_option linter.unusedVariables false

/-- All numbers at which a piece begins. -/
def frF (x y : List Ln) : List Int := ddS (sortZ ((x ++ y).map (·.f)))
theorem sortZ_len (l : List Int) : (sortZ l).length = l.length := (sortZ_perm l).length_eq

theorem froms30 (x y : Sl Ln) (h1 : x.xs.length ≤ 300) (h2 : y.xs.length ≤ 300) (h3 : 0 < x.xs.length) (h4 : 0 < y.xs.length) : callI Try.prog cfg 30 [x.d lne, y.d lne] [] =
    some ([(Sl.l none (frF x.xs y.xs)).d ieD], []) := by
  rw [callI_eq Try.func30 rfl rfl]
  have hc := concat36 x y h1 h2 h3 h4
  have hn : (x.xs ++ y.xs).length = x.xs.length + y.xs.length := by simp
  generalize hL : x.xs ++ y.xs = L at hc hn
  have hF : frF x.xs y.xs = ddS (sortZ (L.map (·.f))) := by unfold frF; rw [hL]
  rw [hF]
  rw [← hn] at hc
  have hn2 : L.length ≤ 600 := by omega
  have hn3 : 0 < L.length := by omega
  clear h1 h2 h3 h4 hF hL hn
  have w1 : IntKind.i64.wrap 1 = 1 := by decide
  simp only [Try.f30, hc, go_sem, ↓reduceIte, Nat.reduceAdd, Nat.reduceSub, Nat.reduceMul, Nat.reduceLeDiff, Nat.reduceLT, Nat.reduceEqDiff, Nat.reduceBEq, Int.reduceLT, Int.reduceLE, Int.reduceEq, Int.reduceAdd, Int.reduceNeg, Int.reduceToNat, reduceCtorEq]
  generalize hx : exe _ _ _ (.loop _) _ = r
  obtain ⟨z, s1, rfl, hp⟩ := list_use hx (head0 _ _) L (by omega)
    (fun i (b : List Int) st => rdT st.tm 13 = .s (.int .i64 (i : Int)) ∧ rdT st.tm 12 = .s (.int .i64 (L.length : Int)) ∧ rdT st.tm 11 = .a 27 0 L.length 3 ∧ rdH st.hp 27 = ⟨L.map lne, true, 0, true, none⟩ ∧ 28 ≤ st.nx ∧ b.length = i ∧ Acc st.hp 28 st.nx 1 (b.map ieD) (rdT st.tm 5))
    (fun b l => b ++ l.map (·.f))
    (fun r ex st2 => ex = .exit 0 ∧ 28 ≤ st2.nx ∧ Acc st2.hp 28 st2.nx 1 (r.map ieD) (rdT st2.tm 5)) []
    (by simp only [*, go_sem, ↓reduceIte, Nat.reduceAdd, Nat.reduceSub, Nat.reduceMul, Nat.reduceLeDiff, Nat.reduceLT, Nat.reduceEqDiff, Nat.reduceBEq, Int.reduceLT, Int.reduceLE, Int.reduceEq, Int.reduceAdd, Int.reduceNeg, Int.reduceToNat, reduceCtorEq]; exact acc_nil _ _ _ _) (by
      clear hx hc
      rintro i b st a l ha hd hlt hw ⟨h13, h12, h11, h27, hnx, hbl, hacc⟩
      generalize h5 : rdT st.tm 5 = d at hacc
      have hi := (List.getElem?_eq_some_iff.1 ha).1
      have n0 : ¬ st.nx = 27 := by omega
      have n1 : ¬ st.nx + 1 = 27 := by omega
      have n2 : 28 ≤ st.nx + 1 + 1 := by omega
      have m0 : (L.map lne)[i]? = some (lne a) := by simp [ha]
      have happ := app_one (α := Int) (f := ieD) (k := 0) (nt := 27) (fn := 30) (ro := true) (K := 28) (N := st.nx) (bytes := 8) (xs := b) (d := d) a.f ieD_len (Nat.zero_le _) (by omega) (by omega)
      have hh := fun hp' (h : Vm.Acc hp' 28 st.nx 1 (b.map ieD) d) => rdH_accH h (j := 27) (by omega)
      simp only [lne, ieD] at m0 happ
      clear hd hn2 hn3 ha
      simp only [*, go_sem, ↓reduceIte, Nat.reduceAdd, Nat.reduceSub, Nat.reduceMul, Nat.reduceLeDiff, Nat.reduceLT, Nat.reduceEqDiff, Nat.reduceBEq, Int.reduceLT, Int.reduceLE, Int.reduceEq, Int.reduceAdd, Int.reduceNeg, Int.reduceToNat, reduceCtorEq, lne, ieD]
      refine ⟨b ++ [a.f], ?_⟩
      simp only [List.length_append, List.length_cons, List.length_nil, List.append_assoc, List.cons_append, List.nil_append, hbl, and_true, true_and]
      exact acc_new (by omega) (by omega) (by simp; omega) (by simp))
    (by
      clear hx hc
      rintro b st ⟨h13, h12, h11, h27, hnx, hbl, hacc⟩
      simp only [*, go_sem, ↓reduceIte, Nat.reduceAdd, Nat.reduceSub, Nat.reduceMul, Nat.reduceLeDiff, Nat.reduceLT, Nat.reduceEqDiff, Nat.reduceBEq, Int.reduceLT, Int.reduceLE, Int.reduceEq, Int.reduceAdd, Int.reduceNeg, Int.reduceToNat, reduceCtorEq, Int.lt_irrefl])
  clear hx hc
  obtain ⟨rfl, p1, p2⟩ := hp
  simp only [List.nil_append] at p2
  generalize hM : L.map (·.f) = M at p2
  have hM2 : M.length = L.length := by rw [← hM]; simp
  rcases p2 with ⟨_, p2⟩ | ⟨id, q1, q2, q3, q4, q5⟩
  · have : M = [] := by simpa using p2
    rw [this] at hM2; simp at hM2; omega
  rw [List.length_map] at q4
  have hs := sort37 M (by omega) (by omega) none
  obtain ⟨tl, hk⟩ := compact38 (sortZ M) (by rw [sortZ_len]; omega) (by rw [sortZ_len]; omega) none
  rw [sortZ_len] at hk
  have ht : ((ddS (sortZ M) ++ tl).map ieD).take (ddS (sortZ M)).length = (ddS (sortZ M)).map ieD := by rw [← List.map_take]; simp
  have hle : (ddS (sortZ M)).length ≤ (ddS (sortZ M)).length + tl.length := by omega
  clear q3 hM2 hM hn2 hn3
  simp only [*, go_sem, ↓reduceIte, Nat.reduceAdd, Nat.reduceSub, Nat.reduceMul, Nat.reduceLeDiff, Nat.reduceLT, Nat.reduceEqDiff, Nat.reduceBEq, Int.reduceLT, Int.reduceLE, Int.reduceEq, Int.reduceAdd, Int.reduceNeg, Int.reduceToNat, reduceCtorEq, List.drop_zero, List.length_append, Nat.zero_add, Sl.d]

end Go.Proofs.Ytenldcieoalgoaa
end
