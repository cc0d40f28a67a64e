/-
  Texts that the last one of this claim leans on (part 3).
-/
import Derived.Laws.StructEq
import Derived.Test.YtffgjmfkkfinlaaGreatProg
import Derived.KernelRfl
import Derived.Test.YtffgjmfkkfinlaaGreatJb
set_option linter.unusedSimpArgs false
set_option linter.unusedVariables false
set_option linter.unusedSectionVars false

/-
  The machine of values, step by step, where what it holds is not known: equations to go on with (go_sem).
-/
namespace Go.Proofs.YtffgjmfkkfinlaaGreat
namespace Vm
open Go Go.RowKit

section
variable {P : Program} {c : Cfg} {fr : Fr} {dr : Bool} {call : Vm.Callee} {ops : Array Oper}

attribute [go_sem] e_seq e_block e_skip e_exit e_ret e_label e_goto e_cond
@[go_sem] theorem kX_some (b : Code) (st : St) : kX P c fr b (some (.normal, st)) = exe P c fr b st := rfl
@[go_sem] theorem kX_ret (b : Code) (st : St) : kX P c fr b (some (.ret, st)) = some (.ret, st) := rfl
@[go_sem] theorem kX_exit (b : Code) (i : Nat) (st : St) : kX P c fr b (some (.exit i, st)) = some (.exit i, st) := rfl
@[go_sem] theorem kX_goto (b : Code) (i : Nat) (st : St) : kX P c fr b (some (.goto i, st)) = some (.goto i, st) := rfl
@[go_sem] theorem kB_normal (id : Nat) (st : St) : kB id (some (.normal, st)) = some (.normal, st) := rfl
@[go_sem] theorem kB_ret (id : Nat) (st : St) : kB id (some (.ret, st)) = some (.ret, st) := rfl
@[go_sem] theorem kB_goto (id l : Nat) (st : St) : kB id (some (.goto l, st)) = some (.goto l, st) := rfl
@[go_sem] theorem kB_exit (id j : Nat) (st : St) : kB id (some (.exit j, st)) = if j = id then some (.normal, st) else some (.exit j, st) := rfl
@[go_sem] theorem kC_bool (a b : Code) (st : St) (t : Bool) : kC P c fr a b st (.s (.bool t)) = if t = true then exe P c fr a st else exe P c fr b st := rfl
@[go_sem] theorem kN_some (st : St) : kN (some st) = some (.normal, st) := rfl
@[go_sem] theorem o_nil (st : St) : opsD P c fr dr call ops [] st = some st := rfl
@[go_sem] theorem o_cons (o : Oper) (l : List Oper) (st : St) : opsD P c fr dr call ops (o :: l) st = kO P c fr dr call ops l (operD P c fr dr call ops st o) := rfl
@[go_sem] theorem kO_some (l : List Oper) (st : St) : kO P c fr dr call ops l (some st) = opsD P c fr dr call ops l st := rfl

/-- An operation without a guard. -/
def putS (dst : Option Tmp) (r : Option (D × St)) : Option St := match r with
  | some (d, st) => (match dst with | some t => some { tm := (t, d) :: st.tm, hp := st.hp, nx := st.nx } | none => some st)
  | none => none
@[go_sem] theorem op_plain (dst : Option Tmp) (op : Op) (ty : TypeId) (pos : String) (after : Array Edge) (st : St) : operD P c fr dr call ops st { dst := dst, op := op, type := ty, pos := pos, after := after, guard := none } = putS dst (opD P c fr dr call st { dst := dst, op := op, type := ty, pos := pos, after := after, guard := none }) := by
  unfold operD putS
  dsimp only
  cases opD P c fr dr call st _ with
  | none => rfl
  | some r => cases dst <;> rfl
@[go_sem] theorem putS_some (t : Tmp) (d : D) (st : St) : putS (some t) (some (d, st)) = some { tm := (t, d) :: st.tm, hp := st.hp, nx := st.nx } := rfl
@[go_sem] theorem putS_none (d : D) (st : St) : putS none (some (d, st)) = some st := rfl

def k0 (st : St) (r : Option D) : Option (D × St) := match r with
  | some d => some (d, st)
  | none => none
@[go_sem] theorem k0_some (st : St) (d : D) : k0 st (some d) = some (d, st) := rfl
variable (dst : Option Tmp) (ty : TypeId) (pos : String) (after : Array Edge) (guard : Option (Nat × Bool)) (st : St)
@[go_sem] theorem d_move (x : Operand) : opD P c fr dr call st { dst := dst, op := .move x, type := ty, pos := pos, after := after, guard := guard } = some (ev st.tm x, st) := rfl
@[go_sem] theorem d_assign (x : Operand) : opD P c fr dr call st { dst := dst, op := .assign x, type := ty, pos := pos, after := after, guard := guard } = some (ev st.tm x, st) := rfl
@[go_sem] theorem d_binOp (op : BinOp) (t t' : TypeId) (x y : Operand) : opD P c fr dr call st { dst := dst, op := .binOp op t x y t', type := ty, pos := pos, after := after, guard := guard } = k0 st (binD P op t (ev st.tm x) (ev st.tm y)) := rfl

@[go_sem] theorem ev_tmp (tm : List (Nat × D)) (t : Nat) : ev tm (.tmp t) = rdT tm t := rfl
@[go_sem] theorem ev_const (tm : List (Nat × D)) (v : Value) : ev tm (.const v) = ofValue v := rfl
@[go_sem] theorem ev_func (tm : List (Nat × D)) (f : FuncId) : ev tm (.func f) = .f (.func f) [] [] := rfl
@[go_sem] theorem ofV_int (k : IntKind) (x : Int) : ofValue (.int k x) = .s (.int k x) := rfl
@[go_sem] theorem ofV_bool (b : Bool) : ofValue (.bool b) = .s (.bool b) := rfl
@[go_sem] theorem ofV_slice : ofValue (.slice none 0 0) = nilS := rfl
@[go_sem] theorem ofV_ptr : ofValue (.pointer none) = .s (.pointer none) := rfl
@[go_sem] theorem ofV_nilF : ofValue .nilFunc = .s .nilFunc := rfl
@[go_sem] theorem ofV_str (b : ByteArray) : ofValue (.string b) = .s (.string b) := rfl
@[go_sem] theorem rdT_cons (i j : Nat) (d : D) (m : List (Nat × D)) : rdT ((i, d) :: m) j = if i = j then d else rdT m j := rfl

/-! Addresses of elements -/
def qOf (m : Nat) (r : Option (List D)) : Option D := match r with
  | some c => if c.length = m then some (.q c) else none
  | none => none
def ixL (s : Option Nat) (dx : D) (n : Int) : Option D := match s with
  | some m => if 0 ≤ n then (match dx with
      | .l _ es => qOf m es[n.toNat]?
      | .a id lo len z => if n < len ∧ z = m then some (.p id (lo + n.toNat) 0) else none
      | _ => none) else none
  | none => none
def ixA (P : Program) (dx : D) (n : Int) (a : Option (Nat × TypeId)) : Option D := match a with
  | some (len, el) => (match sz P el with
    | some m => if 0 ≤ n ∧ n < len then (match dx with
        | .p id j off => some (.p id j (off + n.toNat * m))
        | .q cs => some (.q (cs.drop (n.toNat * m)))
        | _ => none) else none
    | none => none)
  | none => none
def ix (P : Program) (t : TypeId) (dx di : D) (e : Option TypeId) : Option D := match di with
  | .s (.int _ n) => (match e with
    | some el => ixL (sz P el) dx n
    | none => ixA P dx n (arr P t))
  | _ => none
@[go_sem] theorem d_indexAddr (t : TypeId) (x i : Operand) : opD P c fr dr call st { dst := dst, op := .indexAddr t x i, type := ty, pos := pos, after := after, guard := guard } = k0 st (ix P t (ev st.tm x) (ev st.tm i) (elt P t)) := by
  have e : opD P c fr dr call st { dst := dst, op := .indexAddr t x i, type := ty, pos := pos, after := after, guard := guard } = k0 st (op0 P st.tm { dst := dst, op := .indexAddr t x i, type := ty, pos := pos, after := after, guard := guard }) := rfl
  rw [e]
  congr 1
@[go_sem] theorem ix_some (t el : TypeId) (dx : D) (k : IntKind) (n : Int) : ix P t dx (.s (.int k n)) (some el) = ixL (sz P el) dx n := rfl
@[go_sem] theorem ix_none (t : TypeId) (dx : D) (k : IntKind) (n : Int) : ix P t dx (.s (.int k n)) none = ixA P dx n (arr P t) := rfl
@[go_sem] theorem ixL_nat (m i : Nat) (cap : Option Nat) (es : List (List D)) : ixL (some m) (.l cap es) (i : Int) = qOf m es[i]? := by simp [ixL]
@[go_sem] theorem ixL_a (m i id lo len : Nat) (h : i < len) : ixL (some m) (.a id lo len m) (i : Int) = some (.p id (lo + i) 0) := by
  have : (i : Int) < (len : Int) := by omega
  simp [ixL, this]
@[go_sem] theorem ixA_p (m len el id j off i : Nat) (hs : sz P el = some m) (h : i < len) : ixA P (.p id j off) (i : Int) (some (len, el)) = some (.p id j (off + i * m)) := by
  have : (i : Int) < (len : Int) := by omega
  simp [ixA, hs, this]
@[go_sem] theorem ixA_q (m len el i : Nat) (cs : List D) (hs : sz P el = some m) (h : i < len) : ixA P (.q cs) (i : Int) (some (len, el)) = some (.q (cs.drop (i * m))) := by
  have : (i : Int) < (len : Int) := by omega
  simp [ixA, hs, this]
@[go_sem] theorem qOf_some (m : Nat) (cs : List D) : qOf m (some cs) = if cs.length = m then some (.q cs) else none := rfl

/-! Loads -/
def ldC (ag : Bool) (s : Option Nat) (r : Option (List D)) : Option D := match r, s with
  | some cs, some n => loadD ag n cs
  | _, _ => none
theorem d_load (t : TypeId) (x : Operand) (hf : ∀ t, c.free fr.fn t = false) : opD P c fr dr call st { dst := dst, op := .load t x, type := ty, pos := pos, after := after, guard := guard } = k0 st (ldC (agg P t) (sz P t) (memAt st.hp (ev st.tm x))) := by
  have hc : cls c fr.fn { dst := dst, op := .load t x, type := ty, pos := pos, after := after, guard := guard } = 1 := by
    unfold cls; cases dst <;> simp [hf]
  unfold opD; rw [hc]
  unfold op1
  dsimp only
  unfold ldC
  cases memAt st.hp (ev st.tm x) <;> cases sz P t <;> rfl
@[go_sem] theorem ldC_some (ag : Bool) (n : Nat) (cs : List D) : ldC ag (some n) (some cs) = loadD ag n cs := rfl
@[go_sem] theorem memAt_q (hp : List (Nat × Blk)) (cs : List D) : memAt hp (.q cs) = some cs := rfl
@[go_sem] theorem loadD_one (n : Nat) (d : D) (cs : List D) : loadD false n (d :: cs) = some d := rfl
@[go_sem] theorem loadD_agg (n : Nat) (cs : List D) : loadD true n cs = if n ≤ cs.length then some (.g (cs.take n)) else none := rfl

/-! The rest -/
def pk (d x y : D) : Option D := match d with
  | .s (.bool t) => some (if t = true then x else y)
  | _ => none
@[go_sem] theorem d_pick (b x y : Operand) : opD P c fr dr call st { dst := dst, op := .pick b x y, type := ty, pos := pos, after := after, guard := guard } = k0 st (pk (ev st.tm b) (ev st.tm x) (ev st.tm y)) := rfl
@[go_sem] theorem pk_bool (t : Bool) (x y : D) : pk (.s (.bool t)) x y = some (if t = true then x else y) := rfl
def lenK (P : Program) (t : TypeId) (d : D) : Option D := if lenT P t d = true then (match lenD d with | some n => some (.s (.int .i64 n)) | none => none) else none
@[go_sem] theorem d_len (x : Operand) (t : TypeId) : opD P c fr dr call st { dst := dst, op := .call { callee := .builtin .len, args := #[x], argTypes := #[t] }, type := ty, pos := pos, after := after, guard := guard } = k0 st (lenK P t (ev st.tm x)) := rfl
/-- Has a type of slices been named? -/
def lenS (P : Program) (t : TypeId) : Bool := match P.underlying t with | some (.slice _) => true | _ => false
theorem lenK_l (t : TypeId) (h : lenS P t = true) (cap : Option Nat) (es : List (List D)) : lenK P t (.l cap es) = some (.s (.int .i64 es.length)) := by
  have : lenT P t (.l cap es) = lenS P t := rfl
  simp only [lenK, this, h, if_true, lenD]
theorem lenK_a (t : TypeId) (h : lenS P t = true) (id lo n z : Nat) : lenK P t (.a id lo n z) = some (.s (.int .i64 n)) := by
  have : lenT P t (.a id lo n z) = lenS P t := rfl
  simp only [lenK, this, h, if_true, lenD]
theorem lenK_nil (t : TypeId) (h : lenS P t = true) : lenK P t nilS = some (.s (.int .i64 0)) := by
  have e : lenT P t nilS = lenS P t := rfl
  unfold lenK
  rw [e, h]
  rfl
@[go_sem] theorem d_field (t : TypeId) (x : Operand) (i : Nat) : opD P c fr dr call st { dst := dst, op := .field t x i, type := ty, pos := pos, after := after, guard := guard } = k0 st (op0 P st.tm { dst := dst, op := .field t x i, type := ty, pos := pos, after := after, guard := guard }) := rfl
@[go_sem] theorem d_call (g : FuncId) (xs : Array Operand) (ts : Array TypeId) : opD P c fr dr call st { dst := dst, op := .call { callee := .value (.func g), args := xs, argTypes := ts }, type := ty, pos := pos, after := after, guard := guard } =
    callD c fr (dr && !c.wr g) call g (xs.toList.map (ev st.tm)) st := by
  unfold opD cls
  cases h : c.wr g <;> simp only [h, Bool.false_eq_true, if_false, if_true] <;> unfold op1 <;> simp only [h]

/-- An operation with a guard. -/
def gT (tm : List (Nat × D)) (t : Option Tmp) : Option D := match t with
  | some t => some (rdT tm t)
  | none => none
def kG (want : Bool) (dst : Option Tmp) (st : St) (r : Option St) (d : Option D) : Option St := match d with
  | some (.s (.bool b)) => if b = want then r else putS dst (some (und, st))
  | some (.s _) => putS dst (some (und, st))
  | _ => none
theorem put_eq1 (dst : Option Tmp) (r : Option (D × St)) : (match r with
    | some (d, st') => some (match dst with | some t => ({ st' with tm := (t, d) :: st'.tm } : St) | none => st')
    | none => none) = putS dst r := by
  cases r with
  | none => rfl
  | some r => cases dst <;> rfl
theorem put_eq2 (dst : Option Tmp) (d : D) (st : St) : some (match dst with | some t => ({ st with tm := (t, d) :: st.tm } : St) | none => st) = putS dst (some (d, st)) := by
  cases dst <;> rfl
@[go_sem] theorem op_grd {ops : Array Oper} (op : Op) (j : Nat) (want : Bool) : operD P c fr dr call ops st { dst := dst, op := op, type := ty, pos := pos, after := after, guard := some (j, want) } =
    kG want dst st (putS dst (opD P c fr dr call st { dst := dst, op := op, type := ty, pos := pos, after := after, guard := some (j, want) })) (gT st.tm ((ops[j]?).bind (·.dst))) := by
  unfold operD kG gT
  dsimp only
  cases (ops[j]?).bind (·.dst) with
  | none => rfl
  | some t =>
    dsimp only
    cases rdT st.tm t with
    | s v =>
      cases v with
      | bool b =>
        dsimp only
        split
        · exact put_eq1 _ _
        · exact put_eq2 _ _ _
      | _ => exact put_eq2 _ _ _
    | _ => rfl
@[go_sem] theorem gT_some (tm : List (Nat × D)) (t : Tmp) : gT tm (some t) = some (rdT tm t) := rfl
@[go_sem] theorem kG_bool (want b : Bool) (r : Option St) : kG want dst st r (some (.s (.bool b))) = if b = want then r else putS dst (some (und, st)) := rfl
@[go_sem] theorem kG_und (want : Bool) (r : Option St) : kG want dst st r (some und) = putS dst (some (und, st)) := rfl
def unD (P : Program) (op : UnOp) (d : D) : Option D := match d with
  | .s v => (match val P (Op.unary op v) with | some r => some (ofValue r) | none => none)
  | _ => none
@[go_sem] theorem d_unOp (op : UnOp) (t : TypeId) (x : Operand) : opD P c fr dr call st { dst := dst, op := .unOp op t x, type := ty, pos := pos, after := after, guard := guard } = k0 st (unD P op (ev st.tm x)) := rfl
@[go_sem] theorem unD_not (b : Bool) : unD P .not (.s (.bool b)) = some (.s (.bool !b)) := rfl

def cvD (P : Program) (a b : TypeId) (d : D) : Option D := match d with
  | .s v => (match val P (convert a b v) with | some r => some (ofValue r) | none => none)
  | _ => none
@[go_sem] theorem d_convert (a b : TypeId) (x : Operand) : opD P c fr dr call st { dst := dst, op := .convert a b x, type := ty, pos := pos, after := after, guard := guard } = k0 st (cvD P a b (ev st.tm x)) := rfl
def exD (i : Nat) (d : D) : Option D := match d with
  | .t vs => vs[i]?
  | _ => none
@[go_sem] theorem d_extract (x : Operand) (i : Nat) : opD P c fr dr call st { dst := dst, op := .extract x i, type := ty, pos := pos, after := after, guard := guard } = k0 st (exD i (ev st.tm x)) := rfl
@[go_sem] theorem exD_t (i : Nat) (vs : List D) : exD i (.t vs) = vs[i]? := rfl
@[go_sem] theorem d_makeFunc (fn : Fn) (x y : Array Operand) : opD P c fr dr call st { dst := dst, op := .makeFunc fn x y, type := ty, pos := pos, after := after, guard := guard } = some (.f fn (x.toList.map (ev st.tm)) (y.toList.map (ev st.tm)), st) := rfl
def ncD (d : D) : Option D := match d with
  | .p id i off => some (.p id i off)
  | .q cs => some (.q cs)
  | .f (.func g) x y => some (.f (.func g) x y)
  | _ => none
@[go_sem] theorem d_nilCheck (x : Operand) : opD P c fr dr call st { dst := dst, op := .nilCheck x, type := ty, pos := pos, after := after, guard := guard } = k0 st (ncD (ev st.tm x)) := rfl
@[go_sem] theorem ncD_p (id i off : Nat) : ncD (.p id i off) = some (.p id i off) := rfl
@[go_sem] theorem ncD_q (cs : List D) : ncD (.q cs) = some (.q cs) := rfl
@[go_sem] theorem ncD_f (g : FuncId) (x y : List D) : ncD (.f (.func g) x y) = some (.f (.func g) x y) := rfl

/-! Structs that are built -/
def bdF (z : List D) (r : Option (List (Nat × List D))) : Option D := match r with
  | some ps => (match fillD z ps with | some cs => some (.g cs) | none => none)
  | none => none
def bdZ (ok : Bool) (z : Option (List D)) (r : Option (List (Nat × List D))) : Option D := match ok, z with
  | true, some z => bdF z r
  | _, _ => none
@[go_sem] theorem d_build (t : TypeId) (ps : Array (Nat × Operand)) : opD P c fr dr call st { dst := dst, op := .build t ps, type := ty, pos := pos, after := after, guard := guard } = k0 st (bdZ (agg P t && structOk P t) (zer P t) (partsOf P t st.tm ps.toList)) := by
  have e : opD P c fr dr call st { dst := dst, op := .build t ps, type := ty, pos := pos, after := after, guard := guard } = k0 st (op0 P st.tm { dst := dst, op := .build t ps, type := ty, pos := pos, after := after, guard := guard }) := rfl
  rw [e]; congr 1
  unfold op0 bdZ bdF
  dsimp only
  cases zer P t <;> cases partsOf P t st.tm ps.toList <;> cases (agg P t && structOk P t) <;> rfl
@[go_sem] theorem bdZ_some (z : List D) (r : Option (List (Nat × List D))) : bdZ true (some z) r = bdF z r := rfl
def bdG (r : Option (List D)) : Option D := match r with | some cs => some (.g cs) | none => none
@[go_sem] theorem bdF_some (z : List D) (ps : List (Nat × List D)) : bdF z (some ps) = bdG (fillD z ps) := by
  unfold bdF bdG; rfl
@[go_sem] theorem bdG_some (cs : List D) : bdG (some cs) = some (.g cs) := rfl
@[go_sem] theorem fillD_nil (cs : List D) : fillD cs [] = some cs := rfl
@[go_sem] theorem fillD_cons (cs : List D) (off : Nat) (v : List D) (r : List (Nat × List D)) : fillD cs ((off, v) :: r) = if off + v.length ≤ cs.length then fillD (cs.take off ++ v ++ cs.drop (off + v.length)) r else none := rfl
def ptR (off : Nat) (v : List D) (r : Option (List (Nat × List D))) : Option (List (Nat × List D)) := match r with
  | some ps => some ((off, v) :: ps)
  | none => none
def ptF (v : List D) (f : Option (Nat × Nat)) (r : Option (List (Nat × List D))) : Option (List (Nat × List D)) := match f with
  | some (off, n) => if v.length = n then ptR off v r else none
  | none => none
def ptA (P : Program) (t : TypeId) (i : Nat) (v : List D) (a : Option (Nat × TypeId)) (r : Option (List (Nat × List D))) : Option (List (Nat × List D)) := match a with
  | some (_, e) => (match sz P e with | some n => if v.length = n then ptR (i * n) v r else none | none => none)
  | none => ptF v (fld P t i) r
def ptC (P : Program) (t : TypeId) (i : Nat) (v : Option (List D)) (r : Option (List (Nat × List D))) : Option (List (Nat × List D)) := match v with
  | some v => ptA P t i v (arr P t) r
  | none => none
@[go_sem] theorem partsOf_nil (t : TypeId) (tm : List (Nat × D)) : partsOf P t tm [] = some [] := rfl
@[go_sem] theorem partsOf_cons (t : TypeId) (tm : List (Nat × D)) (i : Nat) (x : Operand) (r : List (Nat × Operand)) : partsOf P t tm ((i, x) :: r) = ptC P t i (cellsOf (ev tm x)) (partsOf P t tm r) := by
  simp only [partsOf]
  unfold ptC ptA ptF ptR
  cases cellsOf (ev tm x) with
  | none => rfl
  | some v =>
    dsimp only
    cases arr P t with
    | none =>
      dsimp only
      cases fld P t i with
      | none => rfl
      | some f =>
        obtain ⟨off, n⟩ := f
        dsimp only
        by_cases h : v.length = n
        · simp only [h, if_true]; cases partsOf P t tm r <;> rfl
        · simp only [h, if_false]
    | some a =>
      obtain ⟨_, e⟩ := a
      dsimp only
      cases sz P e with
      | none => rfl
      | some n =>
        dsimp only
        by_cases h : v.length = n
        · simp only [h, if_true]; cases partsOf P t tm r <;> rfl
        · simp only [h, if_false]
@[go_sem] theorem ptC_some (t : TypeId) (i : Nat) (v : List D) (r : Option (List (Nat × List D))) : ptC P t i (some v) r = ptA P t i v (arr P t) r := rfl
@[go_sem] theorem ptA_none (t : TypeId) (i : Nat) (v : List D) (r : Option (List (Nat × List D))) : ptA P t i v none r = ptF v (fld P t i) r := rfl
@[go_sem] theorem ptA_some (t : TypeId) (i n e : Nat) (v : List D) (r : Option (List (Nat × List D))) : ptA P t i v (some (n, e)) r = ptF v (match sz P e with | some m => some (i * m, m) | none => none) r := by
  unfold ptA ptF
  dsimp only
  cases sz P e <;> rfl
@[go_sem] theorem ptF_some (off n : Nat) (v : List D) (r : Option (List (Nat × List D))) : ptF v (some (off, n)) r = if v.length = n then ptR off v r else none := rfl
@[go_sem] theorem ptR_some (off : Nat) (v : List D) (ps : List (Nat × List D)) : ptR off v (some ps) = some ((off, v) :: ps) := rfl

/-! Fields of structs that are values -/
def fdG (cs : List D) (f : Option (Nat × Nat)) (ag : Option Bool) : Option D := match f, ag with
  | some (off, n), some ag => loadD ag n (cs.drop off)
  | _, _ => none
def agF (P : Program) (t : TypeId) (i : Nat) : Option Bool := match P.underlying t with | some (.struct fs) => (fs[i]?).map (fun f => agg P f.type) | _ => none
def fdD (P : Program) (t : TypeId) (i : Nat) (d : D) : Option D := match d with
  | .g cs => fdG cs (fld P t i) (agF P t i)
  | _ => none
@[go_sem] theorem op0_field (tm : List (Nat × D)) (t : TypeId) (x : Operand) (i : Nat) : op0 P tm { dst := dst, op := .field t x i, type := ty, pos := pos, after := after, guard := guard } = fdD P t i (ev tm x) := by
  unfold op0 fdD fdG agF
  dsimp only
  cases ev tm x with
  | g cs =>
    dsimp only
    cases fld P t i with
    | none => rfl
    | some f =>
      obtain ⟨off, n⟩ := f
      dsimp only
      cases P.underlying t with
      | none => rfl
      | some ty => cases ty <;> first | rfl | (dsimp only; split <;> first | rfl | (rename_i h; rw [h]))
  | _ => rfl
@[go_sem] theorem fdD_g (t : TypeId) (i : Nat) (cs : List D) : fdD P t i (.g cs) = fdG cs (fld P t i) (agF P t i) := rfl
@[go_sem] theorem fdG_some (cs : List D) (off n : Nat) (ag : Bool) : fdG cs (some (off, n)) (some ag) = loadD ag n (cs.drop off) := rfl

/-! Slices that are built -/
def bsE (len n : Nat) (z : Bool) (r : Option (List (List D))) : Option D := match r with
  | some es => if es.length = len ∧ allPureE es = true ∧ len * n ≤ 16777216 ∧ 0 < n ∧ z = true then some (.l (some len) es) else none
  | none => none
def bsS (tm : List (Nat × D)) (len : Nat) (ps : List (Nat × Operand)) (z : Bool) (s : Option Nat) : Option D := match s with
  | some n => bsE len n z (elemsOf tm n 0 ps)
  | none => none
def bsT (P : Program) (tm : List (Nat × D)) (len : Nat) (ps : List (Nat × Operand)) (e : Option TypeId) : Option D := match e with
  | some el => bsS tm len ps (zer P el).isSome (sz P el)
  | none => none
@[go_sem] theorem d_buildSlice (t : TypeId) (len : Nat) (ps : Array (Nat × Operand)) : opD P c fr dr call st { dst := dst, op := .buildSlice t len ps, type := ty, pos := pos, after := after, guard := guard } = k0 st (bsT P st.tm len ps.toList (elt P t)) := by
  have e : opD P c fr dr call st { dst := dst, op := .buildSlice t len ps, type := ty, pos := pos, after := after, guard := guard } = op1 P c fr dr call st { dst := dst, op := .buildSlice t len ps, type := ty, pos := pos, after := after, guard := guard } := rfl
  rw [e]
  unfold op1 bsT bsS bsE
  dsimp only
  cases elt P t with
  | none => rfl
  | some el =>
    dsimp only
    cases sz P el with
    | none => rfl
    | some n =>
      dsimp only
      cases elemsOf st.tm n 0 ps.toList with
      | none => rfl
      | some es => dsimp only; split <;> rfl
@[go_sem] theorem bsT_some (tm : List (Nat × D)) (len : Nat) (ps : List (Nat × Operand)) (el : TypeId) : bsT P tm len ps (some el) = bsS tm len ps (zer P el).isSome (sz P el) := rfl
@[go_sem] theorem bsS_some (tm : List (Nat × D)) (len : Nat) (ps : List (Nat × Operand)) (z : Bool) (n : Nat) : bsS tm len ps z (some n) = bsE len n z (elemsOf tm n 0 ps) := rfl
@[go_sem] theorem bsE_some (len n : Nat) (z : Bool) (es : List (List D)) : bsE len n z (some es) = if es.length = len ∧ allPureE es = true ∧ len * n ≤ 16777216 ∧ 0 < n ∧ z = true then some (.l (some len) es) else none := rfl
def elC (n i j : Nat) (v : Option (List D)) (r : Option (List (List D))) : Option (List (List D)) := match v with
  | some v => if i = j ∧ v.length = n then (match r with | some es => some (v :: es) | none => none) else none
  | none => none
@[go_sem] theorem elemsOf_nil (tm : List (Nat × D)) (n j : Nat) : elemsOf tm n j [] = some [] := rfl
@[go_sem] theorem elemsOf_cons (tm : List (Nat × D)) (n j i : Nat) (x : Operand) (r : List (Nat × Operand)) : elemsOf tm n j ((i, x) :: r) = elC n i j (cellsOf (ev tm x)) (elemsOf tm n (j + 1) r) := by
  simp only [elemsOf]
  cases cellsOf (ev tm x) with
  | none => rfl
  | some v => dsimp only [elC]; split <;> first | rfl | (cases elemsOf tm n (j + 1) r <;> rfl)
@[go_sem] theorem elC_some (n i j : Nat) (v : List D) (es : List (List D)) : elC n i j (some v) (some es) = if i = j ∧ v.length = n then some (v :: es) else none := rfl
@[go_sem] theorem cells_int (k : IntKind) (x : Int) : cellsOf (.s (.int k x)) = some [.s (.int k x)] := rfl
@[go_sem] theorem cells_bool (b : Bool) : cellsOf (.s (.bool b)) = some [.s (.bool b)] := rfl
@[go_sem] theorem cells_str (b : ByteArray) : cellsOf (.s (.string b)) = some [.s (.string b)] := rfl
@[go_sem] theorem cells_g (cs : List D) : cellsOf (.g cs) = some cs := rfl
@[go_sem] theorem cells_p (id i off : Nat) : cellsOf (.p id i off) = some [.p id i off] := rfl
@[go_sem] theorem cells_q (cs : List D) : cellsOf (.q cs) = some [.q cs] := rfl
@[go_sem] theorem cells_l (cap : Option Nat) (es : List (List D)) : cellsOf (.l cap es) = some [.l cap es] := rfl
@[go_sem] theorem cells_a (id lo n z : Nat) : cellsOf (.a id lo n z) = some [.a id lo n z] := rfl
@[go_sem] theorem cells_nil : cellsOf nilS = some [nilS] := rfl
@[go_sem] theorem cells_nilp : cellsOf (.s (.pointer none)) = some [.s (.pointer none)] := rfl
@[go_sem] theorem cells_f (fn : Fn) (x y : List D) : cellsOf (.f fn x y) = some [.f fn x y] := rfl

/-! New variables; addresses of fields; stores -/
def nvD (st : St) (z : Option (List D)) : Option (D × St) := match z with
  | some z => some (.p st.nx 0 0, { tm := st.tm, hp := (st.nx, ⟨[z], false, 0, allPure z, none⟩) :: st.hp, nx := st.nx + 1 })
  | none => none
@[go_sem] theorem d_alloc (t : TypeId) : opD P c fr dr call st { dst := dst, op := .alloc t, type := ty, pos := pos, after := after, guard := guard } = nvD st (zer P t) := by
  have e : opD P c fr dr call st { dst := dst, op := .alloc t, type := ty, pos := pos, after := after, guard := guard } = op1 P c fr dr call st { dst := dst, op := .alloc t, type := ty, pos := pos, after := after, guard := guard } := rfl
  rw [e]; unfold op1 nvD; dsimp only; cases zer P t <;> rfl
@[go_sem] theorem d_box (t : TypeId) (x : Operand) : opD P c fr dr call st { dst := dst, op := .box t x, type := ty, pos := pos, after := after, guard := guard } = nvD st (cellsOf (ev st.tm x)) := by
  have e : opD P c fr dr call st { dst := dst, op := .box t x, type := ty, pos := pos, after := after, guard := guard } = op1 P c fr dr call st { dst := dst, op := .box t x, type := ty, pos := pos, after := after, guard := guard } := rfl
  rw [e]; unfold op1 nvD; dsimp only; cases cellsOf (ev st.tm x) <;> rfl
@[go_sem] theorem nvD_some (z : List D) : nvD st (some z) = some (.p st.nx 0 0, { tm := st.tm, hp := (st.nx, ⟨[z], false, 0, allPure z, none⟩) :: st.hp, nx := st.nx + 1 }) := rfl
def faD (f : Option (Nat × Nat)) (d : D) : Option D := match d, f with
  | .p id j off, some (o, _) => some (.p id j (off + o))
  | .q cs, some (o, _) => some (.q (cs.drop o))
  | _, _ => none
@[go_sem] theorem d_fieldAddr (t : TypeId) (x : Operand) (i : Nat) : opD P c fr dr call st { dst := dst, op := .fieldAddr t x i, type := ty, pos := pos, after := after, guard := guard } = k0 st (faD (fld P t i) (ev st.tm x)) := rfl
@[go_sem] theorem faD_p (id j off o n : Nat) : faD (some (o, n)) (.p id j off) = some (.p id j (off + o)) := rfl
@[go_sem] theorem faD_q (cs : List D) (o n : Nat) : faD (some (o, n)) (.q cs) = some (.q (cs.drop o)) := rfl
def stE (st : St) (id i off n : Nat) (cs : List D) (b : Blk) (r : Option (List D)) : Option (D × St) := match r with
  | some el => if off + n ≤ el.length then
      some (und, { tm := st.tm, hp := (id, { es := b.es.set i (el.take off ++ cs ++ el.drop (off + n)), arr := b.arr, md := b.md, pu := b.pu && allPure cs, cap := b.cap }) :: st.hp, nx := st.nx })
    else none
  | none => none
def stB (fr : Fr) (st : St) (id i off n : Nat) (cs : List D) (b : Blk) : Option (D × St) :=
  if b.md = 0 ∧ cs.length = n ∧ 0 < n ∧ (fr.ro = false ∨ fr.k ≤ id) then stE st id i off n cs b b.es[i]? else none
def stD (fr : Fr) (st : St) (dx : D) (s : Option Nat) (cs : Option (List D)) : Option (D × St) := match dx, s, cs with
  | .p id i off, some n, some cs => stB fr st id i off n cs (rdH st.hp id)
  | _, _, _ => none
@[go_sem] theorem d_store (t : TypeId) (x y : Operand) : opD P c fr dr call st { dst := dst, op := .store t x y, type := ty, pos := pos, after := after, guard := guard } = stD fr st (ev st.tm x) (sz P t) (cellsOf (ev st.tm y)) := by
  have e : opD P c fr dr call st { dst := dst, op := .store t x y, type := ty, pos := pos, after := after, guard := guard } = op1 P c fr dr call st { dst := dst, op := .store t x y, type := ty, pos := pos, after := after, guard := guard } := rfl
  rw [e]
  unfold op1 stD stB stE
  dsimp only
  cases ev st.tm x <;> cases sz P t <;> cases cellsOf (ev st.tm y) <;> rfl
@[go_sem] theorem stD_p (id i off n : Nat) (cs : List D) : stD fr st (.p id i off) (some n) (some cs) = stB fr st id i off n cs (rdH st.hp id) := rfl
@[go_sem] theorem stB_eq (id i off n : Nat) (cs : List D) (es : List (List D)) (a u : Bool) (md : Nat) (cp : Option Nat) : stB fr st id i off n cs ⟨es, a, md, u, cp⟩ =
    if md = 0 ∧ cs.length = n ∧ 0 < n ∧ (fr.ro = false ∨ fr.k ≤ id) then stE st id i off n cs ⟨es, a, md, u, cp⟩ es[i]? else none := rfl
@[go_sem] theorem stE_some (id i off n : Nat) (cs el : List D) (es : List (List D)) (a u : Bool) (md : Nat) (cp : Option Nat) : stE st id i off n cs ⟨es, a, md, u, cp⟩ (some el) =
    if off + n ≤ el.length then some (und, { tm := st.tm, hp := (id, ⟨es.set i (el.take off ++ cs ++ el.drop (off + n)), a, md, u && allPure cs, cp⟩) :: st.hp, nx := st.nx }) else none := rfl
def mB (b : Blk) (i off : Nat) : Option (List D) := if b.md < 2 then (match b.es[i]? with
  | some e => some (e.drop off)
  | none => none) else none
def mE (r : Option (List D)) (off : Nat) : Option (List D) := match r with
  | some e => some (e.drop off)
  | none => none
@[go_sem] theorem memAt_p (hp : List (Nat × Blk)) (id i off : Nat) : memAt hp (.p id i off) = mB (rdH hp id) i off := rfl
@[go_sem] theorem mB_eq (es : List (List D)) (a u : Bool) (md i off : Nat) (cp : Option Nat) : mB ⟨es, a, md, u, cp⟩ i off = if md < 2 then mE es[i]? off else none := rfl
@[go_sem] theorem mE_some (e : List D) (off : Nat) : mE (some e) off = some (e.drop off) := rfl
@[go_sem] theorem rdH_cons (i j : Nat) (b : Blk) (hp : List (Nat × Blk)) : rdH ((i, b) :: hp) j = if i = j then b else rdH hp j := rfl
attribute [go_sem] allPure allPureE
@[go_sem] theorem pure_s (v : Value) : isPure (.s v) = true := rfl
@[go_sem] theorem pure_l (cp : Option Nat) (es : List (List D)) : isPure (.l cp es) = true := rfl
@[go_sem] theorem pure_q (cs : List D) : isPure (.q cs) = true := rfl
@[go_sem] theorem pure_p (id i off : Nat) : isPure (.p id i off) = false := rfl
@[go_sem] theorem pure_a (id lo n z : Nat) : isPure (.a id lo n z) = false := rfl
@[go_sem] theorem pure_f (fn : Fn) (x y : List D) : isPure (.f fn x y) = false := rfl
end
end Vm
end Go.Proofs.YtffgjmfkkfinlaaGreat

/-
  The machine of values, step by step: calls, loops, lists that grow.
-/
namespace Go.Proofs.YtffgjmfkkfinlaaGreat
namespace Vm
open Go Go.RowKit

/-! Slices as lists -/
/-- A slice that nobody writes, as a list of what its elements are. -/
inductive Sl (α : Type) where
  | nil
  | l (cap : Option Nat) (xs : List α) (h : xs.length < 9223372036854775808)
def Sl.xs {α : Type} : Sl α → List α
  | .nil => []
  | .l _ xs _ => xs
def Sl.d {α : Type} (f : α → List D) : Sl α → D
  | .nil => nilS
  | .l c xs _ => .l c (xs.map f)
abbrev Sl.len {α : Type} (x : Sl α) : Nat := x.xs.length
@[go_sem] theorem Sl.xs_nil {α : Type} : (Sl.nil : Sl α).xs = [] := rfl
@[go_sem] theorem Sl.xs_l {α : Type} (c : Option Nat) (xs : List α) (h : xs.length < 9223372036854775808) : (Sl.l c xs h).xs = xs := rfl
theorem Sl.lt {α : Type} (x : Sl α) : x.xs.length < 9223372036854775808 := by cases x with | nil => exact (by decide : 0 < 9223372036854775808) | l _ _ h => exact h

section
variable {α : Type} {f : α → List D}
/-! Values without addresses of the machine's -/
def calmA : D → Bool
  | .s _ | .l .. | .q _ => true
  | _ => false
def calmL : List D → Bool
  | [] => true
  | d :: r => calmA d && calmL r
def calm : D → Bool
  | .g cs => calmL cs
  | .f _ [] [] => true
  | d => calmA d
def calms : List D → Bool
  | [] => true
  | d :: r => calm d && calms r
@[go_sem] theorem calmA_s (v : Value) : calmA (.s v) = true := rfl
@[go_sem] theorem calmA_l (c : Option Nat) (es : List (List D)) : calmA (.l c es) = true := rfl
@[go_sem] theorem calmA_q (cs : List D) : calmA (.q cs) = true := rfl
@[go_sem] theorem calmA_nil : calmA nilS = true := rfl
@[go_sem] theorem calmA_sl (x : Sl α) : calmA (x.d f) = true := by cases x <;> rfl
@[go_sem] theorem calmA_a (id lo n z : Nat) : calmA (.a id lo n z) = false := rfl
@[go_sem] theorem calm_a (id lo n z : Nat) : calm (.a id lo n z) = false := rfl
@[go_sem] theorem calmA_p (id i off : Nat) : calmA (.p id i off) = false := rfl
@[go_sem] theorem calm_p (id i off : Nat) : calm (.p id i off) = false := rfl
@[go_sem] theorem calm_s (v : Value) : calm (.s v) = true := rfl
@[go_sem] theorem calm_l (c : Option Nat) (es : List (List D)) : calm (.l c es) = true := rfl
@[go_sem] theorem calm_q (cs : List D) : calm (.q cs) = true := rfl
@[go_sem] theorem calm_nil : calm nilS = true := rfl
@[go_sem] theorem calm_g (cs : List D) : calm (.g cs) = calmL cs := rfl
@[go_sem] theorem calm_f (fn : Fn) : calm (.f fn [] []) = true := rfl
@[go_sem] theorem calm_sl (x : Sl α) : calm (x.d f) = true := by cases x <;> rfl
@[go_sem] theorem calmL_nil : calmL [] = true := rfl
@[go_sem] theorem calmL_cons (d : D) (r : List D) : calmL (d :: r) = (calmA d && calmL r) := rfl
@[go_sem] theorem calms_nil : calms [] = true := rfl
@[go_sem] theorem calms_cons (d : D) (r : List D) : calms (d :: r) = (calm d && calms r) := rfl
@[go_sem] theorem cells_sl (x : Sl α) : cellsOf (x.d f) = some [x.d f] := by cases x <;> rfl
@[go_sem] theorem pure_sl (x : Sl α) : isPure (x.d f) = true := by cases x <;> rfl
@[go_sem] theorem pure_nil : isPure nilS = true := rfl
@[go_sem] theorem lenD_sl (x : Sl α) : lenD (x.d f) = some x.xs.length := by
  cases x with
  | nil => rfl
  | l c xs h => simp only [Sl.d, lenD, Sl.xs, List.length_map]
theorem lenK_sl {P : Program} (t : TypeId) (h : lenS P t = true) (x : Sl α) : lenK P t (x.d f) = some (.s (.int .i64 x.xs.length)) := by
  have e : lenT P t (x.d f) = lenS P t := by cases x <;> rfl
  simp only [lenK, e, h, if_true, lenD_sl]
@[go_sem] theorem ixL_sl (x : Sl α) (m i : Nat) : ixL (some m) (x.d f) (i : Int) = qOf m ((x.xs[i]?).map f) := by
  cases x with
  | nil => simp [ixL, Sl.d, nilS, Sl.xs, qOf]
  | l c xs h => simp only [Sl.d]; rw [ixL_nat, List.getElem?_map]; rfl

theorem frz_calm {dr : Bool} {hp : List (Nat × Blk)} {d : D} (h : calmA d = true) : frz dr hp d = some (d, hp) := by
  cases d <;> first | rfl | (simp [calmA] at h)
theorem frzs_calm {dr : Bool} {hp : List (Nat × Blk)} : ∀ {ds : List D}, calmL ds = true → frzs dr hp ds = some (ds, hp)
  | [], _ => rfl
  | d :: r, h => by
    simp only [calmL, Bool.and_eq_true] at h
    simp only [frzs, frz_calm h.1, frzs_calm h.2]
theorem frzG_calm {dr : Bool} {hp : List (Nat × Blk)} {d : D} (h : calm d = true) : frzG dr hp d = some (d, hp) := by
  cases d with
  | g cs => simp only [calm] at h; simp only [frzG, frzs_calm h]
  | f fn x y => rfl
  | _ => simp only [calm] at h; simp only [frzG]; exact frz_calm h
theorem frzGs_calm {dr : Bool} {hp : List (Nat × Blk)} : ∀ {ds : List D}, calms ds = true → frzGs dr hp ds = some (ds, hp)
  | [], _ => rfl
  | d :: r, h => by
    simp only [calms, Bool.and_eq_true] at h
    simp only [frzGs, frzG_calm h.1, frzGs_calm h.2]
theorem refsA_calm {d : D} (h : calmA d = true) : refsA d = [] := by
  cases d <;> first | rfl | (simp [calmA] at h)
theorem refsL_calm : ∀ {ds : List D}, calmL ds = true → refsL ds = []
  | [], _ => rfl
  | d :: r, h => by
    simp only [calmL, Bool.and_eq_true] at h
    simp only [refsL, refsA_calm h.1, refsL_calm h.2, List.append_nil]
theorem refs_calm {d : D} (h : calm d = true) : refs d = [] := by
  cases d with
  | g cs => simp only [calm] at h; simp only [refs, refsG, refsL_calm h]
  | t _ => simp [calm, calmA] at h
  | f _ x y => cases x <;> cases y <;> first | rfl | (simp [calm, calmA] at h)
  | _ => simp only [calm] at h; simp only [refs, refsG]; exact refsA_calm h
theorem refsLL_calm : ∀ {ds : List D}, calms ds = true → refsLL ds = []
  | [], _ => rfl
  | d :: r, h => by
    simp only [calms, Bool.and_eq_true] at h
    simp only [refsLL, refs_calm h.1, refsLL_calm h.2, List.append_nil]
theorem renA_calm {ρ : List (Nat × Nat)} {d : D} (h : calmA d = true) : renA ρ d = d := by
  cases d <;> first | rfl | (simp [calmA] at h)
theorem renL_calm {ρ : List (Nat × Nat)} : ∀ {ds : List D}, calmL ds = true → ds.map (renA ρ) = ds
  | [], _ => rfl
  | d :: r, h => by
    simp only [calmL, Bool.and_eq_true] at h
    simp only [List.map_cons, renA_calm h.1, renL_calm h.2]
theorem ren_calm {ρ : List (Nat × Nat)} {d : D} (h : calm d = true) : ren ρ d = d := by
  cases d with
  | g cs => simp only [calm] at h; simp only [ren, renG, renL_calm h]
  | t _ => simp [calm, calmA] at h
  | f _ x y => cases x <;> cases y <;> first | rfl | (simp [calm, calmA] at h)
  | _ => simp only [calm] at h; simp only [ren, renG]; exact renA_calm h
theorem rens_calm {ρ : List (Nat × Nat)} : ∀ {ds : List D}, calms ds = true → ds.map (ren ρ) = ds
  | [], _ => rfl
  | d :: r, h => by
    simp only [calms, Bool.and_eq_true] at h
    simp only [List.map_cons, ren_calm h.1, rens_calm h.2]
theorem reach_nil (hp : List (Nat × Blk)) (n : Nat) (seen : List Nat) : reach hp n [] seen = seen := by
  cases n <;> rfl
/-- A block that holds no address of the machine's. -/
def cb (b : Blk) : Bool := b.pu || (match b.es with | [cs] => calms cs | _ => false)
@[go_sem] theorem cb_lit (cs : List D) (a u : Bool) (md : Nat) (cp : Option Nat) : cb ⟨[cs], a, md, u, cp⟩ = (u || calms cs) := rfl
@[go_sem] theorem cb_pu (es : List (List D)) (a : Bool) (md : Nat) (cp : Option Nat) : cb ⟨es, a, md, true, cp⟩ = true := rfl
theorem calms_noA0 : ∀ {cs : List D}, calmL cs = true → noA.noA0 cs = true
  | [], _ => rfl
  | d :: r, h => by
    simp only [calmL, Bool.and_eq_true] at h
    cases d <;> first | (simp only [noA.noA0]; exact calms_noA0 h.2) | (simp [calmA] at h)
theorem calms_noA : ∀ {cs : List D}, calms cs = true → noA cs = true
  | [], _ => rfl
  | d :: r, h => by
    simp only [calms, Bool.and_eq_true] at h
    have ih := calms_noA h.2
    cases d with
    | g cs => simp only [calm] at h; simp only [noA, calms_noA0 h.1, ih, Bool.and_self]
    | a _ _ _ _ => simp [calm, calmA] at h
    | _ => simp only [noA, ih]
theorem calms_refsGLf : ∀ {cs : List D}, calms cs = true → refsE.refsGLf cs = []
  | [], _ => rfl
  | d :: r, h => by
    simp only [calms, Bool.and_eq_true] at h
    simp only [refsE.refsGLf, refs_calm h.1, calms_refsGLf h.2, List.append_nil]
theorem cb_cases {b : Blk} (h : cb b = true) : b.pu = true ∨ ∃ cs, b.es = [cs] ∧ calms cs = true := by
  unfold cb at h
  cases hp : b.pu with
  | true => exact .inl rfl
  | false =>
    rw [hp, Bool.false_or] at h
    right
    split at h
    · rename_i cs he; exact ⟨cs, he, h⟩
    · cases h
theorem cb_refs {b : Blk} (h : cb b = true) : refsB b = [] := by
  rcases cb_cases h with h | ⟨cs, he, hc⟩
  · simp only [refsB, h, if_true]
  · unfold refsB
    split
    · rfl
    · rw [he]; simp only [refsE, calms_refsGLf hc, List.append_nil]
theorem cb_renB {ρ : List (Nat × Nat)} {b : Blk} (h : cb b = true) : renB ρ b = b := by
  unfold renB
  split
  · rfl
  · rename_i hp
    rcases cb_cases h with h | ⟨cs, he, hc⟩
    · exact absurd h hp
    · obtain ⟨es, arr, md, pu, cp⟩ := b
      simp only at he
      subst he
      simp only [List.map_cons, List.map_nil, rens_calm hc]
theorem cb_frz {hp : List (Nat × Blk)} {id : Nat} {r : List Nat} (h : cb (rdH hp id) = true) : callD.frzBs false hp (id :: r) = callD.frzBs false hp r := by
  rcases cb_cases h with h | ⟨cs, he, hc⟩
  · simp only [callD.frzBs, h, Bool.true_or, if_true, ite_self]
  · simp only [callD.frzBs, he, frzGs_calm hc, calms_noA hc, and_self, if_true, ite_self]
theorem reach_one {hp : List (Nat × Blk)} {id : Nat} (hp1 : cb (rdH hp id) = true) (hm : (rdH hp id).md = 0 ∨ (rdH hp id).md = 1) : reach hp fuel [id] [] = [id] := by
  have h1 : ¬ 1 < (rdH hp id).md := by omega
  simp only [fuel, reach, has, h1, cb_refs hp1, decide_false, Bool.or_self, Bool.false_eq_true, if_false, List.nil_append, reach_nil]
theorem renB_pure {ρ : List (Nat × Nat)} {b : Blk} (h : b.pu = true) : renB ρ b = b := by simp only [renB, h, if_true]

/-! Freezing, step by step -/
def fzC (dr : Bool) (r : List D) (x : Option (D × List (Nat × Blk))) : Option (List D × List (Nat × Blk)) := match x with
  | some (d', hp1) => (match frzGs dr hp1 r with
    | some (r', hp2) => some (d' :: r', hp2)
    | none => none)
  | none => none
def fzE (d : D) (x : Option (List D × List (Nat × Blk))) : Option (List D × List (Nat × Blk)) := match x with
  | some (r', hp2) => some (d :: r', hp2)
  | none => none
def fzL (dr : Bool) (r : List D) (x : Option (D × List (Nat × Blk))) : Option (List D × List (Nat × Blk)) := match x with
  | some (d', hp1) => fzE d' (frzs dr hp1 r)
  | none => none
def fzG (x : Option (List D × List (Nat × Blk))) : Option (D × List (Nat × Blk)) := match x with
  | some (cs', hp') => some (.g cs', hp')
  | none => none
@[go_sem] theorem frzGs_nil (dr : Bool) (hp : List (Nat × Blk)) : frzGs dr hp [] = some ([], hp) := rfl
@[go_sem] theorem frzGs_cons (dr : Bool) (hp : List (Nat × Blk)) (d : D) (r : List D) : frzGs dr hp (d :: r) = fzC dr r (frzG dr hp d) := rfl
@[go_sem] theorem fzC_some (dr : Bool) (hp : List (Nat × Blk)) (d : D) (r : List D) : fzC dr r (some (d, hp)) = fzE d (frzGs dr hp r) := rfl
@[go_sem] theorem fzE_some (hp : List (Nat × Blk)) (d : D) (r : List D) : fzE d (some (r, hp)) = some (d :: r, hp) := rfl
@[go_sem] theorem frzG_g (dr : Bool) (hp : List (Nat × Blk)) (cs : List D) : frzG dr hp (.g cs) = fzG (frzs dr hp cs) := rfl
@[go_sem] theorem fzG_some (hp : List (Nat × Blk)) (cs : List D) : fzG (some (cs, hp)) = some (.g cs, hp) := rfl
@[go_sem] theorem frzs_nil (dr : Bool) (hp : List (Nat × Blk)) : frzs dr hp [] = some ([], hp) := rfl
@[go_sem] theorem frzs_cons (dr : Bool) (hp : List (Nat × Blk)) (d : D) (r : List D) : frzs dr hp (d :: r) = fzL dr r (frz dr hp d) := rfl
@[go_sem] theorem fzL_some (dr : Bool) (hp : List (Nat × Blk)) (d : D) (r : List D) : fzL dr r (some (d, hp)) = fzE d (frzs dr hp r) := rfl
@[go_sem] theorem frzG_s (dr : Bool) (hp : List (Nat × Blk)) (v : Value) : frzG dr hp (.s v) = some (.s v, hp) := rfl
@[go_sem] theorem frzG_l (dr : Bool) (hp : List (Nat × Blk)) (c : Option Nat) (es : List (List D)) : frzG dr hp (.l c es) = some (.l c es, hp) := rfl
@[go_sem] theorem frzG_p (dr : Bool) (hp : List (Nat × Blk)) (a b c : Nat) : frzG dr hp (.p a b c) = some (.p a b c, hp) := rfl
@[go_sem] theorem frzG_q (dr : Bool) (hp : List (Nat × Blk)) (cs : List D) : frzG dr hp (.q cs) = some (.q cs, hp) := rfl
@[go_sem] theorem frzG_f (dr : Bool) (hp : List (Nat × Blk)) (fn : Fn) (x y : List D) : frzG dr hp (.f fn x y) = some (.f fn x y, hp) := rfl
@[go_sem] theorem frzG_nilS (dr : Bool) (hp : List (Nat × Blk)) : frzG dr hp nilS = some (nilS, hp) := rfl
@[go_sem] theorem frzG_sl (dr : Bool) (hp : List (Nat × Blk)) (x : Sl α) : frzG dr hp (x.d f) = some (x.d f, hp) := by cases x <;> rfl
@[go_sem] theorem frzG_a (dr : Bool) (hp : List (Nat × Blk)) (id lo n z : Nat) : frzG dr hp (.a id lo n z) = frz dr hp (.a id lo n z) := rfl
@[go_sem] theorem frz_s (dr : Bool) (hp : List (Nat × Blk)) (v : Value) : frz dr hp (.s v) = some (.s v, hp) := rfl
@[go_sem] theorem frz_l (dr : Bool) (hp : List (Nat × Blk)) (c : Option Nat) (es : List (List D)) : frz dr hp (.l c es) = some (.l c es, hp) := rfl
@[go_sem] theorem frz_p (dr : Bool) (hp : List (Nat × Blk)) (a b c : Nat) : frz dr hp (.p a b c) = some (.p a b c, hp) := rfl
@[go_sem] theorem frz_q (dr : Bool) (hp : List (Nat × Blk)) (cs : List D) : frz dr hp (.q cs) = some (.q cs, hp) := rfl
@[go_sem] theorem frz_nilS (dr : Bool) (hp : List (Nat × Blk)) : frz dr hp nilS = some (nilS, hp) := rfl
@[go_sem] theorem frz_sl (dr : Bool) (hp : List (Nat × Blk)) (x : Sl α) : frz dr hp (x.d f) = some (x.d f, hp) := by cases x <;> rfl
/-- A list that grows: where it stands (its block's name is `K` or more, and less than `N`). -/
def Acc (hp : List (Nat × Blk)) (K N n : Nat) (es : List (List D)) (d : D) : Prop := (d = nilS ∧ es = []) ∨ ∃ id, K ≤ id ∧ id < N ∧ es ≠ [] ∧ d = .a id 0 es.length n ∧ rdH hp id = ⟨es, true, 0, true, none⟩
/-- What it is where it is handed out. -/
def accD (es : List (List D)) : D → D
  | .a .. => .l none es
  | d => d
def accF (hp : List (Nat × Blk)) : D → List (Nat × Blk)
  | .a id .. => (id, { rdH hp id with md := 1 }) :: hp
  | _ => hp
def accH (hp : List (Nat × Blk)) : D → List (Nat × Blk)
  | .a id .. => (id, { rdH hp id with md := 2 }) :: hp
  | _ => hp
/-- A list that was gathered, one by one, handed out. -/
def accL {α : Type} (f : α → List D) : List α → D
  | [] => nilS
  | x :: r => .l none ((x :: r).map f)
@[go_sem] theorem accL_nil {α : Type} (f : α → List D) : accL f [] = nilS := rfl
theorem accL_ne {α : Type} {f : α → List D} {l : List α} (h : l ≠ []) : accL f l = .l none (l.map f) := by cases l with | nil => exact absurd rfl h | cons _ _ => rfl
/-- Likewise, as a slice. -/
def accS {α : Type} (l : List α) (h : l.length < 9223372036854775808) : Sl α := match l, h with
  | [], _ => .nil
  | x :: r, h => .l none (x :: r) h
@[go_sem] theorem accS_xs {α : Type} (l : List α) (h : l.length < 9223372036854775808) : (accS l h).xs = l := by cases l <;> rfl
theorem accS_d {α : Type} (f : α → List D) (l : List α) (h : l.length < 9223372036854775808) : (accS l h).d f = accL f l := by cases l <;> rfl
@[go_sem] theorem calmA_acc {α : Type} (f : α → List D) (l : List α) : calmA (accL f l) = true := by cases l <;> rfl
@[go_sem] theorem calm_acc {α : Type} (f : α → List D) (l : List α) : calm (accL f l) = true := by cases l <;> rfl
theorem frz_acc {hp : List (Nat × Blk)} {K N n : Nat} {es : List (List D)} {d : D} (h : Acc hp K N n es d) : frz false hp d = some (accD es d, accF hp d) := by
  rcases h with ⟨rfl, rfl⟩ | ⟨id, _, _, _, rfl, hb⟩
  · rfl
  · simp only [frz, hb, accD, accF, Nat.zero_add, Nat.le_refl, and_self, if_true, Bool.false_eq_true, if_false, List.drop_zero, List.take_length]
theorem frzG_acc {hp : List (Nat × Blk)} {K N n : Nat} {es : List (List D)} {d : D} (h : Acc hp K N n es d) : frzG false hp d = some (accD es d, accF hp d) := by
  have e := frz_acc h
  rcases h with ⟨rfl, rfl⟩ | ⟨id, _, _, _, rfl, hb⟩ <;> exact e
theorem rdH_accF {hp : List (Nat × Blk)} {K N n j : Nat} {es : List (List D)} {d : D} (h : Acc hp K N n es d) (hj : j < K) : rdH (accF hp d) j = rdH hp j := by
  rcases h with ⟨rfl, rfl⟩ | ⟨id, hk, _, _, rfl, hb⟩
  · rfl
  · have : id ≠ j := by omega
    simp only [accF, rdH, this, if_false]
theorem rdH_accH {hp : List (Nat × Blk)} {K N n j : Nat} {es : List (List D)} {d : D} (h : Acc hp K N n es d) (hj : j < K) : rdH (accH hp d) j = rdH hp j := by
  rcases h with ⟨rfl, rfl⟩ | ⟨id, hk, _, _, rfl, hb⟩
  · rfl
  · have : id ≠ j := by omega
    simp only [accH, rdH, this, if_false]
theorem rdH_accH2 {hp : List (Nat × Blk)} {K N n j : Nat} {es : List (List D)} {d : D} (h : Acc hp K N n es d) (hj : N ≤ j) : rdH (accH hp d) j = rdH hp j := by
  rcases h with ⟨rfl, rfl⟩ | ⟨id, _, hk, _, rfl, hb⟩
  · rfl
  · have : id ≠ j := by omega
    simp only [accH, rdH, this, if_false]
theorem acc_nil (hp : List (Nat × Blk)) (K N n : Nat) : Acc hp K N n [] nilS := .inl ⟨rfl, rfl⟩
theorem acc_new {hp : List (Nat × Blk)} {K N n id len : Nat} {es : List (List D)} (h : K ≤ id) (h2 : id < N) (hl : len = es.length) (hne : es ≠ []) : Acc ((id, ⟨es, true, 0, true, none⟩) :: hp) K N n es (.a id 0 len n) :=
  .inr ⟨id, h, h2, hne, by rw [hl], by simp only [rdH, if_true]⟩
theorem acc_cons {hp : List (Nat × Blk)} {K N n j : Nat} {es : List (List D)} {d : D} (h : Acc hp K N n es d) (hj : N ≤ j) (b : Blk) : Acc ((j, b) :: hp) K N n es d := by
  rcases h with ⟨rfl, rfl⟩ | ⟨id, hk, hk2, hne, rfl, hb⟩
  · exact .inl ⟨rfl, rfl⟩
  · have : ¬ j = id := by omega
    exact .inr ⟨id, hk, hk2, hne, rfl, by simp only [rdH, this, if_false, hb]⟩
theorem acc_low {hp : List (Nat × Blk)} {K N n j : Nat} {es : List (List D)} {d : D} (h : Acc hp K N n es d) (hj : j < K) (b : Blk) : Acc ((j, b) :: hp) K N n es d := by
  rcases h with ⟨rfl, rfl⟩ | ⟨id, hk, hk2, hne, rfl, hb⟩
  · exact .inl ⟨rfl, rfl⟩
  · have : ¬ j = id := by omega
    exact .inr ⟨id, hk, hk2, hne, rfl, by simp only [rdH, this, if_false, hb]⟩
@[go_sem] theorem acc_skip {hp : List (Nat × Blk)} {K N n j : Nat} {es : List (List D)} {d : D} {b : Blk} (hj : N ≤ j) : Acc ((j, b) :: hp) K N n es d ↔ Acc hp K N n es d := by
  refine ⟨fun h => ?_, fun h => acc_cons h hj b⟩
  rcases h with h | ⟨id, hk, hk2, hne, rfl, hb⟩
  · exact .inl h
  · have : ¬ j = id := by omega
    simp only [rdH, this, if_false] at hb
    exact .inr ⟨id, hk, hk2, hne, rfl, hb⟩
theorem acc_mono {hp : List (Nat × Blk)} {K N N' n : Nat} {es : List (List D)} {d : D} (h : Acc hp K N n es d) (hj : N ≤ N') : Acc hp K N' n es d := by
  rcases h with h | ⟨id, hk, hk2, hne, rfl, hb⟩
  · exact .inl h
  · exact .inr ⟨id, hk, by omega, hne, rfl, hb⟩
theorem acc_sl {hp : List (Nat × Blk)} {K N n : Nat} {xs : List α} {d : D} (h : Acc hp K N n (xs.map f) d) : accD (xs.map f) d = accL f xs := by
  rcases h with ⟨rfl, h⟩ | ⟨id, _, _, hne, rfl, _⟩
  · have : xs = [] := by simpa using h
    subst this
    rfl
  · cases xs with
    | nil => simp at hne
    | cons x r => rfl
theorem app_acc {fr : Fr} {st : St} {K N n bytes : Nat} {es new : List (List D)} {d y : D} (h : Acc st.hp K N n es d) (hk : fr.k ≤ K) (hy : peek st.hp y = some new) (hs : sizesOk n new = true) (hne : new.isEmpty = false)
    (hb : (es.length + new.length) * bytes ≤ 140737488355328) (hb' : es.length + new.length ≤ 140737488355328) :
    appendD fr n bytes st d y = some (.a st.nx 0 (es.length + new.length) n, { tm := st.tm, hp := (st.nx, ⟨es ++ new, true, 0, true, none⟩) :: accH st.hp d, nx := st.nx + 1 }) := by
  unfold appendD
  rw [hy]
  rcases h with ⟨rfl, rfl⟩ | ⟨id, hid, _, _, rfl, hr⟩
  · have e : appendD.lenOr (D.s (Value.slice none 0 0)) = 0 := rfl
    have e2 : (0 + new.length) * bytes ≤ 140737488355328 := hb
    have e3 : 0 + new.length ≤ 140737488355328 := hb'
    simp only [hs, e, e2, e3, decide_true, Bool.and_self, if_true, nilS, hne, Bool.false_eq_true, if_false, appendD.mk, accH, List.length_nil]
  · have e : appendD.lenOr (.a id 0 es.length n) = es.length := rfl
    have e2 : fr.ro = false ∨ fr.k ≤ id := .inr (by omega)
    have hl : 0 < new.length := by cases new with | nil => simp at hne | cons _ _ => simp
    have e3 : ¬ (0 + es.length + new.length ≤ es.length) := by omega
    have e4 : (0 + es.length ≤ es.length) := by omega
    have e5 : ¬ (es.length + new.length ≤ es.length) := by omega
    simp only [hs, e, hb, hb', decide_true, Bool.and_self, if_true, hr, hne, Bool.false_eq_true, if_false, e2, e5, Nat.zero_add, Nat.le_refl, Nat.reduceLT, and_self, true_or, and_true, false_and, appendD.mk, accH, List.take_length]
/-- One more. -/
theorem app_one {k nt fn : Nat} {ro : Bool} {K N n bytes : Nat} {xs : List α} {d : D} (a : α) (hf : ∀ a : α, (f a).length = n) (hk : k ≤ K) (hb : (xs.length + 1) * bytes ≤ 140737488355328) (hb' : xs.length + 1 ≤ 140737488355328) (tm : List (Nat × D)) (hp : List (Nat × Blk)) (nx : Nat) (h : Acc hp K N n (xs.map f) d) :
    appendD ⟨k, nt, fn, ro⟩ n bytes ⟨tm, hp, nx⟩ d (.l (some 1) [f a]) = some (.a nx 0 (xs.length + 1) n, ⟨tm, (nx, ⟨(xs ++ [a]).map f, true, 0, true, none⟩) :: accH hp d, nx + 1⟩) := by
  rw [app_acc (new := [f a]) h hk rfl (by simp only [sizesOk, hf, beq_self_eq_true, Bool.and_self]) rfl (by simpa using hb) (by simpa using hb')]
  simp only [List.length_map, List.length_cons, List.length_nil, Nat.zero_add, List.map_append, List.map_cons, List.map_nil]

/-! Calls -/
section
variable {P : Program} {c : Cfg} {fr : Fr} {dr : Bool} {g : Nat} {args : List D} {st : St}
attribute [go_sem] onlyS toCells callD.resD
@[go_sem] theorem toCells_nilS (r : List D) : toCells (nilS :: r) = toCells (.s (.slice none 0 0) :: r) := rfl
@[go_sem] theorem onlyS_nilS (r : List D) : onlyS (nilS :: r) = onlyS r := rfl
theorem toCells_sl (x : Sl α) (r : List D) (b : Bool) (hb : onlyS (x.d f :: r) = b) : onlyS (x.d f :: r) = b := hb

/-- Where values alone come back: what was locked for the call is told only if a slice came back. -/
def oS (dr : Bool) (hp H : List (Nat × Blk)) (tm : List (Nat × D)) (nx : Nat) (b : Bool) (res : List D) : Option (D × St) := if b = true then some (callD.resD res, ⟨tm, H, nx⟩) else if dr = true ∧ hp.length ≠ H.length then none else some (callD.resD res, ⟨tm, hp, nx⟩)
@[go_sem] theorem oS_same (hp : List (Nat × Blk)) (tm : List (Nat × D)) (nx : Nat) (b : Bool) (res : List D) : oS dr hp hp tm nx b res = some (callD.resD res, ⟨tm, hp, nx⟩) := by
  simp only [oS, ne_eq, not_true_eq_false, and_false, if_false, ite_self]
@[go_sem] theorem oS_true (hp H : List (Nat × Blk)) (tm : List (Nat × D)) (nx : Nat) (res : List D) : oS dr hp H tm nx true res = some (callD.resD res, ⟨tm, H, nx⟩) := rfl
@[go_sem] theorem oS_false (hp H : List (Nat × Blk)) (tm : List (Nat × D)) (nx : Nat) (res : List D) : oS false hp H tm nx false res = some (callD.resD res, ⟨tm, hp, nx⟩) := rfl
/-- What a call comes to, where nothing is known of it. -/
noncomputable def fbD (P : Program) (c : Cfg) (fr : Fr) (dr : Bool) (g : Nat) (args : List D) (st : St) : Option (D × St) := callD c fr dr (callI P c) g args st
/-- What a call that is handed values alone comes to. -/
noncomputable def c0 (P : Program) (c : Cfg) (fr : Fr) (dr : Bool) (g : Nat) (args : List D) (st : St) (hp : List (Nat × Blk)) (r : Option (List D × List Blk)) : Option (D × St) := match r with
  | some (res, []) => if calms res = true then (if onlyS res = true then some (callD.resD res, st) else if dr = true ∧ hp.length ≠ st.hp.length then none else some (callD.resD res, { tm := st.tm, hp := hp, nx := st.nx })) else fbD P c fr dr g args st
  | some (res, [b]) => if onlyS res = false ∧ cb b = true ∧ (dr = true → hp.length = st.hp.length) then some (callD.resD (res.map (ren [(0, st.nx)])), { tm := st.tm, hp := (st.nx, b) :: hp, nx := st.nx + 1 }) else fbD P c fr dr g args st
  | _ => fbD P c fr dr g args st
/-- What a call that is handed one block comes to. -/
noncomputable def c1 (P : Program) (c : Cfg) (fr : Fr) (dr : Bool) (g : Nat) (args : List D) (st : St) (id : Nat) (hp : List (Nat × Blk)) (r : Option (List D × List Blk)) : Option (D × St) := match r with
  | some (res, [b]) =>
    if calms res = true ∧ cb b = true ∧ (dr = true → hp.length = st.hp.length) then
      (if c.wr g = true then some (callD.resD res, { tm := st.tm, hp := (id, b) :: hp, nx := st.nx })
      else if (rdH hp id).arr = false ∧ (rdH hp id).md = b.md then oS dr hp st.hp st.tm st.nx (onlyS res) res else fbD P c fr dr g args st)
    else fbD P c fr dr g args st
  | some (res, [b, b2]) =>
    if c.wr g = true ∧ cb b = true ∧ cb b2 = true ∧ calms res = true ∧ (dr = true → hp.length = st.hp.length) then some (callD.resD res, { tm := st.tm, hp := (st.nx, b2) :: (id, b) :: hp, nx := st.nx + 1 }) else
    if onlyS res = false ∧ c.wr g = false ∧ cb b = true ∧ cb b2 = true ∧ (dr = true → hp.length = st.hp.length) ∧ (rdH hp id).arr = false ∧ (rdH hp id).md = b.md then some (callD.resD (res.map (ren [(0, id), (1, st.nx)])), { tm := st.tm, hp := (st.nx, b2) :: hp, nx := st.nx + 1 })
    else fbD P c fr dr g args st
  | _ => fbD P c fr dr g args st
/-- What a call comes to, by what its arguments reach. -/
noncomputable def cZ (P : Program) (c : Cfg) (fr : Fr) (dr : Bool) (g : Nat) (args : List D) (st : St) (ids : List Nat) (args' : List D) (hp : List (Nat × Blk)) : Option (D × St) := match ids with
  | [] => c0 P c fr dr g args st hp (callI P c g args' [])
  | [id] => if cb (rdH hp id) = true ∧ (rdH hp id).md < 2 ∧ (fr.ro = false ∨ c.wr g = false ∨ fr.k ≤ id) then c1 P c fr dr g args st id hp (callI P c g (args'.map (ren [(id, 0)])) [rdH hp id]) else fbD P c fr dr g args st
  | _ => fbD P c fr dr g args st
noncomputable def cF (P : Program) (c : Cfg) (fr : Fr) (dr : Bool) (g : Nat) (args : List D) (st : St) (r : Option (List D × List (Nat × Blk))) : Option (D × St) := match r with
  | some (args', hp) => if refsLL args' = [] ∧ calms args' = false then fbD P c fr dr g args st else cZ P c fr dr g args st (refsLL args') args' hp
  | none => fbD P c fr dr g args st

theorem callD_c0 {hp : List (Nat × Blk)} {args' : List D} (hb : c.byRef g = false) (hw : c.wr g = false) (hk : c.keep g = false) (hf : frzGs false st.hp args = some (args', hp)) (ha : calms args' = true) :
    callD c fr dr (callI P c) g args st = c0 P c fr dr g args st hp (callI P c g args' []) := by
  cases hr : callI P c g args' [] with
  | none => rfl
  | some q =>
    obtain ⟨res, bs⟩ := q
    have key : callD c fr dr (callI P c) g args st = (if onlyS res then some (callD.resD res, st) else
          if dr && hp.length != st.hp.length then none else
          some (callD.resD (res.map (ren (backOf st.nx 0 bs.length []))), { tm := st.tm, hp := callD.addB (backOf st.nx 0 bs.length []) 0 bs hp, nx := st.nx + (bs.length - 0) })) := by
      unfold callD
      simp only [hb, Bool.false_eq_true, if_false, hf, refsLL_calm ha, reach_nil, hw, hk, Bool.and_false, Bool.false_and, List.any_nil, callD.frzBs, pos, rens_calm ha, List.map_nil, hr, List.length_nil, List.drop_zero, callD.anyArr, callD.mds, Bool.or_self, Bool.not_false, Bool.and_true, Bool.or_false]
    cases bs with
    | nil =>
      simp only [c0]
      split
      · rename_i hc
        rw [key]
        simp only [backOf, List.length_nil, rens_calm hc, callD.addB, Nat.sub_self, Nat.add_zero]
        split
        · rfl
        · by_cases h : dr = true ∧ hp.length ≠ st.hp.length
          · rw [if_pos h]; obtain ⟨h2, h3⟩ := h; simp [h2, h3]
          · rw [if_neg h]
            have : (dr && hp.length != st.hp.length) = false := by cases dr <;> simp_all
            rw [this]; simp
      · rfl
    | cons b bs =>
      cases bs with
      | nil =>
        simp only [c0]
        split
        · rename_i hc
          obtain ⟨h1, h2, h3⟩ := hc
          have : (dr && hp.length != st.hp.length) = false := by cases dr <;> simp_all
          rw [key]
          simp only [h1, Bool.false_eq_true, if_false, this, backOf, List.length_cons, List.length_nil, callD.addB, nm, if_true, cb_renB h2]
        · rfl
      | cons b2 bs => rfl

theorem callD_c1 {hp : List (Nat × Blk)} {args' : List D} {id : Nat} (hb : c.byRef g = false) (hk : c.keep g = false) (hf : frzGs false st.hp args = some (args', hp)) (ha : refsLL args' = [id]) (hp1 : cb (rdH hp id) = true) (hm : (rdH hp id).md < 2) (hro : fr.ro = false ∨ c.wr g = false ∨ fr.k ≤ id) :
    callD c fr dr (callI P c) g args st = c1 P c fr dr g args st id hp (callI P c g (args'.map (ren [(id, 0)])) [rdH hp id]) := by
  have hids : reach hp fuel [id] [] = [id] := reach_one hp1 (by omega)
  have hany : (fr.ro && c.wr g && ([id] : List Nat).any (fun x => decide (x < fr.k))) = false := by
    rcases hro with h | h | h
    · simp [h]
    · simp [h]
    · have : ¬ id < fr.k := by omega
      simp [this]
  have hfz : callD.frzBs false hp [id] = some hp := by
    rw [cb_frz hp1]; rfl
  cases hr : callI P c g (args'.map (ren [(id, 0)])) [rdH hp id] with
  | none => rfl
  | some q =>
    obtain ⟨res, bs⟩ := q
    have key : callD c fr dr (callI P c) g args st = (if onlyS res && !c.wr g then some (callD.resD res, st) else
          if dr && (hp.length != st.hp.length) then none else
          if c.wr g then some (callD.resD (res.map (ren (backOf st.nx 0 bs.length [id]))), { tm := st.tm, hp := callD.addB (backOf st.nx 0 bs.length [id]) 0 bs hp, nx := st.nx + (bs.length - 1) })
          else if callD.anyArr hp [id] || callD.mds hp [id] bs then none
          else some (callD.resD (res.map (ren (backOf st.nx 0 bs.length [id]))), { tm := st.tm, hp := callD.addB (backOf st.nx 0 bs.length [id]) 1 (bs.drop 1) hp, nx := st.nx + (bs.length - 1) })) := by
      unfold callD
      simp only [hb, Bool.false_eq_true, if_false, hf, ha, hids, hany, hk, hfz, pos, List.map_cons, List.map_nil, cb_renB hp1, hr, Bool.or_false, List.length_cons, List.length_nil, Nat.zero_add]
    have hmds : ∀ b : Blk, (callD.mds hp [id] [b]) = ((rdH hp id).md != b.md) := fun b => by simp [callD.mds]
    have hmds2 : ∀ b b2 : Blk, (callD.mds hp [id] [b, b2]) = ((rdH hp id).md != b.md) := fun b b2 => by simp [callD.mds]
    have hany2 : callD.anyArr hp [id] = (rdH hp id).arr := by simp [callD.anyArr]
    cases bs with
    | nil => rfl
    | cons b bs =>
      cases bs with
      | nil =>
        simp only [c1]
        split
        · rename_i hc
          obtain ⟨hcalm, hbp, hdr⟩ := hc
          have hd : (dr && hp.length != st.hp.length) = false := by cases dr <;> simp_all
          cases hw : c.wr g with
          | true =>
            rw [key]
            simp only [hw, hd, Bool.false_eq_true, if_false, rens_calm hcalm, backOf, List.length_cons, List.length_nil, callD.addB, nm, if_true, cb_renB hbp, Nat.sub_self, Nat.add_zero, Bool.not_true, Bool.and_false]
          | false =>
            simp only [Bool.false_eq_true, if_false]
            by_cases h : (rdH hp id).arr = false ∧ (rdH hp id).md = b.md
            · rw [if_pos h, key]
              cases hon : onlyS res with
              | true => simp only [hw, Bool.not_false, Bool.and_self, if_true, oS]
              | false =>
                have hd2 : ¬ (dr = true ∧ hp.length ≠ st.hp.length) := fun h => h.2 (hdr h.1)
                simp only [hw, Bool.false_and, hd, h.1, h.2, Bool.false_eq_true, if_false, rens_calm hcalm, backOf, List.length_cons, List.length_nil, callD.addB, Nat.sub_self, Nat.add_zero, hany2, hmds, bne_self_eq_false, Bool.or_self, List.drop_succ_cons, List.drop_zero, oS, hd2]
            · rw [if_neg h]; rfl
        · rfl
      | cons b2 bs =>
        cases bs with
        | nil =>
          simp only [c1]
          split
          · rename_i hc
            obtain ⟨h1, h2, h3, h4, h5⟩ := hc
            have hd : (dr && hp.length != st.hp.length) = false := by cases dr <;> simp_all
            rw [key]
            simp only [h1, Bool.not_true, Bool.and_false, hd, Bool.false_eq_true, if_false, if_true, backOf, List.length_cons, List.length_nil, callD.addB, nm, cb_renB h2, cb_renB h3, rens_calm h4]
            rfl
          split
          · rename_i hc
            obtain ⟨h1, h2, h3, h4, h5, h6, h7⟩ := hc
            have hd : (dr && hp.length != st.hp.length) = false := by cases dr <;> simp_all
            rw [key]
            simp only [h1, h2, hd, Bool.false_and, Bool.false_eq_true, if_false, backOf, List.length_cons, List.length_nil, callD.addB, nm, cb_renB h4, hany2, hmds2, h6, h7, bne_self_eq_false, Bool.or_self, List.drop_succ_cons, List.drop_zero]
            rfl
          · rfl
        | cons b3 bs => rfl

theorem callD_go (hb : c.byRef g = false) (hk : c.keep g = false) (hw : c.wr g = false) : callD c fr dr (callI P c) g args st = cF P c fr dr g args st (frzGs false st.hp args) := by
  cases hf : frzGs false st.hp args with
  | none => rfl
  | some q =>
    obtain ⟨args', hp⟩ := q
    simp only [cF]
    split
    · rfl
    · rename_i hne
      cases hids : refsLL args' with
      | nil =>
        simp only [cZ]
        exact callD_c0 hb hw hk hf (by rw [hids] at hne; simpa using hne)
      | cons id r =>
        cases r with
        | nil =>
          simp only [cZ]
          split
          · rename_i hc; exact callD_c1 hb hk hf hids hc.1 hc.2.1 hc.2.2
          · rfl
        | cons _ _ => rfl
theorem callD_goW (hb : c.byRef g = false) (hk : c.keep g = false) (id : Nat) (hp : List (Nat × Blk)) (args' : List D) (hf : frzGs false st.hp args = some (args', hp)) (ha : refsLL args' = [id]) (hp1 : cb (rdH hp id) = true) (hm : (rdH hp id).md < 2) (hro : fr.ro = false ∨ c.wr g = false ∨ fr.k ≤ id) :
    callD c fr dr (callI P c) g args st = c1 P c fr dr g args st id hp (callI P c g (args'.map (ren [(id, 0)])) [rdH hp id]) := callD_c1 hb hk hf ha hp1 hm hro

/-- A call of a function that writes into the one block that it is handed. -/
noncomputable def cW (P : Program) (c : Cfg) (fr : Fr) (dr : Bool) (g : Nat) (args : List D) (st : St) (r : Option (List D × List (Nat × Blk))) : Option (D × St) := match r with
  | some (args', hp) => (match refsLL args' with
    | [id] => if cb (rdH hp id) = true ∧ (rdH hp id).md < 2 ∧ (fr.ro = false ∨ c.wr g = false ∨ fr.k ≤ id) then c1 P c fr dr g args st id hp (callI P c g (args'.map (ren [(id, 0)])) [rdH hp id]) else fbD P c fr dr g args st
    | _ => fbD P c fr dr g args st)
  | none => fbD P c fr dr g args st
theorem callD_w (hb : c.byRef g = false) (hk : c.keep g = false) (_hw : c.wr g = true) : callD c fr dr (callI P c) g args st = cW P c fr dr g args st (frzGs false st.hp args) := by
  cases hf : frzGs false st.hp args with
  | none => rfl
  | some q =>
    obtain ⟨args', hp⟩ := q
    simp only [cW]
    split
    · rename_i id hids
      split
      · rename_i hc; exact callD_c1 hb hk hf hids hc.1 hc.2.1 hc.2.2
      · rfl
    · rfl
/-! Equations to go on with -/
noncomputable def cW1 (P : Program) (c : Cfg) (fr : Fr) (dr : Bool) (g : Nat) (args : List D) (st : St) (args' : List D) (hp : List (Nat × Blk)) (ids : List Nat) : Option (D × St) := match ids with
    | [id] => if cb (rdH hp id) = true ∧ (rdH hp id).md < 2 ∧ (fr.ro = false ∨ c.wr g = false ∨ fr.k ≤ id) then c1 P c fr dr g args st id hp (callI P c g (args'.map (ren [(id, 0)])) [rdH hp id]) else fbD P c fr dr g args st
    | _ => fbD P c fr dr g args st
@[go_sem] theorem cW_some (args' : List D) (hp : List (Nat × Blk)) : cW P c fr dr g args st (some (args', hp)) = cW1 P c fr dr g args st args' hp (refsLL args') := by
  unfold cW cW1
  rfl
@[go_sem] theorem cW1_one (id : Nat) (args' : List D) (hp : List (Nat × Blk)) : cW1 P c fr dr g args st args' hp [id] = if cb (rdH hp id) = true ∧ (rdH hp id).md < 2 ∧ (fr.ro = false ∨ c.wr g = false ∨ fr.k ≤ id) then c1 P c fr dr g args st id hp (callI P c g (args'.map (ren [(id, 0)])) [rdH hp id]) else fbD P c fr dr g args st := rfl

@[go_sem] theorem cF_some (args' : List D) (hp : List (Nat × Blk)) : cF P c fr dr g args st (some (args', hp)) = if refsLL args' = [] ∧ calms args' = false then fbD P c fr dr g args st else cZ P c fr dr g args st (refsLL args') args' hp := rfl
@[go_sem] theorem cZ_nil (args' : List D) (hp : List (Nat × Blk)) : cZ P c fr dr g args st [] args' hp = c0 P c fr dr g args st hp (callI P c g args' []) := rfl
@[go_sem] theorem cZ_one (id : Nat) (args' : List D) (hp : List (Nat × Blk)) : cZ P c fr dr g args st [id] args' hp = if cb (rdH hp id) = true ∧ (rdH hp id).md < 2 ∧ (fr.ro = false ∨ c.wr g = false ∨ fr.k ≤ id) then c1 P c fr dr g args st id hp (callI P c g (args'.map (ren [(id, 0)])) [rdH hp id]) else fbD P c fr dr g args st := rfl
@[go_sem] theorem c0_nil (hp : List (Nat × Blk)) (res : List D) : c0 P c fr dr g args st hp (some (res, [])) = if calms res = true then oS dr hp st.hp st.tm st.nx (onlyS res) res else fbD P c fr dr g args st := rfl
@[go_sem] theorem c0_one (hp : List (Nat × Blk)) (res : List D) (b : Blk) : c0 P c fr dr g args st hp (some (res, [b])) = if onlyS res = false ∧ cb b = true ∧ (dr = true → hp.length = st.hp.length) then some (callD.resD (res.map (ren [(0, st.nx)])), { tm := st.tm, hp := (st.nx, b) :: hp, nx := st.nx + 1 }) else fbD P c fr dr g args st := rfl
@[go_sem] theorem c1_one (id : Nat) (hp : List (Nat × Blk)) (res : List D) (b : Blk) : c1 P c fr dr g args st id hp (some (res, [b])) =
    if calms res = true ∧ cb b = true ∧ (dr = true → hp.length = st.hp.length) then
      (if c.wr g = true then some (callD.resD res, { tm := st.tm, hp := (id, b) :: hp, nx := st.nx })
      else if (rdH hp id).arr = false ∧ (rdH hp id).md = b.md then oS dr hp st.hp st.tm st.nx (onlyS res) res else fbD P c fr dr g args st)
    else fbD P c fr dr g args st := rfl
@[go_sem] theorem c1_two (id : Nat) (hp : List (Nat × Blk)) (res : List D) (b b2 : Blk) : c1 P c fr dr g args st id hp (some (res, [b, b2])) =
    if c.wr g = true ∧ cb b = true ∧ cb b2 = true ∧ calms res = true ∧ (dr = true → hp.length = st.hp.length) then some (callD.resD res, { tm := st.tm, hp := (st.nx, b2) :: (id, b) :: hp, nx := st.nx + 1 }) else
    if onlyS res = false ∧ c.wr g = false ∧ cb b = true ∧ cb b2 = true ∧ (dr = true → hp.length = st.hp.length) ∧ (rdH hp id).arr = false ∧ (rdH hp id).md = b.md then some (callD.resD (res.map (ren [(0, id), (1, st.nx)])), { tm := st.tm, hp := (st.nx, b2) :: hp, nx := st.nx + 1 })
    else fbD P c fr dr g args st := rfl
end
end
end Vm
end Go.Proofs.YtffgjmfkkfinlaaGreat

/-
  The machine of values, step by step: what a function hands out; loops; more operations.
-/
namespace Go.Proofs.YtffgjmfkkfinlaaGreat
namespace Vm
open Go Go.RowKit

section
variable {P : Program} {c : Cfg} {fr : Fr} {st : St} {α : Type} {f : α → List D}
@[go_sem] theorem refsLL_nil : refsLL [] = [] := rfl
@[go_sem] theorem refsLL_cons (d : D) (r : List D) : refsLL (d :: r) = refs d ++ refsLL r := rfl
@[go_sem] theorem refs_s (v : Value) : refs (.s v) = [] := rfl
@[go_sem] theorem refs_l (cp : Option Nat) (es : List (List D)) : refs (.l cp es) = [] := rfl
@[go_sem] theorem refs_q (cs : List D) : refs (.q cs) = [] := rfl
@[go_sem] theorem refs_nilS : refs nilS = [] := rfl
@[go_sem] theorem refs_sl (x : Sl α) : refs (x.d f) = [] := by cases x <;> rfl
@[go_sem] theorem refs_p (id i off : Nat) : refs (.p id i off) = [id] := rfl
@[go_sem] theorem refs_a (id lo n z : Nat) : refs (.a id lo n z) = [id] := rfl
@[go_sem] theorem refs_f (fn : Fn) : refs (.f fn [] []) = [] := rfl
@[go_sem] theorem ren_f (ρ : List (Nat × Nat)) (fn : Fn) : ren ρ (.f fn [] []) = .f fn [] [] := rfl
@[go_sem] theorem refs_g (cs : List D) : refs (.g cs) = refsL cs := rfl
@[go_sem] theorem refsL_nil : refsL [] = [] := rfl
@[go_sem] theorem refsL_cons (d : D) (r : List D) : refsL (d :: r) = refsA d ++ refsL r := rfl
@[go_sem] theorem refsA_s (v : Value) : refsA (.s v) = [] := rfl
@[go_sem] theorem refsA_l (cp : Option Nat) (es : List (List D)) : refsA (.l cp es) = [] := rfl
@[go_sem] theorem refsA_q (cs : List D) : refsA (.q cs) = [] := rfl
@[go_sem] theorem refsA_nilS : refsA nilS = [] := rfl
@[go_sem] theorem refsA_sl (x : Sl α) : refsA (x.d f) = [] := by cases x <;> rfl
@[go_sem] theorem refsA_p (id i off : Nat) : refsA (.p id i off) = [id] := rfl
@[go_sem] theorem nm_nil (j : Nat) : nm [] j = none := rfl
@[go_sem] theorem nm_cons (i v j : Nat) (m : List (Nat × Nat)) : nm ((i, v) :: m) j = if i = j then some v else nm m j := rfl
def rnP (i off : Nat) : Option Nat → D
  | some x => .p x i off
  | none => .u
@[go_sem] theorem rnP_some (i off x : Nat) : rnP i off (some x) = .p x i off := rfl
@[go_sem] theorem ren_p (ρ : List (Nat × Nat)) (id i off : Nat) : ren ρ (.p id i off) = rnP i off (nm ρ id) := by
  simp only [ren, renG, renA]
  unfold rnP
  cases nm ρ id <;> rfl
@[go_sem] theorem ren_s (ρ : List (Nat × Nat)) (v : Value) : ren ρ (.s v) = .s v := rfl
@[go_sem] theorem ren_l (ρ : List (Nat × Nat)) (cp : Option Nat) (es : List (List D)) : ren ρ (.l cp es) = .l cp es := rfl
@[go_sem] theorem ren_q (ρ : List (Nat × Nat)) (cs : List D) : ren ρ (.q cs) = .q cs := rfl
@[go_sem] theorem ren_nilS (ρ : List (Nat × Nat)) : ren ρ nilS = nilS := rfl
@[go_sem] theorem ren_sl (ρ : List (Nat × Nat)) (x : Sl α) : ren ρ (x.d f) = x.d f := by cases x <;> rfl
@[go_sem] theorem ren_g (ρ : List (Nat × Nat)) (cs : List D) (h : calmL cs = true) : ren ρ (.g cs) = .g cs := ren_calm h
@[go_sem] theorem onlyS_sl (x : Sl α) (cp : Option Nat) (xs : List α) (hx : xs.length < 9223372036854775808) (r : List D) (h : x = .l cp xs hx) : onlyS (x.d f :: r) = false := by subst h; rfl

/-! What a function hands out -/
noncomputable def fbL (c : Cfg) (fr : Fr) (st : St) (res : List D) : Option (List D × List Blk) := leave c fr st res
noncomputable def lK (c : Cfg) (fr : Fr) (st : St) (res : List D) (k : Nat) (ids : List Nat) (res' : List D) (hp : List (Nat × Blk)) : Option (List D × List Blk) := match k, ids with
  | 0, [] => if calms res' = true then some (res', []) else fbL c fr st res
  | 1, [] => if calms res' = true ∧ cb (rdH hp 0) = true then some (res', [rdH hp 0]) else fbL c fr st res
  | 0, [id] => if cb (rdH hp id) = true ∧ (rdH hp id).md < 2 then some (res'.map (ren [(id, 0)]), [rdH hp id]) else fbL c fr st res
  | 1, [id] => if cb (rdH hp 0) = true ∧ cb (rdH hp id) = true ∧ (rdH hp id).md < 2 ∧ id ≠ 0 then some (res'.map (ren [(0, 0), (id, 1)]), [rdH hp 0, rdH hp id]) else fbL c fr st res
  | _, _ => fbL c fr st res
noncomputable def lF (c : Cfg) (fr : Fr) (st : St) (res : List D) (r : Option (List D × List (Nat × Blk))) : Option (List D × List Blk) := match r with
  | some (res', hp) => if refsLL res' = [] ∧ calms res' = false then fbL c fr st res else lK c fr st res fr.k (refsLL res') res' hp
  | none => none
theorem leave_ids {res res' : List D} {hp : List (Nat × Blk)} {ids : List Nat} (ho : c.own fr.fn = false) (hk : c.keep fr.fn = false) (hf : frzGs false st.hp res = some (res', hp))
    (hr : reach hp fuel (refsBs hp (upto fr.k 0) ++ refsLL res') (upto fr.k 0) = ids) (hz : ∀ id ∈ ids, cb (rdH hp id) = true) : leave c fr st res = some (res'.map (ren (pos 0 ids)), ids.map (rdH hp)) := by
  have hz2 : ∀ ids : List Nat, (∀ id ∈ ids, cb (rdH hp id) = true) → callD.frzBs false hp ids = some hp := by
    intro ids
    induction ids with
    | nil => intro _; rfl
    | cons id r ih =>
      intro h
      rw [cb_frz (h id (by simp)), ih (fun x hx => h x (by simp [hx]))]
  unfold leave
  rw [ho, hk]
  simp only [Bool.false_eq_true, if_false, hf, hr, hz2 ids hz]
  congr 2
  exact List.map_congr_left fun id hid => cb_renB (hz id hid)
theorem leave_go {res : List D} (ho : c.own fr.fn = false) (hk : c.keep fr.fn = false) : leave c fr st res = lF c fr st res (frzGs false st.hp res) := by
  cases hf : frzGs false st.hp res with
  | none => unfold leave; rw [ho]; simp only [Bool.false_eq_true, if_false, hf]; rfl
  | some q =>
    obtain ⟨res', hp⟩ := q
    have hb : cb (rdH hp 0) = true → refsBs hp [0] = [] := by
      intro h
      simp only [refsBs, cb_refs h, List.append_nil, ite_self]
    simp only [lF]
    by_cases hne : refsLL res' = [] ∧ calms res' = false
    · rw [if_pos hne]; rfl
    rw [if_neg hne]
    obtain ⟨k, nt, fn, ro⟩ := fr
    dsimp only at ho hk ⊢
    match k, hids : refsLL res' with
    | 0, [] =>
      have hc : calms res' = true := by rw [hids] at hne; simpa using hne
      simp only [lK, hc, if_true]
      rw [leave_ids ho hk hf (ids := []) (by rw [hids]; exact reach_nil _ _ _) (by simp)]
      simp only [pos, rens_calm hc, List.map_nil]
    | 1, [] =>
      simp only [lK]
      by_cases h : calms res' = true ∧ cb (rdH hp 0) = true
      · rw [if_pos h, leave_ids ho hk hf (ids := [0]) (by rw [hids]; show reach hp fuel (refsBs hp [0] ++ []) [0] = [0]; rw [hb h.2]; exact reach_nil _ _ _) (by simpa using h.2)]
        simp only [rens_calm h.1, List.map_cons, List.map_nil]
      · rw [if_neg h]; rfl
    | 0, [id] =>
      simp only [lK]
      by_cases h : cb (rdH hp id) = true ∧ (rdH hp id).md < 2
      · have hr := reach_one h.1 (show (rdH hp id).md = 0 ∨ (rdH hp id).md = 1 by omega)
        rw [if_pos h, leave_ids ho hk hf (ids := [id]) (by rw [hids]; exact hr) (by simpa using h.1)]
        rfl
      · rw [if_neg h]; rfl
    | 1, [id] =>
      simp only [lK]
      by_cases h : cb (rdH hp 0) = true ∧ cb (rdH hp id) = true ∧ (rdH hp id).md < 2 ∧ id ≠ 0
      · rw [if_pos h]
        obtain ⟨h1, h2, h3, h4⟩ := h
        have h5 : ¬ 1 < (rdH hp id).md := by omega
        have hr : reach hp fuel [id] [0] = [0, id] := by
          simp only [fuel, reach, has, h4, if_false, h5, cb_refs h2, decide_false, Bool.or_self, Bool.false_eq_true, List.nil_append, reach_nil]
          rfl
        rw [leave_ids ho hk hf (ids := [0, id]) (by rw [hids]; show reach hp fuel (refsBs hp [0] ++ [id]) [0] = [0, id]; rw [hb h1]; exact hr) (by simp [h1, h2])]
        rfl
      · rw [if_neg h]; rfl
    | 0, _ :: _ :: _ => rfl
    | 1, _ :: _ :: _ => rfl
    | k + 2, [] => rfl
    | k + 2, [_] => rfl
    | k + 2, _ :: _ :: _ => rfl

/-- A function that left a slice of its own in the one block that it was handed. -/
theorem leave_p1 {nt fn : Nat} {ro : Bool} {res cs cs' : List D} {j : Nat} {bj : Blk} (ho : c.own fn = false) (hk : c.keep fn = false) (hr : calms res = true) (hb : rdH st.hp 0 = ⟨[cs], false, 0, false, none⟩) (hf : frzGs false st.hp cs = some (cs', (j, bj) :: st.hp)) (hc : calms cs' = true)
    (hrefs : refsE [cs] = [j]) (hj : j ≠ 0) (hpj : (rdH st.hp j).pu = true) (hmj : (rdH st.hp j).md < 2) (hbj : bj.pu = true) : leave c ⟨1, nt, fn, ro⟩ st res = some (res, [⟨[cs'], false, 0, false, none⟩, bj]) := by
  have h0j : ¬ 0 = j := fun h => hj h.symm
  have hids : reach st.hp fuel (refsBs st.hp (upto 1 0) ++ refsLL res) (upto 1 0) = [0, j] := by
    have e1 : refsBs st.hp (upto 1 0) = [j] := by
      show refsBs st.hp [0] = [j]
      simp only [refsBs, hb, refsB, Bool.false_eq_true, if_false, Nat.zero_lt_succ, if_true, hrefs, List.append_nil]
    rw [e1, refsLL_calm hr]
    have h5 : ¬ 1 < (rdH st.hp j).md := by omega
    show reach st.hp fuel [j] [0] = [0, j]
    simp only [fuel, reach, has, hj, if_false, h5, refsB, hpj, if_true, decide_false, Bool.or_self, Bool.false_eq_true, List.nil_append, reach_nil]
    rfl
  unfold leave
  simp only [ho, hk, Bool.false_eq_true, if_false, frzGs_calm hr, hids]
  have hz : callD.frzBs false st.hp [0, j] = some ((0, ⟨[cs'], false, 0, false, none⟩) :: (j, bj) :: st.hp) := by
    have hl : ¬ (st.hp.length + 1 = st.hp.length ∧ noA cs = true) := by omega
    simp only [callD.frzBs, hb, Bool.or_self, Bool.false_eq_true, if_false, hf, List.length_cons, hl, rdH, h0j, if_true, hbj, Bool.true_or, ite_self, Nat.not_lt_zero]
  simp only [hz, rens_calm hr, List.map_cons, List.map_nil, rdH, if_true, h0j, if_false]
  rw [renB_pure hbj, cb_renB (by simp only [cb, hc, Bool.or_true])]
def rvK (c : Cfg) (fr : Fr) (st : St) (r : Option (List D)) : Option (List D × List Blk) := match r with
  | some res => leave c fr st res
  | none => none
@[go_sem] theorem rvK_some (res : List D) : rvK c fr st (some res) = leave c fr st res := rfl
@[go_sem] theorem endE_ret (rs : List ResultVar) : endE P c fr rs (some (.ret, st)) = rvK c fr st (resVars P st rs) := by
  unfold endE rvK; dsimp only; cases resVars P st rs <;> rfl
@[go_sem] theorem endE_normal (rs : List ResultVar) : endE P c fr rs (some (.normal, st)) = rvK c fr st (resVars P st rs) := by
  unfold endE rvK; dsimp only; cases resVars P st rs <;> rfl
def rvC (a : Option D) (r : Option (List D)) : Option (List D) := match a, r with
  | some d, some ds => some (d :: ds)
  | _, _ => none
@[go_sem] theorem rvC_some (d : D) (ds : List D) : rvC (some d) (some ds) = some (d :: ds) := rfl
@[go_sem] theorem resVars_nil : resVars P st [] = some [] := rfl
@[go_sem] theorem resVars_cons (x : ResultVar) (r : List ResultVar) : resVars P st (x :: r) = rvC (resVar P st x) (resVars P st r) := by
  simp only [resVars]
  unfold rvC
  cases resVar P st x <;> cases resVars P st r <;> rfl
@[go_sem] theorem resVar_tmp (t : Tmp) : resVar P st (.tmp t) = some (rdT st.tm t) := rfl
@[go_sem] theorem resVar_cell (t : Tmp) (ty : TypeId) : resVar P st (.cell t ty) = ldC (agg P ty) (sz P ty) (memAt st.hp (rdT st.tm t)) := by
  unfold resVar ldC
  dsimp only
  cases memAt st.hp (rdT st.tm t) <;> cases sz P ty <;> rfl
@[go_sem] theorem lF_some (res res' : List D) (hp : List (Nat × Blk)) : lF c fr st res (some (res', hp)) = if refsLL res' = [] ∧ calms res' = false then fbL c fr st res else lK c fr st res fr.k (refsLL res') res' hp := rfl
@[go_sem] theorem lK_00 (res res' : List D) (hp : List (Nat × Blk)) : lK c fr st res 0 [] res' hp = if calms res' = true then some (res', []) else fbL c fr st res := rfl
@[go_sem] theorem lK_10 (res res' : List D) (hp : List (Nat × Blk)) : lK c fr st res 1 [] res' hp = if calms res' = true ∧ cb (rdH hp 0) = true then some (res', [rdH hp 0]) else fbL c fr st res := rfl
@[go_sem] theorem lK_01 (res res' : List D) (hp : List (Nat × Blk)) (id : Nat) : lK c fr st res 0 [id] res' hp = if cb (rdH hp id) = true ∧ (rdH hp id).md < 2 then some (res'.map (ren [(id, 0)]), [rdH hp id]) else fbL c fr st res := rfl
@[go_sem] theorem lK_11 (res res' : List D) (hp : List (Nat × Blk)) (id : Nat) : lK c fr st res 1 [id] res' hp = if cb (rdH hp 0) = true ∧ cb (rdH hp id) = true ∧ (rdH hp id).md < 2 ∧ id ≠ 0 then some (res'.map (ren [(0, 0), (id, 1)]), [rdH hp 0, rdH hp id]) else fbL c fr st res := rfl

/-! Loops -/
/-- What a round of a loop comes to. -/
def StepR (good : St → Prop) (Post : Ex → St → Prop) (r : Option (Ex × St)) : Prop := match r with
  | some (.normal, st) => good st
  | some (x, st) => Post x st
  | none => False
@[go_sem] theorem step_normal (good : St → Prop) (Post : Ex → St → Prop) (st : St) : StepR good Post (some (.normal, st)) = good st := rfl
@[go_sem] theorem step_exit (good : St → Prop) (Post : Ex → St → Prop) (i : Nat) (st : St) : StepR good Post (some (.exit i, st)) = Post (.exit i) st := rfl
@[go_sem] theorem step_ret (good : St → Prop) (Post : Ex → St → Prop) (st : St) : StepR good Post (some (.ret, st)) = Post .ret st := rfl
@[go_sem] theorem step_goto (good : St → Prop) (Post : Ex → St → Prop) (l : Nat) (st : St) : StepR good Post (some (.goto l, st)) = Post (.goto l) st := rfl

theorem loop_of {body : Code} (hh : ∀ st, headD c fr body st = some st) (I : St → Prop) (μ : St → Nat) (Q : Ex → St → Prop)
    (step : ∀ st, I st → StepR (fun st2 => I st2 ∧ μ st2 < μ st) Q (exe P c fr body st)) : ∀ (n : Nat) (st : St), μ st < n → I st → ∃ x st2, exe P c fr (.loop body) st = some (x, st2) ∧ Q x st2
  | 0, st, h, _ => by omega
  | n + 1, st, h, hi => by
    have hs := step st hi
    rw [e_loop, hh]
    simp only [kH]
    cases hr : exe P c fr body st with
    | none => rw [hr] at hs; exact hs.elim
    | some r =>
      obtain ⟨x, st2⟩ := r
      rw [hr] at hs
      cases x with
      | normal => exact loop_of hh I μ Q step n st2 (Nat.lt_of_lt_of_le hs.2 (by omega)) hs.1
      | _ => exact ⟨_, _, rfl, hs⟩
/-- A loop: what holds at its head, and what grows less. -/
theorem loop_use {body : Code} {st : St} {r : Option (Ex × St)} (hx : exe P c fr (.loop body) st = r) (hh : ∀ st, headD c fr body st = some st) (I : St → Prop) (μ : St → Nat) (Q : Ex → St → Prop) (h0 : I st)
    (step : ∀ st, I st → StepR (fun st2 => I st2 ∧ μ st2 < μ st) Q (exe P c fr body st)) : ∃ x st2, r = some (x, st2) ∧ Q x st2 := by
  obtain ⟨x, st2, h1, h2⟩ := loop_of hh I μ Q step (μ st + 1) st (by omega) h0
  exact ⟨x, st2, by rw [← hx, h1], h2⟩
/-- A loop over a list's elements: `I i b` at its head, where `i` are done and `b` is what was gathered; `F b rest`: what it comes to. -/
theorem list_use {body : Code} {st : St} {r : Option (Ex × St)} (hx : exe P c fr (.loop body) st = r) (hh : ∀ st, headD c fr body st = some st) {β γ : Type} (xs : List α) (hlen : xs.length < 9223372036854775808) (I : Nat → β → St → Prop) (F : β → List α → γ) (Q : γ → Ex → St → Prop) (b0 : β) (h0 : I 0 b0 st)
    (step : ∀ (i : Nat) (b : β) (st : St) (a : α) (rest : List α), xs[i]? = some a → xs.drop i = a :: rest → ((i : Int) < (xs.length : Int)) → IntKind.i64.wrap ((i : Int) + 1) = ((i + 1 : Nat) : Int) → I i b st →
      StepR (fun st2 => ∃ b', I (i + 1) b' st2 ∧ F b (a :: rest) = F b' rest) (Q (F b (a :: rest))) (exe P c fr body st))
    (done : ∀ (b : β) (st : St), I xs.length b st → StepR (fun _ => False) (Q (F b [])) (exe P c fr body st)) : ∃ x st2, r = some (x, st2) ∧ Q (F b0 xs) x st2 := by
  have main : ∀ (m i : Nat) (b : β) (st : St), xs.length - i = m → i ≤ xs.length → I i b st → ∃ x st2, exe P c fr (.loop body) st = some (x, st2) ∧ Q (F b (xs.drop i)) x st2 := by
    intro m
    induction m with
    | zero =>
      intro i b st hm hi hI
      have : i = xs.length := by omega
      subst this
      have hs := done b st hI
      rw [e_loop, hh, List.drop_length]
      simp only [kH]
      cases hr : exe P c fr body st with
      | none => rw [hr] at hs; exact hs.elim
      | some q =>
        obtain ⟨x, st2⟩ := q
        rw [hr] at hs
        cases x with
        | normal => exact hs.elim
        | _ => exact ⟨_, _, rfl, hs⟩
    | succ m ih =>
      intro i b st hm hi hI
      have hlt : i < xs.length := by omega
      have hd : xs.drop i = xs[i] :: xs.drop (i + 1) := List.drop_eq_getElem_cons hlt
      have hs := step i b st xs[i] (xs.drop (i + 1)) (by simp [hlt]) hd (by omega) (by rw [IntKind.wrap_i64]; omega) hI
      rw [e_loop, hh, hd]
      simp only [kH]
      cases hr : exe P c fr body st with
      | none => rw [hr] at hs; exact hs.elim
      | some q =>
        obtain ⟨x, st2⟩ := q
        rw [hr] at hs
        cases x with
        | normal =>
          obtain ⟨b', h1, h2⟩ := hs
          obtain ⟨x, st3, h3, h4⟩ := ih (i + 1) b' st2 (by omega) (by omega) h1
          exact ⟨x, st3, h3, by rw [h2]; exact h4⟩
        | _ => exact ⟨_, _, rfl, hs⟩
  obtain ⟨x, st2, h1, h2⟩ := main xs.length 0 b0 st (by omega) (by omega) h0
  exact ⟨x, st2, by rw [← hx, h1], by simpa using h2⟩
end

/-! Appends; slices that are cut; copies -/
section
variable {P : Program} {c : Cfg} {fr : Fr} {dr : Bool} {call : Vm.Callee} (dst : Option Tmp) (ty : TypeId) (pos : String) (after : Array Edge) (guard : Option (Nat × Bool)) (st : St) {α : Type} {f : α → List D}
def apT (P : Program) (t u : TypeId) : Option (Nat × Nat) := match elt P t with
  | some el => (match sz P el, byt P el, zer P el with
    | some n, some b, some z => if 0 < n ∧ z.length = n ∧ (elt P u).isSome = true then some (n, b) else none
    | _, _, _ => none)
  | none => none
noncomputable def fbO (P : Program) (c : Cfg) (fr : Fr) (dr : Bool) (call : Vm.Callee) (st : St) (o : Oper) : Option (D × St) := opD P c fr dr call st o
noncomputable def apK (P : Program) (c : Cfg) (fr : Fr) (dr : Bool) (call : Vm.Callee) (st : St) (o : Oper) (dx dy : D) (r : Option (Nat × Nat)) : Option (D × St) := match r with
  | some (n, b) => appendD fr n b st dx dy
  | none => fbO P c fr dr call st o
@[go_sem] theorem d_append (x y : Operand) (t u : TypeId) : opD P c fr dr call st { dst := dst, op := .call { callee := .builtin .append, args := #[x, y], argTypes := #[t, u] }, type := ty, pos := pos, after := after, guard := guard } =
    apK P c fr dr call st { dst := dst, op := .call { callee := .builtin .append, args := #[x, y], argTypes := #[t, u] }, type := ty, pos := pos, after := after, guard := guard } (ev st.tm x) (ev st.tm y) (apT P t u) := by
  unfold apK
  split
  · rename_i n b h
    have e : opD P c fr dr call st { dst := dst, op := .call { callee := .builtin .append, args := #[x, y], argTypes := #[t, u] }, type := ty, pos := pos, after := after, guard := guard } = op1 P c fr dr call st { dst := dst, op := .call { callee := .builtin .append, args := #[x, y], argTypes := #[t, u] }, type := ty, pos := pos, after := after, guard := guard } := rfl
    rw [e]
    unfold apT at h
    unfold op1
    cases h1 : elt P t with
    | none => rw [h1] at h; cases h
    | some el =>
      simp only [h1] at h ⊢
      cases h2 : sz P el <;> cases h3 : byt P el <;> cases h4 : zer P el <;> simp only [h2, h3, h4] at h ⊢ <;> try (cases h; done)
      split at h
      · rename_i hc
        cases h
        obtain ⟨c1, c2, c3⟩ := hc
        cases h5 : elt P u with
        | none => rw [h5] at c3; simp at c3
        | some e => simp only [List.map_cons, List.map_nil, h1, h2, h3, h4, h5, c1, c2, and_self, if_true]
      · cases h
  · rfl
@[go_sem] theorem apK_some (o : Oper) (dx dy : D) (n b : Nat) : apK P c fr dr call st o dx dy (some (n, b)) = appendD fr n b st dx dy := rfl
@[go_sem] theorem peek_l (hp : List (Nat × Blk)) (cp : Option Nat) (es : List (List D)) : peek hp (.l cp es) = some es := rfl
@[go_sem] theorem peek_sl (hp : List (Nat × Blk)) (x : Sl α) : peek hp (x.d f) = some (x.xs.map f) := by cases x <;> rfl
@[go_sem] theorem sizes_nil (n : Nat) : sizesOk n [] = true := rfl
@[go_sem] theorem sizes_cons (n : Nat) (e : List D) (r : List (List D)) : sizesOk n (e :: r) = (e.length == n && sizesOk n r) := rfl
theorem sizes_map (n : Nat) (h : ∀ a : α, (f a).length = n) : ∀ xs : List α, sizesOk n (xs.map f) = true
  | [] => rfl
  | a :: r => by simp only [List.map_cons, sizesOk, h a, beq_self_eq_true, Bool.true_and, sizes_map n h r]
def clK (c : Cfg) (fr : Fr) (dr : Bool) (call : Vm.Callee) (args : List D) (st : St) (d : D) : Option (D × St) := match d with
  | .f (.func g) first cap => if (dr && c.wr g) = true then none else callD c fr dr call g (first ++ args ++ cap) st
  | _ => none
@[go_sem] theorem d_callT (t : Tmp) (xs : Array Operand) (ts : Array TypeId) : opD P c fr dr call st { dst := dst, op := .call { callee := .value (.tmp t), args := xs, argTypes := ts }, type := ty, pos := pos, after := after, guard := guard } =
    clK c fr dr call (xs.toList.map (ev st.tm)) st (rdT st.tm t) := by
  have e : opD P c fr dr call st { dst := dst, op := .call { callee := .value (.tmp t), args := xs, argTypes := ts }, type := ty, pos := pos, after := after, guard := guard } = op1 P c fr dr call st { dst := dst, op := .call { callee := .value (.tmp t), args := xs, argTypes := ts }, type := ty, pos := pos, after := after, guard := guard } := rfl
  rw [e]; unfold op1 clK; rfl
@[go_sem] theorem clK_f (args : List D) (g : FuncId) (x y : List D) : clK c fr dr call args st (.f (.func g) x y) = if (dr && c.wr g) = true then none else callD c fr dr call g (x ++ args ++ y) st := rfl
def opK (o : Option Operand) (tm : List (Nat × D)) : Option D := o.map (ev tm)
def ctK (st : St) (r : Option (D × List (Nat × Blk))) : Option (D × St) := match r with
  | some (d, hp) => some (d, { tm := st.tm, hp := hp, nx := st.nx })
  | none => none
@[go_sem] theorem d_slice (t : TypeId) (x : Operand) (lo hi mx : Option Operand) : opD P c fr dr call st { dst := dst, op := .slice t x lo hi mx, type := ty, pos := pos, after := after, guard := guard } = ctK st (cut P t dr st.hp (ev st.tm x) (lo.map (ev st.tm)) (hi.map (ev st.tm)) (mx.map (ev st.tm))) := by
  have e : opD P c fr dr call st { dst := dst, op := .slice t x lo hi mx, type := ty, pos := pos, after := after, guard := guard } = op1 P c fr dr call st { dst := dst, op := .slice t x lo hi mx, type := ty, pos := pos, after := after, guard := guard } := rfl
  rw [e]; unfold op1 ctK; dsimp only; cases cut P t dr st.hp (ev st.tm x) (lo.map (ev st.tm)) (hi.map (ev st.tm)) (mx.map (ev st.tm)) <;> rfl
@[go_sem] theorem ctK_some (d : D) (hp : List (Nat × Blk)) : ctK st (some (d, hp)) = some (d, { tm := st.tm, hp := hp, nx := st.nx }) := rfl
end

attribute [go_sem] exists_const exists_eq exists_eq_left exists_eq_right exists_eq_left' exists_eq_right' exists_and_left exists_and_right Int.natCast_zero List.map_cons List.map_nil List.getElem?_cons_zero List.getElem?_cons_succ List.getElem?_toArray Option.bind_some List.length_cons List.length_nil List.take_zero List.take_succ_cons List.drop_zero List.drop_succ_cons List.drop_nil List.nil_append List.cons_append List.append_nil List.set_cons_zero List.set_cons_succ and_true true_and and_false false_and or_true true_or or_false false_or Bool.and_true Bool.true_and Bool.and_self Bool.not_true Bool.not_false Bool.true_eq_false Bool.false_eq_true Nat.zero_add Nat.add_zero Nat.le_refl Nat.zero_le Nat.zero_mul Nat.one_mul Nat.mul_zero decide_eq_true_eq decide_eq_false_iff_not ite_not Option.map_some Option.map_none initT initH not_false_eq_true not_true_eq_false decide_true decide_false Bool.not_eq_eq_eq_not Option.isSome_some eq_self if_true if_false List.isEmpty_cons and_self Nat.mul_one Bool.false_and Bool.and_false ne_eq forall_const implies_true Bool.or_true Bool.true_or Bool.or_false Bool.false_or beq_self_eq_true false_imp_iff List.length_append
end Vm
end Go.Proofs.YtffgjmfkkfinlaaGreat

/-
  The machine of values, step by step: arithmetic and comparisons.
-/
namespace Go.Proofs.YtffgjmfkkfinlaaGreat
namespace Vm
open Go Go.RowKit
section
variable {P : Program} (t : TypeId) (k : IntKind) (x y : Int)
@[go_sem] theorem bin_add : binD P .add t (.s (.int k x)) (.s (.int k y)) = some (.s (.int k (k.wrap (x + y)))) := by
  cases k <;> rfl
@[go_sem] theorem bin_sub : binD P .sub t (.s (.int k x)) (.s (.int k y)) = some (.s (.int k (k.wrap (x - y)))) := by
  cases k <;> rfl
@[go_sem] theorem bin_mul : binD P .mul t (.s (.int k x)) (.s (.int k y)) = some (.s (.int k (k.wrap (x * y)))) := by
  cases k <;> rfl
@[go_sem] theorem bin_lss : binD P .lss t (.s (.int k x)) (.s (.int k y)) = some (.s (.bool (decide (x < y)))) := by
  cases k <;> rfl
@[go_sem] theorem bin_leq : binD P .leq t (.s (.int k x)) (.s (.int k y)) = some (.s (.bool (decide (x ≤ y)))) := by
  cases k <;> rfl
@[go_sem] theorem bin_gtr : binD P .gtr t (.s (.int k x)) (.s (.int k y)) = some (.s (.bool (decide (y < x)))) := by
  cases k <;> rfl
@[go_sem] theorem bin_geq : binD P .geq t (.s (.int k x)) (.s (.int k y)) = some (.s (.bool (decide (y ≤ x)))) := by
  cases k <;> rfl
@[go_sem] theorem bin_quo (h : y ≠ 0) : binD P .quo t (.s (.int k x)) (.s (.int k y)) = some (.s (.int k (k.wrap (Int.tdiv x y)))) := by
  have e : binD P .quo t (.s (.int k x)) (.s (.int k y)) = (match val P (Op.intDiv .quo k x y) with | some r => some (ofValue r) | none => none) := by cases k <;> rfl
  rw [e]
  unfold Op.intDiv
  simp [h]
  rfl
@[go_sem] theorem bin_rem (h : y ≠ 0) : binD P .rem t (.s (.int k x)) (.s (.int k y)) = some (.s (.int k (Int.tmod x y))) := by
  have e : binD P .rem t (.s (.int k x)) (.s (.int k y)) = (match val P (Op.intDiv .rem k x y) with | some r => some (ofValue r) | none => none) := by cases k <;> rfl
  rw [e]
  unfold Op.intDiv
  simp [h]
  rfl
@[go_sem] theorem bin_eql (h : P.eqGuardType P.depth t = false) : binD P .eql t (.s (.int k x)) (.s (.int k y)) = some (.s (.bool (decide (x = y)))) := by
  have e : binD P .eql t (.s (.int k x)) (.s (.int k y)) = (if (P.eqGuardType P.depth t || false) = true then none else some (.s (.bool (decide (x = y))))) := by cases k <;> rfl
  rw [e, h]; rfl
@[go_sem] theorem bin_neq (h : P.eqGuardType P.depth t = false) : binD P .neq t (.s (.int k x)) (.s (.int k y)) = some (.s (.bool (!decide (x = y)))) := by
  have e : binD P .neq t (.s (.int k x)) (.s (.int k y)) = (if (P.eqGuardType P.depth t || false) = true then none else some (.s (.bool (!decide (x = y))))) := by cases k <;> rfl
  rw [e, h]; rfl
end
section
variable {P : Program} {α : Type} {f : α → List D}
def bnN (op : BinOp) (r : Option Bool) : Option D := match op with
  | .eql => (match r with | some b => some (.s (.bool b)) | none => none)
  | .neq => (match r with | some b => some (.s (.bool !b)) | none => none)
  | _ => none
@[go_sem] theorem bnN_eql (b : Bool) : bnN .eql (some b) = some (.s (.bool b)) := rfl
@[go_sem] theorem bnN_neq (b : Bool) : bnN .neq (some b) = some (.s (.bool !b)) := rfl
@[go_sem] theorem bin_nilp (t : TypeId) (id i off : Nat) (op : BinOp) : binD P op t (.p id i off) (.s (.pointer none)) = bnN op (eqNil P t (.p id i off) (.s (.pointer none))) := by
  unfold binD bnN; cases op <;> rfl
end
section
variable {P : Program} {c : Cfg} {k nt fn : Nat} {ro : Bool}
@[go_sem] theorem g_region {ops : Array Oper} (id : Nat) (dr : Bool) (st : St) (h : c.lock fn id = []) : exe P c ⟨k, nt, fn, ro⟩ (.region id ops dr) st = kN (opsD P c ⟨k, nt, fn, ro⟩ dr (callI P c) ops ops.toList st) := e_region id dr st h
/-- A load: of what nobody writes, where that was chosen. -/
def ldX (fr ag : Bool) (s : Option Nat) (st : St) (d : D) : Option (D × St) := match fr, d with
  | false, d => k0 st (ldC ag s (memAt st.hp d))
  | true, .q cs => k0 st (ldC ag s (some cs))
  | true, _ => none
@[go_sem] theorem g_load {dr : Bool} {call : Vm.Callee} (d : Tmp) (ty : TypeId) (pos : String) (after : Array Edge) (guard : Option (Nat × Bool)) (st : St) (t : TypeId) (x : Operand) : opD P c ⟨k, nt, fn, ro⟩ dr call st { dst := some d, op := .load t x, type := ty, pos := pos, after := after, guard := guard } = ldX (c.free fn d) (agg P t) (sz P t) st (ev st.tm x) := by
  cases hf : c.free fn d with
  | false =>
    have hc : cls c fn { dst := some d, op := .load t x, type := ty, pos := pos, after := after, guard := guard } = 1 := by unfold cls; simp [hf]
    unfold opD; simp only [hc]
    unfold op1 ldX ldC
    dsimp only
    cases memAt st.hp (ev st.tm x) <;> cases sz P t <;> rfl
  | true =>
    have hc : cls c fn { dst := some d, op := .load t x, type := ty, pos := pos, after := after, guard := guard } = 0 := by unfold cls; simp [hf]
    unfold opD; simp only [hc]
    unfold opQ ldX ldC k0
    dsimp only
    cases ev st.tm x <;> cases sz P t <;> rfl
@[go_sem] theorem ldX_false (ag : Bool) (s : Option Nat) (st : St) (d : D) : ldX false ag s st d = k0 st (ldC ag s (memAt st.hp d)) := rfl
@[go_sem] theorem ldX_q (ag : Bool) (s : Option Nat) (st : St) (cs : List D) : ldX true ag s st (.q cs) = k0 st (ldC ag s (some cs)) := rfl
@[go_sem] theorem g_leave {st : St} {res : List D} (ho : c.own fn = false) (hk : c.keep fn = false) : leave c ⟨k, nt, fn, ro⟩ st res = lF c ⟨k, nt, fn, ro⟩ st res (frzGs false st.hp res) := leave_go ho hk
end
attribute [go_sem] lenK_l lenK_a lenK_nil lenK_sl callD_go callD_w has
end Vm
end Go.Proofs.YtffgjmfkkfinlaaGreat

/-
  The machine of values: when two structs of numbers are the same.
-/
namespace Go.Proofs.YtffgjmfkkfinlaaGreat
namespace Vm
open Go Go.RowKit

theorem val_bind {α β : Type} (P : Program) : ∀ (s : Sem α) (f : α → Sem β), val P (s.bind f) = (val P s).bind (fun a => val P (f a))
  | .pure _, _ => rfl
  | .program k, f => val_bind P (k P) f
  | .load .., _ => rfl
  | .store .., _ => rfl
  | .new .., _ => rfl
  | .shape .., _ => rfl
  | .freeze .., _ => rfl
  | .frozen .., _ => rfl
  | .getObj .., _ => rfl
  | .setObj .., _ => rfl
  | .choose .., _ => rfl
  | .sys .., _ => rfl
  | .mark .., _ => rfl
  | .halt .., _ => rfl
theorem val_do {α β : Type} (P : Program) (s : Sem α) (f : α → Sem β) : val P (s >>= f) = (val P s).bind (fun a => val P (f a)) := val_bind P s f
theorem val_pure {α : Type} (P : Program) (a : α) : val P (pure a : Sem α) = some a := rfl
theorem val_program (P : Program) : val P program = some P := rfl
theorem val_ite {α : Type} (P : Program) (c : Prop) [Decidable c] (a b : Sem α) : val P (if c then a else b) = if c then val P a else val P b := by split <;> rfl
theorem val_underlying {P : Program} {t : TypeId} {d : TypeDesc} (h : P.underlying t = some d) : val P (underlying t) = some d := by
  simp only [underlying, val_do, val_program, Option.bind_some, h, val_pure]

def eqF (P : Program) (d : Nat) (xs ys : Array Value) : List Field → Option Bool
  | [] => some true
  | f :: fs =>
    if f.name ≠ "_" then
      (val P (part f.type xs f.offset)).bind fun a => (val P (part f.type ys f.offset)).bind fun b => (val P (Op.equalIn d f.type a b)).bind fun r =>
        if (!r) = true then some false else eqF P d xs ys fs
    else eqF P d xs ys fs

theorem val_equal_struct {P : Program} (d : Nat) (t : TypeId) (xs ys : Array Value) {fs : Array Field} (ht : P.underlying t = some (.struct fs)) (hp : P.stoodInHeld t = false) :
    val P (Op.equalIn (d + 1) t (.agg xs) (.agg ys)) = eqF P d xs ys fs.toList := by
  simp only [Op.equalIn, val_do, val_underlying ht, Option.bind_some, val_program, hp, Bool.false_eq_true, if_false]
  rw [← Array.forIn_toList]
  generalize fs.toList = l
  induction l with
  | nil => simp [eqF, val_pure]
  | cons f fs ih =>
    simp only [List.forIn_cons, eqF, val_do, val_ite, val_pure]
    split
    · cases val P (part f.type xs f.offset) with
      | none => rfl
      | some a =>
        simp only [Option.bind_some]
        cases val P (part f.type ys f.offset) with
        | none => rfl
        | some b =>
          simp only [Option.bind_some]
          cases val P (Op.equalIn d f.type a b) with
          | none => rfl
          | some r =>
            simp only [Option.bind_some]
            cases r
            · rfl
            · simp only [Bool.not_true, Bool.false_eq_true, if_false, Option.bind_some]
              exact ih
    · simp only [Option.bind_some]
      exact ih

theorem val_equal_int {P : Program} (d : Nat) (t : TypeId) (k k' : IntKind) (a b : Int) (h : P.underlying t = some (.int k')) : val P (Op.equalIn (d + 1) t (.int k a) (.int k b)) = some (a == b) := by
  simp only [Op.equalIn, val_do, val_underlying h, Option.bind_some, if_true, val_pure]
theorem val_equal_bool {P : Program} (d : Nat) (t : TypeId) (a b : Bool) (h : P.underlying t = some .bool) : val P (Op.equalIn (d + 1) t (.bool a) (.bool b)) = some (a == b) := by
  simp only [Op.equalIn, val_do, val_underlying h, Option.bind_some, val_pure]
theorem val_equal_str {P : Program} (d : Nat) (t : TypeId) (a b : ByteArray) (h : P.underlying t = some .string) : val P (Op.equalIn (d + 1) t (.string a) (.string b)) = some (a == b) := by
  simp only [Op.equalIn, val_do, val_underlying h, Option.bind_some, val_pure]
theorem ba_eq (a b : ByteArray) : (a == b) = decide (a = b) := by
  obtain ⟨a⟩ := a
  obtain ⟨b⟩ := b
  have e : ((⟨a⟩ : ByteArray) == ⟨b⟩) = (a == b) := rfl
  rw [e]
  by_cases h : a = b
  · subst h; simp
  · have : (⟨a⟩ : ByteArray) ≠ ⟨b⟩ := fun e => h (by cases e; rfl)
    simp [h, this]
def scalT (P : Program) (t : TypeId) : Bool := match P.underlying t with | some (.int _) | some .bool | some .string => true | _ => false
theorem val_part {P : Program} {t : TypeId} {xs : Array Value} {off : Nat} {v : Value} (h : scalT P t = true) (hv : xs[off]? = some v) : val P (part t xs off) = some v := by
  unfold scalT at h
  cases hu : P.underlying t with
  | none => rw [hu] at h; cases h
  | some d =>
    rw [hu] at h
    cases d <;> first | (cases h; done) | simp only [part, isAgg, val_do, val_underlying hu, Option.bind_some, val_pure, Bool.false_eq_true, if_false, hv]
theorem val_part_agg {P : Program} {t : TypeId} {xs : Array Value} {off n : Nat} {fs : Array Field} {i : TypeInfo} (hu : P.underlying t = some (.struct fs)) (hi : P.info? t = some i) (hn : i.size = n) : val P (part t xs off) = some (.agg (xs.extract off (off + n))) := by
  simp only [part, isAgg, val_do, val_underlying hu, Option.bind_some, val_pure, if_true, sizeOf, typeInfo, val_program, hi, hn]

/-- Two lists of cells: are they the same, one by one? -/
def eqC : List D → List D → Option Bool
  | [], [] => some true
  | .s (.int k a) :: r, .s (.int k' b) :: q => if k = k' then (eqC r q).map (fun e => decide (a = b) && e) else none
  | .s (.bool a) :: r, .s (.bool b) :: q => (eqC r q).map (fun e => (a == b) && e)
  | .s (.string a) :: r, .s (.string b) :: q => (eqC r q).map (fun e => decide (a = b) && e)
  | _, _ => none

theorem eqC_inv {c d : D} {cr dr : List D} {r : Bool} (h : eqC (c :: cr) (d :: dr) = some r) : ∃ e, eqC cr dr = some e ∧ ((∃ k a b, c = .s (.int k a) ∧ d = .s (.int k b) ∧ r = (decide (a = b) && e)) ∨ (∃ a b, c = .s (.bool a) ∧ d = .s (.bool b) ∧ r = ((a == b) && e)) ∨ (∃ a b, c = .s (.string a) ∧ d = .s (.string b) ∧ r = (decide (a = b) && e))) := by
  have hm : ∀ {o : Option Bool} {f : Bool → Bool}, o.map f = some r → ∃ e, o = some e ∧ r = f e := by
    intro o f h
    cases o with
    | none => simp at h
    | some e => exact ⟨e, rfl, by simpa using h.symm⟩
  cases c <;> try (simp [eqC] at h; done)
  rename_i v
  cases v <;> try (simp [eqC] at h; done)
  all_goals cases d <;> try (simp [eqC] at h; done)
  all_goals rename_i w
  all_goals cases w <;> try (simp [eqC] at h; done)
  all_goals simp only [eqC] at h
  · obtain ⟨e, h1, h2⟩ := hm h; exact ⟨e, h1, .inr (.inl ⟨_, _, rfl, rfl, h2⟩)⟩
  · split at h
    · rename_i hk; subst hk; obtain ⟨e, h1, h2⟩ := hm h; exact ⟨e, h1, .inl ⟨_, _, _, rfl, rfl, h2⟩⟩
    · cases h
  · obtain ⟨e, h1, h2⟩ := hm h; exact ⟨e, h1, .inr (.inr ⟨_, _, rfl, rfl, h2⟩)⟩
theorem eqC_left {c : D} {cr : List D} {r : Bool} (h : eqC (c :: cr) [] = some r) : False := by
  cases c <;> simp [eqC] at h

/-- The kinds of a plain value's cells. -/
inductive K where
  | i | b | s
def kindOk : K → D → Bool
  | .i, .s (.int ..) => true
  | .b, .s (.bool _) => true
  | .s, .s (.string _) => true
  | _, _ => false
def kindsOk : List K → List D → Bool
  | [], [] => true
  | k :: ks, d :: ds => kindOk k d && kindsOk ks ds
  | _, _ => false
def kindT (P : Program) (t : TypeId) : Option K := match P.underlying t with
  | some (.int _) => some .i
  | some .bool => some .b
  | some .string => some .s
  | _ => none
def plainF (P : Program) : Nat → List Field → Option (List K)
  | _, [] => some []
  | o, f :: r => if (f.name != "_") && Nat.beq f.offset o then (match kindT P f.type, plainF P (o + 1) r with
    | some k, some ks => some (k :: ks)
    | _, _ => none) else none
/-- A struct whose fields are numbers, bools and texts: their kinds. -/
def plainN (P : Program) (t : TypeId) : Option (List K) := match P.underlying t with
  | some (.struct fs) => if !P.stoodInHeld t && !P.eqGuardType P.depth t then plainF P 0 fs.toList else none
  | _ => none
theorem kindT_scal {P : Program} {t : TypeId} {k : K} (h : kindT P t = some k) : scalT P t = true := by
  unfold kindT at h; unfold scalT
  cases hu : P.underlying t with
  | none => rw [hu] at h; cases h
  | some d => rw [hu] at h; cases d <;> first | rfl | (cases h; done)
theorem val_equal_kind {P : Program} (d : Nat) {t : TypeId} {k : K} (h : kindT P t = some k) {c dd : D} {cr dr : List D} {r : Bool} (hc : kindOk k c = true) (hd : kindOk k dd = true) (he : eqC (c :: cr) (dd :: dr) = some r) :
    ∃ va vb b e, toCell c = some va ∧ toCell dd = some vb ∧ val P (Op.equalIn (d + 1) t va vb) = some b ∧ eqC cr dr = some e ∧ r = (b && e) := by
  obtain ⟨e, h1, h2⟩ := eqC_inv he
  unfold kindT at h
  cases hu : P.underlying t with
  | none => rw [hu] at h; cases h
  | some ty =>
    rw [hu] at h
    rcases h2 with ⟨k', a, b, rfl, rfl, rfl⟩ | ⟨a, b, rfl, rfl, rfl⟩ | ⟨a, b, rfl, rfl, rfl⟩
    · cases ty <;> simp only [Option.some.injEq, reduceCtorEq] at h <;> subst h <;> simp only [kindOk, Bool.false_eq_true, reduceCtorEq] at hc
      exact ⟨_, _, _, e, rfl, rfl, val_equal_int d t _ _ a b hu, h1, by congr 1⟩
    · cases ty <;> simp only [Option.some.injEq, reduceCtorEq] at h <;> subst h <;> simp only [kindOk, Bool.false_eq_true, reduceCtorEq] at hc
      exact ⟨_, _, _, e, rfl, rfl, val_equal_bool d t a b hu, h1, rfl⟩
    · cases ty <;> simp only [Option.some.injEq, reduceCtorEq] at h <;> subst h <;> simp only [kindOk, Bool.false_eq_true, reduceCtorEq] at hc
      exact ⟨_, _, _, e, rfl, rfl, val_equal_str d t a b hu, h1, by rw [ba_eq]⟩

theorem eqF_plain {P : Program} (d : Nat) {xs ys : Array Value} : ∀ (fs : List Field) (o : Nat) (cs ds : List D) (r : Bool) (ks : List K), plainF P o fs = some ks → eqC cs ds = some r → kindsOk ks cs = true → kindsOk ks ds = true → (∀ i, (cs[i]?).bind toCell = xs[o + i]?) → (∀ i, (ds[i]?).bind toCell = ys[o + i]?) →
    eqF P (d + 1) xs ys fs = some r := by
  intro fs
  induction fs with
  | nil =>
    intro o cs ds r ks hp he hc hd _ _
    simp only [plainF, Option.some.injEq] at hp
    subst hp
    cases cs with
    | nil => cases ds with
      | nil => simp only [eqC, Option.some.injEq] at he; subst he; rfl
      | cons _ _ => simp [kindsOk] at hd
    | cons _ _ => simp [kindsOk] at hc
  | cons f fs ih =>
    intro o cs ds r ks hp he hc hd hx hy
    simp only [plainF] at hp
    split at hp
    case isFalse => cases hp
    rename_i hcond
    simp only [Bool.and_eq_true, bne_iff_ne, ne_eq] at hcond
    obtain ⟨h1, h2⟩ := hcond
    have h2 := Nat.eq_of_beq_eq_true h2
    split at hp
    case h_2 => cases hp
    rename_i k ks' hk hks
    simp only [Option.some.injEq] at hp
    subst hp
    cases cs with
    | nil => simp [kindsOk] at hc
    | cons c cr =>
      cases ds with
      | nil => simp [kindsOk] at hd
      | cons dd dr =>
        simp only [kindsOk, Bool.and_eq_true] at hc hd
        obtain ⟨va, vb, b, e, hva, hvb, hb, hce, hr⟩ := val_equal_kind (P := P) d hk hc.1 hd.1 he
        have h3 := kindT_scal hk
        have hx0 : xs[f.offset]? = some va := by have := hx 0; simp only [Nat.add_zero, List.getElem?_cons_zero, Option.bind_some, hva] at this; rw [h2]; exact this.symm
        have hy0 : ys[f.offset]? = some vb := by have := hy 0; simp only [Nat.add_zero, List.getElem?_cons_zero, Option.bind_some, hvb] at this; rw [h2]; exact this.symm
        have hrec := ih (o + 1) cr dr e ks' hks hce hc.2 hd.2 (fun i => by have := hx (i + 1); simp only [List.getElem?_cons_succ] at this; rw [this]; congr 1; omega) (fun i => by have := hy (i + 1); simp only [List.getElem?_cons_succ] at this; rw [this]; congr 1; omega)
        simp only [eqF, ne_eq, h1, not_false_eq_true, if_true, val_part h3 hx0, val_part h3 hy0, Option.bind_some, hb, hrec]
        cases b <;> simp [hr]

theorem toCells_get {cs : List D} {vs : List Value} (h : toCells cs = some vs) : ∀ i : Nat, (cs[i]?).bind toCell = vs[i]? := by
  induction cs generalizing vs with
  | nil => simp only [toCells, Option.some.injEq] at h; subst h; simp
  | cons c r ih =>
    cases c with
    | s v =>
      simp only [toCells] at h
      cases hr : toCells r with
      | none => rw [hr] at h; cases h
      | some ws =>
        rw [hr] at h
        simp only [Option.some.injEq] at h
        subst h
        intro i
        cases i with
        | zero => rfl
        | succ i => simpa using ih hr i
    | _ => simp [toCells] at h
theorem eqC_toCells : ∀ {cs ds : List D} {r : Bool}, eqC cs ds = some r → (∃ vs, toCells cs = some vs) ∧ ∃ ws, toCells ds = some ws := by
  intro cs
  induction cs with
  | nil => intro ds r h; cases ds with
    | nil => exact ⟨⟨[], rfl⟩, [], rfl⟩
    | cons _ _ => simp [eqC] at h
  | cons c cr ih =>
    intro ds r h
    cases ds with
    | nil => exact (eqC_left h).elim
    | cons dd dr =>
      obtain ⟨e, hq, hh⟩ := eqC_inv h
      obtain ⟨⟨vs, hv⟩, ws, hw⟩ := ih hq
      rcases hh with ⟨_, _, _, rfl, rfl, _⟩ | ⟨_, _, rfl, rfl, _⟩ | ⟨_, _, rfl, rfl, _⟩ <;> exact ⟨⟨_ :: vs, by simp only [toCells, hv]; rfl⟩, _ :: ws, by simp only [toCells, hw]; rfl⟩
theorem bin_struct {P : Program} {t : TypeId} {n : List K} (hn : plainN P t = some n) {cs ds : List D} {r : Bool} (he : eqC cs ds = some r) (hl : kindsOk n cs = true) (hl2 : kindsOk n ds = true) :
    binD P .eql t (.g cs) (.g ds) = some (.s (.bool r)) ∧ binD P .neq t (.g cs) (.g ds) = some (.s (.bool !r)) := by
  obtain ⟨⟨vs, hv⟩, ws, hw⟩ := eqC_toCells he
  cases hu : P.underlying t with
  | none => simp [plainN, hu] at hn
  | some ty =>
    cases ty <;> try (simp [plainN, hu] at hn; done)
    rename_i fs
    simp only [plainN, hu] at hn
    split at hn
    · rename_i h
      simp only [Bool.and_eq_true, Bool.not_eq_true'] at h
      obtain ⟨h2, h3⟩ := h
      have key : val P (Op.equal t (.agg vs.toArray) (.agg ws.toArray)) = some r := by
        unfold Op.equal
        rw [show Op.maxDepth = 9998 + 1 + 1 from rfl, val_equal_struct _ _ _ _ hu h2]
        refine eqF_plain 9998 fs.toList 0 cs ds r n hn he hl hl2 ?_ ?_
        · intro i; rw [toCells_get hv i]; simp
        · intro i; rw [toCells_get hw i]; simp
      have tv : toVal (.g cs) = some (.agg vs.toArray) := by simp only [toVal, hv]
      have tw : toVal (.g ds) = some (.agg ws.toArray) := by simp only [toVal, hw]
      constructor
      · unfold binD
        simp only [tv, tw, isEq, h3, isNilI, Bool.or_self, Bool.and_false, Bool.false_eq_true, if_false]
        have : val P (binOp .eql t (.agg vs.toArray) (.agg ws.toArray)) = some (.bool r) := by
          have e : binOp .eql t (.agg vs.toArray) (.agg ws.toArray) = (do pure (.bool (← Op.equal t (.agg vs.toArray) (.agg ws.toArray))) : Sem Value) := rfl
          rw [e, val_do, key]; rfl
        rw [this]; rfl
      · unfold binD
        simp only [tv, tw, isEq, h3, isNilI, Bool.or_self, Bool.and_false, Bool.false_eq_true, if_false]
        have : val P (binOp .neq t (.agg vs.toArray) (.agg ws.toArray)) = some (.bool !r) := by
          have e : binOp .neq t (.agg vs.toArray) (.agg ws.toArray) = (do pure (.bool (!(← Op.equal t (.agg vs.toArray) (.agg ws.toArray)))) : Sem Value) := rfl
          rw [e, val_do, key]; rfl
        rw [this]; rfl
    · cases hn
def fbB (P : Program) (op : BinOp) (t : TypeId) (x y : D) : Option D := binD P op t x y
def eqG (P : Program) (op : BinOp) (t : TypeId) (cs ds : List D) (n : Option (List K)) (r : Option Bool) : Option D := match n, r with
  | some n, some r => if kindsOk n cs = true ∧ kindsOk n ds = true then some (.s (.bool (match op with | .eql => r | _ => !r))) else fbB P op t (.g cs) (.g ds)
  | _, _ => fbB P op t (.g cs) (.g ds)
@[go_sem] theorem bin_geql (P : Program) (t : TypeId) (cs ds : List D) : binD P .eql t (.g cs) (.g ds) = eqG P .eql t cs ds (plainN P t) (eqC cs ds) := by
  unfold eqG
  split
  · rename_i n r h1 h2
    split
    · rename_i h; exact (bin_struct h1 h2 h.1 h.2).1
    · rfl
  · rfl
@[go_sem] theorem bin_gneq (P : Program) (t : TypeId) (cs ds : List D) : binD P .neq t (.g cs) (.g ds) = eqG P .neq t cs ds (plainN P t) (eqC cs ds) := by
  unfold eqG
  split
  · rename_i n r h1 h2
    split
    · rename_i h; exact (bin_struct h1 h2 h.1 h.2).2
    · rfl
  · rfl
@[go_sem] theorem eqG_eql (P : Program) (t : TypeId) (cs ds : List D) (n : List K) (r : Bool) : eqG P .eql t cs ds (some n) (some r) = if kindsOk n cs = true ∧ kindsOk n ds = true then some (.s (.bool r)) else fbB P .eql t (.g cs) (.g ds) := rfl
@[go_sem] theorem eqG_neq (P : Program) (t : TypeId) (cs ds : List D) (n : List K) (r : Bool) : eqG P .neq t cs ds (some n) (some r) = if kindsOk n cs = true ∧ kindsOk n ds = true then some (.s (.bool !r)) else fbB P .neq t (.g cs) (.g ds) := rfl
@[go_sem] theorem eqC_nil : eqC [] [] = some true := rfl
@[go_sem] theorem eqC_cons (k : IntKind) (a b : Int) (r q : List D) : eqC (.s (.int k a) :: r) (.s (.int k b) :: q) = (eqC r q).map (fun e => decide (a = b) && e) := by
  simp only [eqC, if_true]
@[go_sem] theorem eqC_bool (a b : Bool) (r q : List D) : eqC (.s (.bool a) :: r) (.s (.bool b) :: q) = (eqC r q).map (fun e => (a == b) && e) := rfl
@[go_sem] theorem eqC_str (a b : ByteArray) (r q : List D) : eqC (.s (.string a) :: r) (.s (.string b) :: q) = (eqC r q).map (fun e => decide (a = b) && e) := rfl
@[go_sem] theorem kindsOk_nil : kindsOk [] [] = true := rfl
@[go_sem] theorem kindsOk_cons (k : K) (ks : List K) (d : D) (ds : List D) : kindsOk (k :: ks) (d :: ds) = (kindOk k d && kindsOk ks ds) := rfl
@[go_sem] theorem kindOk_i (k : IntKind) (x : Int) : kindOk .i (.s (.int k x)) = true := rfl
@[go_sem] theorem kindOk_b (x : Bool) : kindOk .b (.s (.bool x)) = true := rfl
@[go_sem] theorem kindOk_s (x : ByteArray) : kindOk .s (.s (.string x)) = true := rfl
end Vm
end Go.Proofs.YtffgjmfkkfinlaaGreat

/-
  The machine of values, step by step: slices that are made and cut; arrays; the least and the greatest.
-/
namespace Go.Proofs.YtffgjmfkkfinlaaGreat
namespace Vm
open Go Go.RowKit
def Sl.isNil {α : Type} : Sl α → Bool
  | .nil => true
  | .l .. => false
def Sl.cut {α : Type} (l h : Nat) : Sl α → Sl α
  | .nil => .nil
  | .l c xs hx => .l (c.map (· - l)) ((xs.take h).drop l) (by simp only [List.length_drop, List.length_take]; omega)
def Sl.cut3 {α : Type} (h : Nat) : Sl α → Sl α
  | .nil => .nil
  | .l _ xs hx => .l (some h) (xs.take h) (by simp only [List.length_take]; omega)
theorem Sl.cut_xs {α : Type} (l h : Nat) (x : Sl α) : (x.cut l h).xs = (x.xs.take h).drop l := by cases x <;> simp [Sl.cut, Sl.xs]
theorem Sl.cut3_xs {α : Type} (h : Nat) (x : Sl α) : (x.cut3 h).xs = x.xs.take h := by cases x <;> simp [Sl.cut3, Sl.xs]

section
variable {P : Program} {c : Cfg} {fr : Fr} {dr : Bool} {call : Vm.Callee} (dst : Option Tmp) (ty : TypeId) (pos : String) (after : Array Edge) (guard : Option (Nat × Bool)) (st : St) {α : Type} {f : α → List D}
/-! Made -/
def msT (P : Program) (t : TypeId) : Option (Nat × Nat × List D) := match elt P t with
  | some el => (match sz P el, byt P el, zer P el with
    | some k, some b, some z => if z.length = k ∧ 0 < k then some (k, b, z) else none
    | _, _, _ => none)
  | none => none
def msK (P : Program) (c : Cfg) (fr : Fr) (dr : Bool) (call : Vm.Callee) (st : St) (o : Oper) (r : Option (Nat × Nat × List D)) (x y : Option Nat) : Option (D × St) := match r, x, y with
  | some (k, b, z), some n, some m => if n = m ∧ n * b ≤ 140737488355328 ∧ n ≤ 140737488355328 then some (.a st.nx 0 n k, { tm := st.tm, hp := (st.nx, ⟨List.replicate n z, true, 0, true, some n⟩) :: st.hp, nx := st.nx + 1 }) else none
  | _, _, _ => op1 P c fr dr call st o
@[go_sem] theorem d_makeSlice (t : TypeId) (x y : Operand) : opD P c fr dr call st { dst := dst, op := .makeSlice t x y, type := ty, pos := pos, after := after, guard := guard } =
    msK P c fr dr call st { dst := dst, op := .makeSlice t x y, type := ty, pos := pos, after := after, guard := guard } (msT P t) (asNat (ev st.tm x)) (asNat (ev st.tm y)) := by
  have e : opD P c fr dr call st { dst := dst, op := .makeSlice t x y, type := ty, pos := pos, after := after, guard := guard } = op1 P c fr dr call st { dst := dst, op := .makeSlice t x y, type := ty, pos := pos, after := after, guard := guard } := rfl
  rw [e]
  unfold msK
  split
  · rename_i k b z n m h1 h2 h3
    unfold msT at h1
    unfold op1
    cases g1 : elt P t with
    | none => rw [g1] at h1; cases h1
    | some el =>
      simp only [g1] at h1 ⊢
      cases g2 : sz P el <;> cases g3 : byt P el <;> cases g4 : zer P el <;> simp only [g2, g3, g4] at h1 ⊢ <;> try (cases h1; done)
      split at h1
      · rename_i hc
        cases h1
        simp only [h2, h3, hc.1, hc.2, true_and, and_true, g2, g3, g4, g1]
      · cases h1
  · rfl
@[go_sem] theorem msK_some (o : Oper) (k b : Nat) (z : List D) (n m : Nat) : msK P c fr dr call st o (some (k, b, z)) (some n) (some m) = if n = m ∧ n * b ≤ 140737488355328 ∧ n ≤ 140737488355328 then some (.a st.nx 0 n k, { tm := st.tm, hp := (st.nx, ⟨List.replicate n z, true, 0, true, some n⟩) :: st.hp, nx := st.nx + 1 }) else none := rfl
@[go_sem] theorem asNat_nat (k : IntKind) (n : Nat) : asNat (.s (.int k (n : Int))) = some n := by simp [asNat]
@[go_sem] theorem asNat_zero (k : IntKind) : asNat (.s (.int k 0)) = some 0 := rfl

/-! Cut -/
def cutT (P : Program) (t : TypeId) : Option Nat := match elt P t with
  | some el => sz P el
  | none => none
theorem elOk_map {n l : Nat} (h : ∀ a : α, (f a).length = n) (xs : List α) : elOk n (xs.map f) l = true := by
  unfold elOk
  rw [List.getElem?_map]
  cases xs[l]? with
  | none => rfl
  | some a => simp [h a]
theorem str_no (x : Sl α) (b : ByteArray) (h : x.d f = .s (.string b)) : False := by cases x <;> simp [Sl.d, nilS] at h
theorem cut_sl {t : TypeId} {n : Nat} (ht : cutT P t = some n) (hf : ∀ a : α, (f a).length = n) (hp : List (Nat × Blk)) (x : Sl α) (lo hi mx : Option D) :
    cut P t dr hp (x.d f) lo hi mx = (match x with
      | .nil => (match bnd 0 (some 0) lo hi mx with | some _ => some (nilS, hp) | none => none)
      | .l cap xs hx => (match bnd xs.length cap lo hi mx with | some (l, h, c) => some (.l c (((xs.take h).drop l).map f), hp) | none => none)) := by
  unfold cutT at ht
  cases he : elt P t with
  | none => rw [he] at ht; cases ht
  | some el =>
    simp only [he] at ht
    cases x with
    | nil =>
      show cut P t dr hp (.s (.slice none 0 0)) lo hi mx = _
      simp only [cut, he, ht]
      cases bnd 0 (some 0) lo hi mx <;> rfl
    | l cap xs hx =>
      show cut P t dr hp (.l cap (xs.map f)) lo hi mx = _
      simp only [cut, he, ht, List.length_map]
      cases bnd xs.length cap lo hi mx with
      | none => rfl
      | some q =>
        obtain ⟨l, h, c⟩ := q
        simp only [elOk_map hf xs, if_true, List.map_drop, List.map_take]
theorem cut_lo {t : TypeId} {n : Nat} (ht : cutT P t = some n) (hf : ∀ a : α, (f a).length = n) (hp : List (Nat × Blk)) (x : Sl α) (k : IntKind) (l : Nat) (hl : l ≤ x.xs.length) :
    cut P t dr hp (x.d f) (some (.s (.int k (l : Int)))) none none = some ((x.cut l x.xs.length).d f, hp) := by
  rw [cut_sl ht hf]
  cases x with
  | nil => simp only [Sl.xs, List.length_nil, Nat.le_zero_eq] at hl; subst hl; rfl
  | l cap xs hx =>
    simp only [Sl.xs] at hl
    cases cap <;> simp [bnd, asNat, hl, Sl.cut, Sl.xs, Sl.d]
theorem cut_hi {t : TypeId} {n : Nat} (ht : cutT P t = some n) (hf : ∀ a : α, (f a).length = n) (hp : List (Nat × Blk)) (x : Sl α) (k : IntKind) (h : Nat) (hl : h ≤ x.xs.length) :
    cut P t dr hp (x.d f) none (some (.s (.int k (h : Int)))) none = some ((x.cut 0 h).d f, hp) := by
  rw [cut_sl ht hf]
  cases x with
  | nil => simp only [Sl.xs, List.length_nil, Nat.le_zero_eq] at hl; subst hl; rfl
  | l cap xs hx =>
    simp only [Sl.xs] at hl
    cases cap <;> simp [bnd, asNat, hl, Sl.cut, Sl.d]
theorem cut_hh {t : TypeId} {n : Nat} (ht : cutT P t = some n) (hf : ∀ a : α, (f a).length = n) (hp : List (Nat × Blk)) (x : Sl α) (k k2 : IntKind) (h : Nat) (hl : h ≤ x.xs.length) :
    cut P t dr hp (x.d f) none (some (.s (.int k (h : Int)))) (some (.s (.int k2 (h : Int)))) = some ((x.cut3 h).d f, hp) := by
  rw [cut_sl ht hf]
  cases x with
  | nil => simp only [Sl.xs, List.length_nil, Nat.le_zero_eq] at hl; subst hl; rfl
  | l cap xs hx =>
    simp only [Sl.xs] at hl
    simp [bnd, asNat, hl, Sl.cut3, Sl.d]

/-! Appends to what has no room -/
theorem app_full {n bytes : Nat} {x : Sl α} {new : List (List D)} {y : D} (hs : ∀ a : α, (f a).length = n) (hc : ∀ c xs hx, x = .l c xs hx → c = some xs.length) (hy : peek st.hp y = some new) (hz : sizesOk n new = true)
    (hb : (x.xs.length + new.length) * bytes ≤ 140737488355328) (hb' : x.xs.length + new.length ≤ 140737488355328) (hne : new.isEmpty = false) :
    appendD fr n bytes st (x.d f) y = some (.a st.nx 0 (x.xs.length + new.length) n, { tm := st.tm, hp := (st.nx, ⟨x.xs.map f ++ new, true, 0, true, none⟩) :: st.hp, nx := st.nx + 1 }) := by
  unfold appendD
  rw [hy]
  cases x with
  | nil =>
    have e : appendD.lenOr (D.s (Value.slice none 0 0)) = 0 := rfl
    simp only [Sl.xs, List.length_nil] at hb hb'
    simp only [hz, e, Sl.d, nilS, hb, hb', decide_true, Bool.and_self, if_true, hne, Bool.false_eq_true, if_false, appendD.mk, Sl.xs, List.length_nil, List.map_nil]
  | l cp xs hx =>
    have hcp := hc _ _ _ rfl
    subst hcp
    have e : appendD.lenOr (D.l (some xs.length) (xs.map f)) = xs.length := by simp [appendD.lenOr, lenD]
    simp only [Sl.xs] at hb hb'
    have hl : xs.length < xs.length + new.length := by cases new with | nil => simp at hne | cons _ _ => simp
    simp only [hz, e, Sl.d, hb, hb', decide_true, Bool.and_self, if_true, hne, Bool.false_eq_true, if_false, hl, sizes_map n hs, appendD.mk, Sl.xs, List.length_map, Bool.and_true]
theorem app_none {n bytes : Nat} {y : D} {new : List (List D)} (hy : peek st.hp y = some new) (hz : sizesOk n new = true) (hb : new.length * bytes ≤ 140737488355328) (hb' : new.length ≤ 140737488355328) :
    appendD fr n bytes st (.l (some 0) []) y = if new.isEmpty = true then some (.l (some 0) [], st) else some (.a st.nx 0 new.length n, { tm := st.tm, hp := (st.nx, ⟨new, true, 0, true, none⟩) :: st.hp, nx := st.nx + 1 }) := by
  unfold appendD
  rw [hy]
  have e : appendD.lenOr (D.l (some 0) []) = 0 := rfl
  simp only [hz, e, Nat.zero_add, hb, hb', decide_true, Bool.and_self, if_true, sizesOk, Bool.and_true, appendD.mk, List.length_nil, List.nil_append, decide_eq_true_eq]
  split
  · rfl
  · rename_i hne
    have : 0 < new.length := by cases new with | nil => simp at hne | cons _ _ => simp
    simp only [this, if_true]

theorem app_clone {n bytes : Nat} (x : Sl α) (hs : ∀ a : α, (f a).length = n) (hb : x.xs.length * bytes ≤ 140737488355328) (hb' : x.xs.length ≤ 140737488355328) (fr : Fr) (st : St) :
    appendD fr n bytes st (.l (some 0) []) (x.d f) = if x.xs.isEmpty = true then some (.l (some 0) [], st) else some (.a st.nx 0 x.xs.length n, { tm := st.tm, hp := (st.nx, ⟨x.xs.map f, true, 0, true, none⟩) :: st.hp, nx := st.nx + 1 }) := by
  rw [app_none _ (new := x.xs.map f) (by cases x <;> rfl) (sizes_map n hs _) (by simpa using hb) (by simpa using hb')]
  simp only [List.isEmpty_map, List.length_map]
def fzB (dr : Bool) (hp : List (Nat × Blk)) (id lo n : Nat) (b : Blk) : Option (D × List (Nat × Blk)) := if b.pu = true ∧ b.arr = true ∧ lo + n ≤ b.es.length then
        (match b.md with
        | 0 => if dr then none else some (.l none ((b.es.drop lo).take n), (id, { b with md := 1 }) :: hp)
        | 1 => some (.l none ((b.es.drop lo).take n), hp)
        | _ => none)
      else none
@[go_sem] theorem frz_a (dr : Bool) (hp : List (Nat × Blk)) (id lo n z : Nat) : frz dr hp (.a id lo n z) = fzB dr hp id lo n (rdH hp id) := rfl
@[go_sem] theorem fzB_0 (hp : List (Nat × Blk)) (id lo n : Nat) (es : List (List D)) (cp : Option Nat) : fzB false hp id lo n ⟨es, true, 0, true, cp⟩ = if lo + n ≤ es.length then some (.l none ((es.drop lo).take n), (id, ⟨es, true, 1, true, cp⟩) :: hp) else none := by
  simp [fzB]
@[go_sem] theorem fzB_1 (hp : List (Nat × Blk)) (dr : Bool) (id lo n : Nat) (es : List (List D)) (cp : Option Nat) : fzB dr hp id lo n ⟨es, true, 1, true, cp⟩ = if lo + n ≤ es.length then some (.l none ((es.drop lo).take n), hp) else none := by
  simp [fzB]
/-! Arrays that are values -/
def idD (P : Program) (t : TypeId) (dx di : D) : Option D := match di with
  | .s (.int _ n) => (match dx with
    | .g cs => (match arr P t with
      | some (len, el) => (match sz P el with
        | some m => if 0 ≤ n ∧ n < len then loadD (agg P el) m (cs.drop (n.toNat * m)) else none
        | none => none)
      | none => none)
    | .s (.string b) => (match P.underlying t with
      | some .string => if 0 ≤ n then (match b[n.toNat]? with
          | some u => some (.s (.int .u8 u.toNat))
          | none => none) else none
      | _ => none)
    | _ => none)
  | _ => none
@[go_sem] theorem d_index (t : TypeId) (x i : Operand) : opD P c fr dr call st { dst := dst, op := .index t x i, type := ty, pos := pos, after := after, guard := guard } = k0 st (idD P t (ev st.tm x) (ev st.tm i)) := by
  have e : opD P c fr dr call st { dst := dst, op := .index t x i, type := ty, pos := pos, after := after, guard := guard } = k0 st (op0 P st.tm { dst := dst, op := .index t x i, type := ty, pos := pos, after := after, guard := guard }) := rfl
  rw [e]
  congr 1
def idA (P : Program) (cs : List D) (n : Int) (a : Option (Nat × TypeId)) : Option D := match a with
  | some (len, el) => (match sz P el with
    | some m => if 0 ≤ n ∧ n < len then loadD (agg P el) m (cs.drop (n.toNat * m)) else none
    | none => none)
  | none => none
@[go_sem] theorem idD_g (t : TypeId) (cs : List D) (k : IntKind) (n : Int) : idD P t (.g cs) (.s (.int k n)) = idA P cs n (arr P t) := rfl
def idM (P : Program) (cs : List D) (n : Int) (len el : Nat) (m : Option Nat) : Option D := match m with
  | some m => if 0 ≤ n ∧ n < len then loadD (agg P el) m (cs.drop (n.toNat * m)) else none
  | none => none
@[go_sem] theorem idA_some (cs : List D) (n : Int) (len el : Nat) : idA P cs n (some (len, el)) = idM P cs n len el (sz P el) := rfl
@[go_sem] theorem idM_some (cs : List D) (n : Int) (len el m : Nat) : idM P cs n len el (some m) = if 0 ≤ n ∧ n < len then loadD (agg P el) m (cs.drop (n.toNat * m)) else none := rfl
end
section
variable {P : Program} {c : Cfg} {fr : Fr}
@[go_sem] theorem kL_normal (a : Code) (st : St) : kL P c fr a (some (.normal, st)) = exe P c fr (.loop a) st := rfl
@[go_sem] theorem kL_ret (a : Code) (st : St) : kL P c fr a (some (.ret, st)) = some (.ret, st) := rfl
@[go_sem] theorem kL_exit (a : Code) (i : Nat) (st : St) : kL P c fr a (some (.exit i, st)) = some (.exit i, st) := rfl
@[go_sem] theorem kL_goto (a : Code) (i : Nat) (st : St) : kL P c fr a (some (.goto i, st)) = some (.goto i, st) := rfl
@[go_sem] theorem kH_some (a : Code) (st : St) : kH P c fr a (some st) = kL P c fr a (exe P c fr a st) := rfl
end
theorem ixL_l (m : Nat) (cap : Option Nat) (es : List (List D)) (n : Int) : ixL (some m) (.l cap es) n = if 0 ≤ n then qOf m es[n.toNat]? else none := rfl
/-! Names of blocks, one behind another -/
@[go_sem] theorem nx_0_1 (n : Nat) : (n = n + 1) ↔ False := ⟨fun h => by omega, False.elim⟩
@[go_sem] theorem nx_0_2 (n : Nat) : (n = n + 1 + 1) ↔ False := ⟨fun h => by omega, False.elim⟩
@[go_sem] theorem nx_0_3 (n : Nat) : (n = n + 1 + 1 + 1) ↔ False := ⟨fun h => by omega, False.elim⟩
@[go_sem] theorem nx_0_4 (n : Nat) : (n = n + 1 + 1 + 1 + 1) ↔ False := ⟨fun h => by omega, False.elim⟩
@[go_sem] theorem nx_0_5 (n : Nat) : (n = n + 1 + 1 + 1 + 1 + 1) ↔ False := ⟨fun h => by omega, False.elim⟩
@[go_sem] theorem nx_0_6 (n : Nat) : (n = n + 1 + 1 + 1 + 1 + 1 + 1) ↔ False := ⟨fun h => by omega, False.elim⟩
@[go_sem] theorem nx_1_0 (n : Nat) : (n + 1 = n) ↔ False := ⟨fun h => by omega, False.elim⟩
@[go_sem] theorem nx_1_2 (n : Nat) : (n + 1 = n + 1 + 1) ↔ False := ⟨fun h => by omega, False.elim⟩
@[go_sem] theorem nx_1_3 (n : Nat) : (n + 1 = n + 1 + 1 + 1) ↔ False := ⟨fun h => by omega, False.elim⟩
@[go_sem] theorem nx_1_4 (n : Nat) : (n + 1 = n + 1 + 1 + 1 + 1) ↔ False := ⟨fun h => by omega, False.elim⟩
@[go_sem] theorem nx_1_5 (n : Nat) : (n + 1 = n + 1 + 1 + 1 + 1 + 1) ↔ False := ⟨fun h => by omega, False.elim⟩
@[go_sem] theorem nx_1_6 (n : Nat) : (n + 1 = n + 1 + 1 + 1 + 1 + 1 + 1) ↔ False := ⟨fun h => by omega, False.elim⟩
@[go_sem] theorem nx_2_0 (n : Nat) : (n + 1 + 1 = n) ↔ False := ⟨fun h => by omega, False.elim⟩
@[go_sem] theorem nx_2_1 (n : Nat) : (n + 1 + 1 = n + 1) ↔ False := ⟨fun h => by omega, False.elim⟩
@[go_sem] theorem nx_2_3 (n : Nat) : (n + 1 + 1 = n + 1 + 1 + 1) ↔ False := ⟨fun h => by omega, False.elim⟩
@[go_sem] theorem nx_2_4 (n : Nat) : (n + 1 + 1 = n + 1 + 1 + 1 + 1) ↔ False := ⟨fun h => by omega, False.elim⟩
@[go_sem] theorem nx_2_5 (n : Nat) : (n + 1 + 1 = n + 1 + 1 + 1 + 1 + 1) ↔ False := ⟨fun h => by omega, False.elim⟩
@[go_sem] theorem nx_2_6 (n : Nat) : (n + 1 + 1 = n + 1 + 1 + 1 + 1 + 1 + 1) ↔ False := ⟨fun h => by omega, False.elim⟩
@[go_sem] theorem nx_3_0 (n : Nat) : (n + 1 + 1 + 1 = n) ↔ False := ⟨fun h => by omega, False.elim⟩
@[go_sem] theorem nx_3_1 (n : Nat) : (n + 1 + 1 + 1 = n + 1) ↔ False := ⟨fun h => by omega, False.elim⟩
@[go_sem] theorem nx_3_2 (n : Nat) : (n + 1 + 1 + 1 = n + 1 + 1) ↔ False := ⟨fun h => by omega, False.elim⟩
@[go_sem] theorem nx_3_4 (n : Nat) : (n + 1 + 1 + 1 = n + 1 + 1 + 1 + 1) ↔ False := ⟨fun h => by omega, False.elim⟩
@[go_sem] theorem nx_3_5 (n : Nat) : (n + 1 + 1 + 1 = n + 1 + 1 + 1 + 1 + 1) ↔ False := ⟨fun h => by omega, False.elim⟩
@[go_sem] theorem nx_3_6 (n : Nat) : (n + 1 + 1 + 1 = n + 1 + 1 + 1 + 1 + 1 + 1) ↔ False := ⟨fun h => by omega, False.elim⟩
@[go_sem] theorem nx_4_0 (n : Nat) : (n + 1 + 1 + 1 + 1 = n) ↔ False := ⟨fun h => by omega, False.elim⟩
@[go_sem] theorem nx_4_1 (n : Nat) : (n + 1 + 1 + 1 + 1 = n + 1) ↔ False := ⟨fun h => by omega, False.elim⟩
@[go_sem] theorem nx_4_2 (n : Nat) : (n + 1 + 1 + 1 + 1 = n + 1 + 1) ↔ False := ⟨fun h => by omega, False.elim⟩
@[go_sem] theorem nx_4_3 (n : Nat) : (n + 1 + 1 + 1 + 1 = n + 1 + 1 + 1) ↔ False := ⟨fun h => by omega, False.elim⟩
@[go_sem] theorem nx_4_5 (n : Nat) : (n + 1 + 1 + 1 + 1 = n + 1 + 1 + 1 + 1 + 1) ↔ False := ⟨fun h => by omega, False.elim⟩
@[go_sem] theorem nx_4_6 (n : Nat) : (n + 1 + 1 + 1 + 1 = n + 1 + 1 + 1 + 1 + 1 + 1) ↔ False := ⟨fun h => by omega, False.elim⟩
@[go_sem] theorem nx_5_0 (n : Nat) : (n + 1 + 1 + 1 + 1 + 1 = n) ↔ False := ⟨fun h => by omega, False.elim⟩
@[go_sem] theorem nx_5_1 (n : Nat) : (n + 1 + 1 + 1 + 1 + 1 = n + 1) ↔ False := ⟨fun h => by omega, False.elim⟩
@[go_sem] theorem nx_5_2 (n : Nat) : (n + 1 + 1 + 1 + 1 + 1 = n + 1 + 1) ↔ False := ⟨fun h => by omega, False.elim⟩
@[go_sem] theorem nx_5_3 (n : Nat) : (n + 1 + 1 + 1 + 1 + 1 = n + 1 + 1 + 1) ↔ False := ⟨fun h => by omega, False.elim⟩
@[go_sem] theorem nx_5_4 (n : Nat) : (n + 1 + 1 + 1 + 1 + 1 = n + 1 + 1 + 1 + 1) ↔ False := ⟨fun h => by omega, False.elim⟩
@[go_sem] theorem nx_5_6 (n : Nat) : (n + 1 + 1 + 1 + 1 + 1 = n + 1 + 1 + 1 + 1 + 1 + 1) ↔ False := ⟨fun h => by omega, False.elim⟩
@[go_sem] theorem nx_6_0 (n : Nat) : (n + 1 + 1 + 1 + 1 + 1 + 1 = n) ↔ False := ⟨fun h => by omega, False.elim⟩
@[go_sem] theorem nx_6_1 (n : Nat) : (n + 1 + 1 + 1 + 1 + 1 + 1 = n + 1) ↔ False := ⟨fun h => by omega, False.elim⟩
@[go_sem] theorem nx_6_2 (n : Nat) : (n + 1 + 1 + 1 + 1 + 1 + 1 = n + 1 + 1) ↔ False := ⟨fun h => by omega, False.elim⟩
@[go_sem] theorem nx_6_3 (n : Nat) : (n + 1 + 1 + 1 + 1 + 1 + 1 = n + 1 + 1 + 1) ↔ False := ⟨fun h => by omega, False.elim⟩
@[go_sem] theorem nx_6_4 (n : Nat) : (n + 1 + 1 + 1 + 1 + 1 + 1 = n + 1 + 1 + 1 + 1) ↔ False := ⟨fun h => by omega, False.elim⟩
@[go_sem] theorem nx_6_5 (n : Nat) : (n + 1 + 1 + 1 + 1 + 1 + 1 = n + 1 + 1 + 1 + 1 + 1) ↔ False := ⟨fun h => by omega, False.elim⟩
theorem nxc {n c : Nat} (h : c < n) : (n = c) = False ∧ (c = n) = False ∧ (c < n) = True ∧ (c ≤ n) = True ∧ (n + 1 = c) = False ∧ (c = n + 1) = False ∧ (c < n + 1) = True ∧ (c ≤ n + 1) = True ∧ (n + 1 + 1 = c) = False ∧ (c = n + 1 + 1) = False ∧ (c < n + 1 + 1) = True ∧ (c ≤ n + 1 + 1) = True ∧ (n + 1 + 1 + 1 = c) = False ∧ (c = n + 1 + 1 + 1) = False ∧ (c < n + 1 + 1 + 1) = True ∧ (c ≤ n + 1 + 1 + 1) = True ∧ (n + 1 + 1 + 1 + 1 = c) = False ∧ (c = n + 1 + 1 + 1 + 1) = False ∧ (c < n + 1 + 1 + 1 + 1) = True ∧ (c ≤ n + 1 + 1 + 1 + 1) = True ∧ (n + 1 + 1 + 1 + 1 + 1 = c) = False ∧ (c = n + 1 + 1 + 1 + 1 + 1) = False ∧ (c < n + 1 + 1 + 1 + 1 + 1) = True ∧ (c ≤ n + 1 + 1 + 1 + 1 + 1) = True ∧ (n + 1 + 1 + 1 + 1 + 1 + 1 = c) = False ∧ (c = n + 1 + 1 + 1 + 1 + 1 + 1) = False ∧ (c < n + 1 + 1 + 1 + 1 + 1 + 1) = True ∧ (c ≤ n + 1 + 1 + 1 + 1 + 1 + 1) = True :=
  ⟨eq_false (by omega), eq_false (by omega), eq_true (by omega), eq_true (by omega), eq_false (by omega), eq_false (by omega), eq_true (by omega), eq_true (by omega), eq_false (by omega), eq_false (by omega), eq_true (by omega), eq_true (by omega), eq_false (by omega), eq_false (by omega), eq_true (by omega), eq_true (by omega), eq_false (by omega), eq_false (by omega), eq_true (by omega), eq_true (by omega), eq_false (by omega), eq_false (by omega), eq_true (by omega), eq_true (by omega), eq_false (by omega), eq_false (by omega), eq_true (by omega), eq_true (by omega)⟩
theorem toNat_0 : Int.toNat 0 = 0 := rfl
attribute [go_sem] Nat.le_add_right ixL_l Int.toNat_natCast Int.natCast_nonneg List.length_map List.isEmpty_map Int.cast_ofNat_Int toNat_0 Int.toNat_one Option.isSome_none Option.map_some List.isEmpty_nil List.isEmpty_cons
end Vm
end Go.Proofs.YtffgjmfkkfinlaaGreat

/-
  The machine of values, step by step: signs, the greater of two, halves.
-/
namespace Go.Proofs.YtffgjmfkkfinlaaGreat
namespace Vm
open Go Go.RowKit
section
variable {P : Program} {c : Cfg} {fr : Fr} {dr : Bool} {call : Vm.Callee} (dst : Option Tmp) (ty : TypeId) (pos : String) (after : Array Edge) (guard : Option (Nat × Bool)) (st : St)
@[go_sem] theorem unD_neg (k : IntKind) (x : Int) : unD P .neg (.s (.int k x)) = some (.s (.int k (k.wrap (-x)))) := by
  have h : unD P .neg (.s (.int k x)) = some (.s (.int k (k.wrap (0 - x)))) := by cases k <;> rfl
  rw [h, Int.zero_sub]
@[go_sem] theorem bin_half (t : TypeId) (x : Int) : binD P .shr t (.s (.int .u64 x)) (.s (.int .u64 1)) = some (.s (.int .u64 (x / 2))) := by
  have h : binD P .shr t (.s (.int .u64 x)) (.s (.int .u64 1)) = some (.s (.int .u64 (x.fdiv 2))) := rfl
  rw [h, Int.fdiv_eq_ediv_of_nonneg _ (by decide)]
def mxD (mx : Bool) (a b : D) : Option D := match a, b with
  | .s (.int k x), .s (.int _ y) => some (.s (.int k (if mx = true then (if x < y then y else x) else (if y < x then y else x))))
  | _, _ => none
theorem mxD_eq (mx : Bool) (a b : D) : op0.minmax mx [a, b] = mxD mx a b := by
  cases a with
  | s v =>
    cases v with
    | int k x =>
      cases b with
      | s w => cases w <;> rfl
      | _ => rfl
    | _ => rfl
  | _ => rfl
@[go_sem] theorem d_max (x y : Operand) (t u : TypeId) : opD P c fr dr call st { dst := dst, op := .call { callee := .builtin .max, args := #[x, y], argTypes := #[t, u] }, type := ty, pos := pos, after := after, guard := guard } = k0 st (mxD true (ev st.tm x) (ev st.tm y)) := by
  rw [← mxD_eq]; rfl
@[go_sem] theorem d_min (x y : Operand) (t u : TypeId) : opD P c fr dr call st { dst := dst, op := .call { callee := .builtin .min, args := #[x, y], argTypes := #[t, u] }, type := ty, pos := pos, after := after, guard := guard } = k0 st (mxD false (ev st.tm x) (ev st.tm y)) := by
  rw [← mxD_eq]; rfl
@[go_sem] theorem mxD_max (k k2 : IntKind) (x y : Int) : mxD true (.s (.int k x)) (.s (.int k2 y)) = some (.s (.int k (if x < y then y else x))) := rfl
@[go_sem] theorem mxD_min (k k2 : IntKind) (x y : Int) : mxD false (.s (.int k x)) (.s (.int k2 y)) = some (.s (.int k (if y < x then y else x))) := rfl

end
end Vm
end Go.Proofs.YtffgjmfkkfinlaaGreat

/-
  The machine of values, step by step: slices that are handed over as they are, and handed out as they are.
-/
namespace Go.Proofs.YtffgjmfkkfinlaaGreat
namespace Vm
open Go Go.RowKit
section
variable {P : Program} {c : Cfg} {fr : Fr} {dr : Bool} {g : Nat} {args : List D} {st : St}
def rnA (lo n z : Nat) : Option Nat → D
  | some x => .a x lo n z
  | none => .u
@[go_sem] theorem rnA_some (lo n z x : Nat) : rnA lo n z (some x) = .a x lo n z := rfl
@[go_sem] theorem ren_a (ρ : List (Nat × Nat)) (id lo n z : Nat) : ren ρ (.a id lo n z) = rnA lo n z (nm ρ id) := by
  simp only [ren, renG, renA]
  unfold rnA
  cases nm ρ id <;> rfl
/-- What a call comes to that is handed one block as it is. -/
noncomputable def cY (P : Program) (c : Cfg) (fr : Fr) (dr : Bool) (g : Nat) (args : List D) (st : St) (id : Nat) (r : Option (List D × List Blk)) : Option (D × St) := match r with
  | some (res, [b]) => if cb b = true then some (callD.resD (res.map (ren [(0, id)])), { tm := st.tm, hp := (id, b) :: st.hp, nx := st.nx }) else fbD P c fr dr g args st
  | _ => fbD P c fr dr g args st
noncomputable def cX (P : Program) (c : Cfg) (fr : Fr) (dr : Bool) (g : Nat) (args : List D) (st : St) (ids : List Nat) : Option (D × St) := match ids with
  | [id] => if cb (rdH st.hp id) = true ∧ (rdH st.hp id).md < 2 ∧ (fr.ro = false ∨ fr.k ≤ id) then cY P c fr dr g args st id (callI P c g (args.map (ren [(id, 0)])) [rdH st.hp id]) else fbD P c fr dr g args st
  | _ => fbD P c fr dr g args st
@[go_sem] theorem callD_by (hb : c.byRef g = true) (hk : c.keep g = false) (hw : c.wr g = true) : callD c fr dr (callI P c) g args st = cX P c fr dr g args st (refsLL args) := by
  cases hids : refsLL args with
  | nil => rfl
  | cons id r =>
    cases r with
    | cons _ _ => rfl
    | nil =>
      simp only [cX]
      split
      · rename_i hc
        obtain ⟨hp1, hm, hro⟩ := hc
        have hids2 : reach st.hp fuel [id] [] = [id] := reach_one hp1 (by omega)
        have hany : (fr.ro && true && ([id] : List Nat).any (fun x => decide (x < fr.k))) = false := by
          rcases hro with h | h
          · simp [h]
          · have : ¬ id < fr.k := by omega
            simp [this]
        have hfz : callD.frzBs false st.hp [id] = some st.hp := by
          rw [cb_frz hp1]; rfl
        cases hr : callI P c g (args.map (ren [(id, 0)])) [rdH st.hp id] with
        | none => rfl
        | some q =>
          obtain ⟨res, bs⟩ := q
          match bs with
          | [] => rfl
          | _ :: _ :: _ => rfl
          | [b] =>
            simp only [cY]
            split
            · rename_i hbc
              unfold callD
              simp only [hb, if_true, hids, hids2, hw, hany, hk, Bool.false_eq_true, if_false, hfz, pos, List.map_cons, List.map_nil, cb_renB hp1, hr, Bool.not_true, Bool.and_false, bne_self_eq_false, Bool.or_false, Bool.or_self, backOf, List.length_cons, List.length_nil, callD.addB, nm, cb_renB hbc, Nat.sub_self, Nat.add_zero]
            · rfl
      · rfl
@[go_sem] theorem cX_one (id : Nat) : cX P c fr dr g args st [id] = if cb (rdH st.hp id) = true ∧ (rdH st.hp id).md < 2 ∧ (fr.ro = false ∨ fr.k ≤ id) then cY P c fr dr g args st id (callI P c g (args.map (ren [(id, 0)])) [rdH st.hp id]) else fbD P c fr dr g args st := rfl
@[go_sem] theorem cY_one (id : Nat) (res : List D) (b : Blk) : cY P c fr dr g args st id (some (res, [b])) = if cb b = true then some (callD.resD (res.map (ren [(0, id)])), { tm := st.tm, hp := (id, b) :: st.hp, nx := st.nx }) else fbD P c fr dr g args st := rfl

/-! What is handed out as it is -/
noncomputable def lO (c : Cfg) (fr : Fr) (st : St) (res : List D) (k : Nat) (ids : List Nat) : Option (List D × List Blk) := match k, ids with
  | 0, [] => if calms res = true then some (res, []) else fbL c fr st res
  | 0, [id] => if cb (rdH st.hp id) = true ∧ (rdH st.hp id).md < 2 then some (res.map (ren [(id, 0)]), [rdH st.hp id]) else fbL c fr st res
  | 1, [] => if calms res = true ∧ cb (rdH st.hp 0) = true then some (res, [rdH st.hp 0]) else fbL c fr st res
  | 1, [0] => if cb (rdH st.hp 0) = true then some (res.map (ren [(0, 0)]), [rdH st.hp 0]) else fbL c fr st res
  | _, _ => fbL c fr st res
@[go_sem] theorem leave_own {k nt fn : Nat} {ro : Bool} {res : List D} (ho : c.own fn = true) (hk : c.keep fn = false) : leave c ⟨k, nt, fn, ro⟩ st res = lO c ⟨k, nt, fn, ro⟩ st res k (refsLL res) := by
  have hz2 : ∀ ids : List Nat, (∀ id ∈ ids, cb (rdH st.hp id) = true) → callD.frzBs false st.hp ids = some st.hp := by
    intro ids
    induction ids with
    | nil => intro _; rfl
    | cons id r ih =>
      intro h
      rw [cb_frz (h id (by simp)), ih (fun x hx => h x (by simp [hx]))]
  have key : ∀ ids : List Nat, reach st.hp fuel (refsBs st.hp (upto k 0) ++ refsLL res) (upto k 0) = ids → (∀ id ∈ ids, cb (rdH st.hp id) = true) → leave c ⟨k, nt, fn, ro⟩ st res = some (res.map (ren (pos 0 ids)), ids.map (rdH st.hp)) := by
    intro ids hr hz
    unfold leave
    simp only [ho, hk, if_true, Bool.false_eq_true, if_false, hr, hz2 ids hz]
    congr 2
    exact List.map_congr_left fun id hid => cb_renB (hz id hid)
  have hb : cb (rdH st.hp 0) = true → refsBs st.hp [0] = [] := by
    intro h
    simp only [refsBs, cb_refs h, List.append_nil, ite_self]
  match k, hids : refsLL res with
  | 0, [] =>
    simp only [lO]
    split
    · rename_i hc
      rw [key [] (by rw [hids]; exact reach_nil _ _ _) (by simp)]
      simp only [pos, rens_calm hc, List.map_nil]
    · rfl
  | 0, [id] =>
    simp only [lO]
    split
    · rename_i h
      have hr := reach_one h.1 (show (rdH st.hp id).md = 0 ∨ (rdH st.hp id).md = 1 by omega)
      rw [key [id] (by rw [hids]; exact hr) (by simpa using h.1)]
      rfl
    · rfl
  | 1, [] =>
    simp only [lO]
    split
    · rename_i h
      rw [key [0] (by rw [hids]; show reach st.hp fuel (refsBs st.hp [0] ++ []) [0] = [0]; rw [hb h.2]; exact reach_nil _ _ _) (by simpa using h.2)]
      simp only [rens_calm h.1, List.map_cons, List.map_nil]
    · rfl
  | 1, [0] =>
    simp only [lO]
    split
    · rename_i h
      rw [key [0] (by
        rw [hids]
        show reach st.hp fuel (refsBs st.hp [0] ++ [0]) [0] = [0]
        rw [hb h]
        simp only [fuel, List.nil_append, reach, has, if_true, Bool.true_or]) (by simpa using h)]
      rfl
    · rfl
  | 1, [_ + 1] => rfl
  | 0, _ :: _ :: _ => rfl
  | 1, 0 :: _ :: _ => rfl
  | 1, (_ + 1) :: _ :: _ => rfl
  | _ + 2, [] => rfl
  | _ + 2, [_] => rfl
  | _ + 2, _ :: _ :: _ => rfl
@[go_sem] theorem lO_00 (res : List D) : lO c fr st res 0 [] = if calms res = true then some (res, []) else fbL c fr st res := rfl
@[go_sem] theorem lO_01 (res : List D) (id : Nat) : lO c fr st res 0 [id] = if cb (rdH st.hp id) = true ∧ (rdH st.hp id).md < 2 then some (res.map (ren [(id, 0)]), [rdH st.hp id]) else fbL c fr st res := rfl
@[go_sem] theorem lO_10 (res : List D) : lO c fr st res 1 [] = if calms res = true ∧ cb (rdH st.hp 0) = true then some (res, [rdH st.hp 0]) else fbL c fr st res := rfl
@[go_sem] theorem lO_11 (res : List D) : lO c fr st res 1 [0] = if cb (rdH st.hp 0) = true then some (res.map (ren [(0, 0)]), [rdH st.hp 0]) else fbL c fr st res := rfl
end

/-! Capacities, clearing, appends of zeros, slices of what is written -/
section
variable {P : Program} {c : Cfg} {fr : Fr} {dr : Bool} {call : Vm.Callee} (dst : Option Tmp) (ty : TypeId) (pos : String) (after : Array Edge) (guard : Option (Nat × Bool)) (st : St)
def cpD (st : St) (e : Option TypeId) (n : Option Nat) : Option (D × St) := match e, n with
  | some _, some n => some (.s (.int .i64 n), st)
  | _, _ => none
@[go_sem] theorem d_cap (x : Operand) (t : TypeId) : opD P c fr dr call st { dst := dst, op := .call { callee := .builtin .cap, args := #[x], argTypes := #[t] }, type := ty, pos := pos, after := after, guard := guard } = cpD st (elt P t) (capD st.hp (ev st.tm x)) := by
  have e : opD P c fr dr call st { dst := dst, op := .call { callee := .builtin .cap, args := #[x], argTypes := #[t] }, type := ty, pos := pos, after := after, guard := guard } = op1 P c fr dr call st { dst := dst, op := .call { callee := .builtin .cap, args := #[x], argTypes := #[t] }, type := ty, pos := pos, after := after, guard := guard } := rfl
  rw [e]; unfold op1 cpD
  dsimp only [List.map]
  cases elt P t <;> cases capD st.hp (ev st.tm x) <;> rfl
@[go_sem] theorem cpD_some (e n : Nat) : cpD st (some e) (some n) = some (.s (.int .i64 n), st) := rfl
@[go_sem] theorem capD_nilS (hp : List (Nat × Blk)) : capD hp nilS = some 0 := rfl
@[go_sem] theorem cut_nilS {t el : TypeId} {n : Nat} (he : elt P t = some el) (hz : sz P el = some n) (hp : List (Nat × Blk)) (k : IntKind) : cut P t dr hp nilS none (some (.s (.int k ((0 : Nat) : Int)))) none = some (nilS, hp) := by
  unfold cut nilS
  simp only [he, hz]
  rfl
/-- What is cleared. -/
def crT (P : Program) (t : TypeId) : Option (Nat × List D) := match elt P t with
  | some el => (match zer P el, sz P el with
    | some z, some n => if n = z.length ∧ 0 < n then some (n, z) else none
    | _, _ => none)
  | none => none
def crS (r : Option St) : Option (D × St) := match r with
  | some st => some (und, st)
  | none => none
noncomputable def crK (P : Program) (c : Cfg) (fr : Fr) (dr : Bool) (call : Vm.Callee) (st : St) (o : Oper) (r : Option (Nat × List D)) (d : D) : Option (D × St) := match r, d with
  | some (n, z), .a id lo k z0 => if 0 < k then crS (writeD fr n st id lo k z0 (List.replicate k z)) else fbO P c fr dr call st o
  | _, _ => fbO P c fr dr call st o
@[go_sem] theorem d_clear (x : Operand) (t : TypeId) : opD P c fr dr call st { dst := dst, op := .call { callee := .builtin .clear, args := #[x], argTypes := #[t] }, type := ty, pos := pos, after := after, guard := guard } =
    crK P c fr dr call st { dst := dst, op := .call { callee := .builtin .clear, args := #[x], argTypes := #[t] }, type := ty, pos := pos, after := after, guard := guard } (crT P t) (ev st.tm x) := by
  unfold crK
  split
  · rename_i n z id lo k z0 h hd
    split
    · rename_i hk
      have e : opD P c fr dr call st { dst := dst, op := .call { callee := .builtin .clear, args := #[x], argTypes := #[t] }, type := ty, pos := pos, after := after, guard := guard } = op1 P c fr dr call st { dst := dst, op := .call { callee := .builtin .clear, args := #[x], argTypes := #[t] }, type := ty, pos := pos, after := after, guard := guard } := rfl
      rw [e]
      unfold crT at h
      unfold op1 crS
      cases h1 : elt P t with
      | none => rw [h1] at h; cases h
      | some el =>
        simp only [h1] at h
        cases h2 : zer P el <;> cases h3 : sz P el <;> simp only [h2, h3] at h <;> try (cases h; done)
        split at h
        · rename_i hc
          cases h
          obtain ⟨c1, c2⟩ := hc
          simp only [List.map_cons, List.map_nil, hd, h1, h2, h3, ← c1]
          cases writeD fr n st id lo k z0 (List.replicate k z) with
          | none => rfl
          | some st' => simp [c2, hk]
        · cases h
    · rfl
  · rfl
@[go_sem] theorem crK_a (o : Oper) (n id lo k z0 : Nat) (z : List D) : crK P c fr dr call st o (some (n, z)) (.a id lo k z0) = if 0 < k then crS (writeD fr n st id lo k z0 (List.replicate k z)) else fbO P c fr dr call st o := rfl
@[go_sem] theorem crS_some (st : St) : crS (some st) = some (und, st) := rfl
/-- What is appended as so many zeros. -/
def apX (P : Program) (t u : TypeId) : Option (Nat × Nat × List D) := match elt P t with
  | some el => (match sz P el, byt P el, zer P el with
    | some n, some b, some z => if 0 < n ∧ z.length = n ∧ (elt P u).isNone = true ∧ intT P u = true then some (n, b, z) else none
    | _, _, _ => none)
  | none => none
theorem d_grow (x y : Operand) (t u : TypeId) (n b m : Nat) (z : List D) (h : apX P t u = some (n, b, z)) (hm : asNat (ev st.tm y) = some m) : opD P c fr dr call st { dst := dst, op := .call { callee := .builtin .append, args := #[x, y], argTypes := #[t, u] }, type := ty, pos := pos, after := after, guard := guard } =
    appendD fr n b st (ev st.tm x) (.l none (List.replicate m z)) := by
  have e : opD P c fr dr call st { dst := dst, op := .call { callee := .builtin .append, args := #[x, y], argTypes := #[t, u] }, type := ty, pos := pos, after := after, guard := guard } = op1 P c fr dr call st { dst := dst, op := .call { callee := .builtin .append, args := #[x, y], argTypes := #[t, u] }, type := ty, pos := pos, after := after, guard := guard } := rfl
  rw [e]
  unfold apX at h
  unfold op1
  cases h1 : elt P t with
  | none => rw [h1] at h; cases h
  | some el =>
    simp only [h1] at h
    cases h2 : sz P el <;> cases h3 : byt P el <;> cases h4 : zer P el <;> simp only [h2, h3, h4] at h <;> try (cases h; done)
    split at h
    · rename_i hc
      cases h
      obtain ⟨c1, c2, c3, c4⟩ := hc
      cases h5 : elt P u with
      | some e => rw [h5] at c3; simp at c3
      | none => simp only [List.map_cons, List.map_nil, h1, h2, h3, h4, h5, c1, c2, c4, hm, and_self, if_true]
    · cases h
/-- An append onto a slice with room: it goes on in its block. -/
theorem app_in {fr : Fr} {n bytes id k : Nat} {es new : List (List D)} {cp : Option Nat} {y : D} (hb : rdH st.hp id = ⟨es, true, 0, true, cp⟩) (hy : peek st.hp y = some new) (hz : sizesOk n new = true) (hne : new.isEmpty = false) (hro : fr.ro = false ∨ fr.k ≤ id) (hl : k + new.length ≤ es.length)
    (hm : (k + new.length) * bytes ≤ 140737488355328) (hm' : k + new.length ≤ 140737488355328) :
    appendD fr n bytes st (.a id 0 k n) y = some (.a id 0 (k + new.length) n, { tm := st.tm, hp := (id, ⟨es.take k ++ new ++ es.drop (k + new.length), true, 0, true, cp⟩) :: st.hp, nx := st.nx }) := by
  unfold appendD
  rw [hy]
  have e : appendD.lenOr (D.a id 0 k n) = k := rfl
  simp only [hz, e, hm, hm', decide_true, Bool.and_self, if_true, hb, hro, and_self, hne, Bool.false_eq_true, if_false, Nat.zero_add, Nat.zero_lt_succ]
  simp
  omega
@[go_sem] theorem peek_a (hp : List (Nat × Blk)) (id lo n z : Nat) (es : List (List D)) (cp : Option Nat) (h : rdH hp id = ⟨es, true, 0, true, cp⟩) (hl : lo + n ≤ es.length) : peek hp (.a id lo n z) = some ((es.drop lo).take n) := by
  unfold peek
  simp [h, hl]
theorem cut_a_lo {t el : TypeId} {n : Nat} (he : elt P t = some el) (hz : sz P el = some n) (hp : List (Nat × Blk)) (k : IntKind) (id o m l : Nat) (hl : l ≤ m) : cut P t dr hp (.a id o m n) (some (.s (.int k (l : Int)))) none none = some (.a id (o + l) (m - l) n, hp) := by
  unfold cut
  simp [he, hz, bnd, asNat, hl]
theorem cut_a_hi {t el : TypeId} {n : Nat} (he : elt P t = some el) (hz : sz P el = some n) (hp : List (Nat × Blk)) (k : IntKind) (id o m h : Nat) (hl : h ≤ m) : cut P t dr hp (.a id o m n) none (some (.s (.int k (h : Int)))) none = some (.a id o h n, hp) := by
  unfold cut
  simp [he, hz, bnd, asNat, hl]
end
end Vm
end Go.Proofs.YtffgjmfkkfinlaaGreat

/-
  What is read of an argument, as lists and numbers.
-/
namespace Go.Proofs.YtffgjmfkkfinlaaGreat
namespace Vm
open Go Go.RowKit
section
variable {P : Program} {n : Nat} {t : TypeId} {ds : List D} {α : Type} {f : α → List D}
theorem fit_int {k : IntKind} (hu : P.underlying t = some (.int k)) (h : Fit P (n + 1) t ds) : ∃ x, ds = [.s (.int k x)] ∧ (Lit.int k x).wf = true := by
  unfold Fit at h
  simpa only [hu] using h
theorem fit_bool (hu : P.underlying t = some .bool) (h : Fit P (n + 1) t ds) : ∃ x, ds = [.s (.bool x)] := by
  unfold Fit at h
  simpa only [hu] using h
theorem fit_str (hu : P.underlying t = some .string) (h : Fit P (n + 1) t ds) : ∃ x, ds = [.s (.string x)] := by
  unfold Fit at h
  simpa only [hu] using h
theorem fit_sl {e : TypeId} {p : α → Prop} (hu : P.underlying t = some (.slice e)) (he : ∀ x, Fit P n e x → ∃ a : α, x = f a ∧ p a) (h : Fit P (n + 1) t ds) : ∃ x : Sl α, ds = [x.d f] ∧ ∀ a ∈ x.xs, p a := by
  unfold Fit at h
  simp only [hu] at h
  rcases h with rfl | ⟨es, rfl, hl, hes⟩
  · exact ⟨.nil, rfl, by simp [Sl.xs]⟩
  · have : ∃ xs : List α, es = xs.map f ∧ ∀ a ∈ xs, p a := by
      clear hl
      induction es with
      | nil => exact ⟨[], rfl, by simp⟩
      | cons x r ih =>
        obtain ⟨xs, h1, h2⟩ := ih (fun y hy => hes y (List.mem_cons_of_mem _ hy))
        obtain ⟨a, h3, h4⟩ := he x (hes x (by simp))
        exact ⟨a :: xs, by rw [h1, h3]; rfl, by simpa using ⟨h4, h2⟩⟩
    obtain ⟨xs, rfl, hp⟩ := this
    refine ⟨.l none xs ?_, rfl, hp⟩
    have : xs.length ≤ maxLen := by simpa using hl
    unfold maxLen at this; omega
theorem fit_struct {fs : Array Field} (hu : P.underlying t = some (.struct fs)) (h : Fit P (n + 1) t ds) : FitL (Fit P n) fs.toList ds := by
  unfold Fit at h
  simpa only [hu] using h
theorem fitL_cons {r : TypeId → List D → Prop} {fl : Field} {fs : List Field} (h : FitL r (fl :: fs) ds) : ∃ p q, ds = p ++ q ∧ r fl.type p ∧ FitL r fs q := h
theorem fitL_nil {r : TypeId → List D → Prop} (h : FitL r [] ds) : ds = [] := h
theorem fitArg_int {k : IntKind} {d : D} (hu : P.underlying t = some (.int k)) (h : FitArg P t d) : ∃ x, d = .s (.int k x) ∧ (Lit.int k x).wf = true := by
  unfold FitArg at h
  simp only [hu] at h
  obtain ⟨x, h1, h2⟩ := fit_int hu h
  simp only [List.cons.injEq, and_true] at h1
  exact ⟨x, h1, h2⟩
theorem fitArg_bool {d : D} (hu : P.underlying t = some .bool) (h : FitArg P t d) : ∃ x, d = .s (.bool x) := by
  unfold FitArg at h
  simp only [hu] at h
  obtain ⟨x, h1⟩ := fit_bool hu h
  simp only [List.cons.injEq, and_true] at h1
  exact ⟨x, h1⟩
theorem fitArg_sl {e : TypeId} {d : D} {p : α → Prop} (hu : P.underlying t = some (.slice e)) (he : ∀ x, Fit P 7 e x → ∃ a : α, x = f a ∧ p a) (h : FitArg P t d) : ∃ x : Sl α, d = x.d f ∧ ∀ a ∈ x.xs, p a := by
  unfold FitArg at h
  simp only [hu] at h
  obtain ⟨x, h1, h3⟩ := fit_sl hu he h
  simp only [List.cons.injEq, and_true] at h1
  exact ⟨x, h1, h3⟩
theorem fitArg_struct {fs : Array Field} {d : D} (hu : P.underlying t = some (.struct fs)) (h : FitArg P t d) : ∃ ds, d = .g ds ∧ Fit P 8 t ds := by
  unfold FitArg at h
  simpa only [hu] using h
theorem fitAll_cons {ts : List TypeId} (h : FitAll P (t :: ts) ds) : ∃ d r, ds = d :: r ∧ FitArg P t d ∧ FitAll P ts r := h
theorem fitAll_nil (h : FitAll P [] ds) : ds = [] := h
theorem wf_i64 {x : Int} (h : (Lit.int .i64 x).wf = true) : -9223372036854775808 ≤ x ∧ x < 9223372036854775808 := by
  simp only [Lit.wf, Bool.and_eq_true, decide_eq_true_eq] at h
  have e1 : IntKind.i64.min = -9223372036854775808 := by decide
  have e2 : IntKind.i64.max = 9223372036854775807 := by decide
  rw [e1, e2] at h
  omega
theorem maxLen_lt {n : Nat} (h : n ≤ maxLen) : n < 9223372036854775808 := by
  unfold maxLen at h; omega
end
end Vm
end Go.Proofs.YtffgjmfkkfinlaaGreat

/-
  The machine of values, step by step: gathered lists, texts.
-/
namespace Go.Proofs.YtffgjmfkkfinlaaGreat
namespace Vm
open Go Go.RowKit
section
variable {α : Type} {f : α → List D}
@[go_sem] theorem cells_acc (l : List α) : cellsOf (accL f l) = some [accL f l] := by cases l <;> rfl
@[go_sem] theorem pure_acc (l : List α) : isPure (accL f l) = true := by cases l <;> rfl
theorem lenD_acc (l : List α) : lenD (accL f l) = some l.length := by cases l <;> simp [accL, nilS, lenD]
@[go_sem] theorem lenK_acc {P : Program} (t : TypeId) (h : lenS P t = true) (l : List α) : lenK P t (accL f l) = some (.s (.int .i64 l.length)) := by
  have e : lenT P t (accL f l) = lenS P t := by cases l <;> rfl
  simp only [lenK, e, h, if_true, lenD_acc]
@[go_sem] theorem frzG_accL (dr : Bool) (hp : List (Nat × Blk)) (l : List α) : frzG dr hp (accL f l) = some (accL f l, hp) := by cases l <;> rfl
@[go_sem] theorem frz_accL (dr : Bool) (hp : List (Nat × Blk)) (l : List α) : frz dr hp (accL f l) = some (accL f l, hp) := by cases l <;> rfl
@[go_sem] theorem refs_acc (l : List α) : refs (accL f l) = [] := by cases l <;> rfl
@[go_sem] theorem refsA_acc (l : List α) : refsA (accL f l) = [] := by cases l <;> rfl
@[go_sem] theorem ren_acc (ρ : List (Nat × Nat)) (l : List α) : ren ρ (accL f l) = accL f l := by cases l <;> rfl
@[go_sem] theorem renA_acc (ρ : List (Nat × Nat)) (l : List α) : renA ρ (accL f l) = accL f l := by cases l <;> rfl
@[go_sem] theorem peek_acc (hp : List (Nat × Blk)) (l : List α) : peek hp (accL f l) = some (l.map f) := by cases l <;> rfl
end
section
variable {P : Program} (t : TypeId)
theorem beq_dec (a b : List UInt8) : (a == b) = decide (a = b) := by
  by_cases h : a = b
  · simp [h]
  · simp [h]
@[go_sem] theorem bin_seql (h : P.eqGuardType P.depth t = false) (a b : ByteArray) : binD P .eql t (.s (.string a)) (.s (.string b)) = some (.s (.bool (decide (a.toList = b.toList)))) := by
  have e : binD P .eql t (.s (.string a)) (.s (.string b)) = (if (P.eqGuardType P.depth t || false) = true then none else some (.s (.bool (a.toList == b.toList)))) := by rfl
  rw [e, h, beq_dec]; rfl
@[go_sem] theorem bin_sneq (h : P.eqGuardType P.depth t = false) (a b : ByteArray) : binD P .neq t (.s (.string a)) (.s (.string b)) = some (.s (.bool (!decide (a.toList = b.toList)))) := by
  have e : binD P .neq t (.s (.string a)) (.s (.string b)) = (if (P.eqGuardType P.depth t || false) = true then none else some (.s (.bool (!(a.toList == b.toList))))) := by rfl
  rw [e, h, beq_dec]; rfl
/-- Is it a type of texts? -/
def strT (P : Program) (t : TypeId) : Bool := match P.underlying t with | some .string => true | _ => false
@[go_sem] theorem lenK_str (h : strT P t = true) (a : ByteArray) : lenK P t (.s (.string a)) = some (.s (.int .i64 a.size)) := by
  have e : lenT P t (.s (.string a)) = strT P t := rfl
  simp only [lenK, e, h, if_true]; rfl
def idS (a : Option UInt8) : Option D := match a with | some u => some (.s (.int .u8 u.toNat)) | none => none
@[go_sem] theorem idS_some (u : UInt8) : idS (some u) = some (.s (.int .u8 u.toNat)) := rfl
@[go_sem] theorem idD_str (h : strT P t = true) (a : ByteArray) (k : IntKind) (i : Nat) : idD P t (.s (.string a)) (.s (.int k (i : Int))) = idS a[i]? := by
  unfold strT at h
  unfold idD
  split at h
  · rename_i hu
    simp only [hu, Int.natCast_nonneg, if_true, Int.toNat_natCast]
    unfold idS
    cases a[i]? <;> rfl
  · cases h
end
theorem ba_get (s : ByteArray) (i : Nat) : s[i]? = s.data.toList[i]? := by
  rw [Array.getElem?_toList]
  by_cases h : i < s.size
  · have h2 : i < s.data.size := h
    rw [getElem?_pos s i h, getElem?_pos s.data i h2]; rfl
  · have h2 : ¬ i < s.data.size := h
    rw [getElem?_neg s i h, getElem?_neg s.data i h2]
/-! Jumps back -/
section
variable {P : Program} {c : Cfg} {fr : Fr}
attribute [go_sem] e_scope
@[go_sem] theorem kJ_ret (a : Code) (st : St) : kJ P c fr a (some (.ret, st)) = some (.ret, st) := rfl
@[go_sem] theorem kJ_normal (a : Code) (st : St) : kJ P c fr a (some (.normal, st)) = some (.normal, st) := rfl
@[go_sem] theorem kJ_exit (a : Code) (i : Nat) (st : St) : kJ P c fr a (some (.exit i, st)) = some (.exit i, st) := rfl
theorem kJ_goto {a rest : Code} {l : Nat} {st : St} (hf : findLabel a l = some rest) (hh : ∀ st, headJ c fr l st = some st) : kJ P c fr a (some (.goto l, st)) = jmp P c fr a rest st := by
  simp only [kJ, hf, hh]
/-- What a round up to a jump comes to. -/
def JStep (l : Nat) (good : St → Prop) (Post : Ex → St → Prop) (r : Option (Ex × St)) : Prop := match r with
  | some (.goto l', st) => l' = l ∧ good st
  | some (x, st) => Post x st
  | none => False
@[go_sem] theorem jstep_goto (l l' : Nat) (good : St → Prop) (Post : Ex → St → Prop) (st : St) : JStep l good Post (some (.goto l', st)) = (l' = l ∧ good st) := rfl
@[go_sem] theorem jstep_ret (l : Nat) (good : St → Prop) (Post : Ex → St → Prop) (st : St) : JStep l good Post (some (.ret, st)) = Post .ret st := rfl
@[go_sem] theorem jstep_normal (l : Nat) (good : St → Prop) (Post : Ex → St → Prop) (st : St) : JStep l good Post (some (.normal, st)) = Post .normal st := rfl
@[go_sem] theorem jstep_exit (l i : Nat) (good : St → Prop) (Post : Ex → St → Prop) (st : St) : JStep l good Post (some (.exit i, st)) = Post (.exit i) st := rfl
/-- A jump back, again and again: `I i` where the label is reached with `i`, which stays below `N`. -/
theorem jump_use {body rest : Code} {l : Nat} (hf : findLabel body l = some rest) (hh : ∀ st, headJ c fr l st = some st) (N : Nat) (I : Nat → St → Prop) (Q : Nat → Ex → St → Prop)
    (hQ : ∀ i l' st, ¬ Q i (.goto l') st)
    (step : ∀ i st, i < N → I i st → JStep l (fun st' => i + 1 < N ∧ I (i + 1) st' ∧ ∀ x s, Q (i + 1) x s → Q i x s) (Q i) (exe P c fr rest st)) :
    ∀ (m i : Nat) (st : St), N - i = m → i < N → I i st → ∃ x s, jmp P c fr body rest st = some (x, s) ∧ Q i x s
  | 0, i, st, hm, hi, _ => by omega
  | m + 1, i, st, hm, hi, hI => by
    have hs := step i st hi hI
    rw [j_eq]
    cases hr : exe P c fr rest st with
    | none => rw [hr] at hs; exact hs.elim
    | some q =>
      obtain ⟨x, st2⟩ := q
      rw [hr] at hs
      cases x with
      | goto l' =>
        obtain ⟨rfl, h1, h2, h3⟩ := hs
        obtain ⟨x, s, h4, h5⟩ := jump_use hf hh N I Q hQ step m (i + 1) st2 (by omega) h1 h2
        exact ⟨x, s, by rw [kJ_goto hf hh]; exact h4, h3 x s h5⟩
      | _ => exact ⟨_, _, rfl, hs⟩
theorem jump_go {body rest : Code} {l i : Nat} {st : St} {r : Option (Ex × St)} (hx : jmp P c fr body rest st = r) (hf : findLabel body l = some rest) (hh : ∀ st, headJ c fr l st = some st) (N : Nat) (I : Nat → St → Prop) (Q : Nat → Ex → St → Prop)
    (hQ : ∀ i l' st, ¬ Q i (.goto l') st) (hi : i < N) (h0 : I i st)
    (step : ∀ i st, i < N → I i st → JStep l (fun st' => i + 1 < N ∧ I (i + 1) st' ∧ ∀ x s, Q (i + 1) x s → Q i x s) (Q i) (exe P c fr rest st)) : ∃ x s, r = some (x, s) ∧ Q i x s := by
  obtain ⟨x, s, h1, h2⟩ := jump_use hf hh N I Q hQ step _ i st rfl hi h0
  exact ⟨x, s, by rw [← hx, h1], h2⟩
end
theorem Sl.d_l {α : Type} (f : α → List D) (c : Option Nat) (xs : List α) (h : xs.length < 9223372036854775808) : Sl.d f (.l c xs h) = .l c (xs.map f) := rfl
theorem Sl.d_nil {α : Type} (f : α → List D) : Sl.d f .nil = nilS := rfl
/-! Copies of slices -/
def cloneS {α : Type} : Sl α → Sl α
  | .nil => .nil
  | .l _ [] h => .l (some 0) [] h
  | .l _ (x :: r) h => .l none (x :: r) h
@[go_sem] theorem cloneS_xs {α : Type} (x : Sl α) : (cloneS x).xs = x.xs := by
  cases x with
  | nil => rfl
  | l c xs h => cases xs <;> rfl
theorem cloneS_ne {α : Type} {x : Sl α} (h : ¬ x.xs.isEmpty = true) (f : α → List D) : (cloneS x).d f = .l none (x.xs.map f) := by
  cases x with
  | nil => simp [Sl.xs] at h
  | l c xs hx => cases xs with
    | nil => simp [Sl.xs] at h
    | cons _ _ => rfl
theorem cloneS_e {α : Type} {x : Sl α} (h : x.xs.isEmpty = true) (hn : ¬ x.isNil = true) (f : α → List D) : (cloneS x).d f = .l (some 0) [] := by
  cases x with
  | nil => simp [Sl.isNil] at hn
  | l c xs hx => cases xs with
    | nil => rfl
    | cons _ _ => simp [Sl.xs] at h
theorem cloneS_n {α : Type} {x : Sl α} (hn : x.isNil = true) (f : α → List D) : (cloneS x).d f = nilS := by
  cases x with
  | nil => rfl
  | l c xs h => simp [Sl.isNil] at hn
theorem take_map {α : Type} {f : α → List D} (xs : List α) : List.take xs.length (xs.map f) = xs.map f := by rw [List.take_of_length_le (by simp)]
theorem cons_dec_ne {α : Type} [DecidableEq α] {a c : α} {r q : List α} (h : ¬ a = c) : decide (a :: r = c :: q) = false := by simp [h]
theorem cons_dec_eq {α : Type} [DecidableEq α] {a : α} {r q : List α} : decide (a :: r = a :: q) = decide (r = q) := by simp
theorem len_ne {α : Type} [DecidableEq α] {x y : List α} (h : ¬ (x.length : Int) = (y.length : Int)) : decide (x = y) = false := by
  simp; intro e; exact h (by rw [e])
/-- What a loop comes to: behind it, or a result at once. -/
def QS {α β : Type} (p : α → Prop) (q : β → Prop) : Sum α β → Prop
  | .inl a => p a
  | .inr b => q b
@[go_sem] theorem QS_inl {α β : Type} (p : α → Prop) (q : β → Prop) (a : α) : QS p q (.inl a) = p a := rfl
@[go_sem] theorem QS_inr {α β : Type} (p : α → Prop) (q : β → Prop) (b : β) : QS p q (.inr b) = q b := rfl
end Vm
end Go.Proofs.YtffgjmfkkfinlaaGreat

/-
  The machine of values, step by step: calls that are handed more blocks than one, and what is handed out with them.
-/
namespace Go.Proofs.YtffgjmfkkfinlaaGreat
namespace Vm
open Go Go.RowKit
section
variable {α : Type} {f : α → List D}
/-! What is reached -/
@[go_sem] theorem refsGLf_nil : refsE.refsGLf [] = [] := rfl
@[go_sem] theorem refsGLf_cons (d : D) (r : List D) : refsE.refsGLf (d :: r) = refs d ++ refsE.refsGLf r := rfl
@[go_sem] theorem refsB_lit (cs : List D) (a u : Bool) (md : Nat) (cp : Option Nat) : refsB ⟨[cs], a, md, u, cp⟩ = if u = true then [] else refsE.refsGLf cs := by
  simp only [refsB, refsE, List.append_nil]
@[go_sem] theorem refsB_pu (es : List (List D)) (a : Bool) (md : Nat) (cp : Option Nat) : refsB ⟨es, a, md, true, cp⟩ = [] := rfl
@[go_sem] theorem reach_nil' (hp : List (Nat × Blk)) (n : Nat) (seen : List Nat) : reach hp n [] seen = seen := reach_nil hp n seen
def rcB (hp : List (Nat × Blk)) (n x : Nat) (todo seen : List Nat) (b : Blk) : List Nat := if (has seen x || Nat.blt 1 b.md) = true then reach hp n todo seen else reach hp n (todo ++ refsB b) (seen ++ [x])
@[go_sem] theorem reach_cons (hp : List (Nat × Blk)) (n x : Nat) (todo seen : List Nat) : reach hp (n + 1) (x :: todo) seen = rcB hp n x todo seen (rdH hp x) := by
  unfold rcB
  rw [reach]
  have e : Nat.blt 1 (rdH hp x).md = decide (1 < (rdH hp x).md) := by
    rw [Bool.eq_iff_iff]; simp
  rw [e]
@[go_sem] theorem rcB_lit (hp : List (Nat × Blk)) (n x : Nat) (todo seen : List Nat) (es : List (List D)) (a u : Bool) (md : Nat) (cp : Option Nat) : rcB hp n x todo seen ⟨es, a, md, u, cp⟩ = if (has seen x || Nat.blt 1 md) = true then reach hp n todo seen else reach hp n (todo ++ refsB ⟨es, a, md, u, cp⟩) (seen ++ [x]) := rfl
@[go_sem] theorem blt_10 : Nat.blt 1 0 = false := rfl
@[go_sem] theorem blt_11 : Nat.blt 1 1 = false := rfl
@[go_sem] theorem blt_12 : Nat.blt 1 2 = true := rfl
@[go_sem] theorem has_nil (x : Nat) : has [] x = false := rfl
@[go_sem] theorem has_cons (y x : Nat) (r : List Nat) : has (y :: r) x = if x = y then true else has r x := rfl
@[go_sem] theorem refs_fp (fn : Fn) (id i off : Nat) : refs (.f fn [] [.p id i off]) = [id] := rfl
@[go_sem] theorem ren_fp (ρ : List (Nat × Nat)) (fn : Fn) (id i off : Nat) : ren ρ (.f fn [] [.p id i off]) = .f fn [] [rnP i off (nm ρ id)] := by
  simp only [ren, renG, List.map_nil, List.map_cons, renA]
  unfold rnP
  cases nm ρ id <;> rfl
@[go_sem] theorem refsBs_nil (hp : List (Nat × Blk)) : refsBs hp [] = [] := rfl
def rbB (hp : List (Nat × Blk)) (r : List Nat) (b : Blk) : List Nat := if Nat.blt b.md 2 = true then refsB b ++ refsBs hp r else refsBs hp r
@[go_sem] theorem refsBs_cons (hp : List (Nat × Blk)) (id : Nat) (r : List Nat) : refsBs hp (id :: r) = rbB hp r (rdH hp id) := by
  unfold rbB
  rw [refsBs]
  have e : (Nat.blt (rdH hp id).md 2 = true) ↔ ((rdH hp id).md < 2) := by simp
  by_cases h : (rdH hp id).md < 2
  · rw [if_pos h, if_pos (e.2 h)]
  · rw [if_neg h, if_neg (fun x => h (e.1 x))]
@[go_sem] theorem rbB_lit (hp : List (Nat × Blk)) (r : List Nat) (es : List (List D)) (a u : Bool) (md : Nat) (cp : Option Nat) : rbB hp r ⟨es, a, md, u, cp⟩ = if Nat.blt md 2 = true then refsB ⟨es, a, md, u, cp⟩ ++ refsBs hp r else refsBs hp r := rfl
@[go_sem] theorem blt_02 : Nat.blt 0 2 = true := rfl
@[go_sem] theorem blt_122 : Nat.blt 1 2 = true := rfl
@[go_sem] theorem blt_22 : Nat.blt 2 2 = false := rfl
@[go_sem] theorem upto0 (i : Nat) : upto 0 i = [] := rfl
@[go_sem] theorem upto1 (n i : Nat) : upto (n + 1) i = i :: upto n (i + 1) := rfl
@[go_sem] theorem pos_nil (i : Nat) : pos i [] = [] := rfl
@[go_sem] theorem pos_cons (i x : Nat) (r : List Nat) : pos i (x :: r) = (x, i) :: pos (i + 1) r := rfl
/-! Renamed blocks -/
@[go_sem] theorem renB_pu (ρ : List (Nat × Nat)) (es : List (List D)) (a : Bool) (md : Nat) (cp : Option Nat) : renB ρ ⟨es, a, md, true, cp⟩ = ⟨es, a, md, true, cp⟩ := rfl
@[go_sem] theorem renB_lit (ρ : List (Nat × Nat)) (cs : List D) (a : Bool) (md : Nat) (cp : Option Nat) : renB ρ ⟨[cs], a, md, false, cp⟩ = ⟨[cs.map (ren ρ)], a, md, false, cp⟩ := rfl
@[go_sem] theorem renB_any (ρ : List (Nat × Nat)) (cs : List D) (a u : Bool) (md : Nat) (cp : Option Nat) (h : calms cs = true) : renB ρ ⟨[cs], a, md, u, cp⟩ = ⟨[cs], a, md, u, cp⟩ := cb_renB (by simp only [cb, h, Bool.or_true])
/-! Blocks that are frozen -/
def nA : D → Bool
  | .a .. => false
  | .g cs => noA.noA0 cs
  | _ => true
@[go_sem] theorem noA_nil : noA [] = true := rfl
@[go_sem] theorem noA_cons (d : D) (r : List D) : noA (d :: r) = (nA d && noA r) := by
  cases d <;> simp only [noA, nA, Bool.true_and, Bool.false_and]
@[go_sem] theorem nA_s (v : Value) : nA (.s v) = true := rfl
@[go_sem] theorem nA_l (c : Option Nat) (es : List (List D)) : nA (.l c es) = true := rfl
@[go_sem] theorem nA_p (a b c : Nat) : nA (.p a b c) = true := rfl
@[go_sem] theorem nA_q (cs : List D) : nA (.q cs) = true := rfl
@[go_sem] theorem nA_a (a b c d : Nat) : nA (.a a b c d) = false := rfl
@[go_sem] theorem nA_nilS : nA nilS = true := rfl
@[go_sem] theorem nA_sl (x : Sl α) : nA (x.d f) = true := by cases x <;> rfl
@[go_sem] theorem nA_acc (l : List α) : nA (accL f l) = true := by cases l <;> rfl
@[go_sem] theorem nA_f (fn : Fn) (x y : List D) : nA (.f fn x y) = true := rfl
def fbsK (hp : List (Nat × Blk)) (id : Nat) (r : List Nat) (b : Blk) (cs : List D) (x : Option (List D × List (Nat × Blk))) : Option (List (Nat × Blk)) := match x with
  | some (cs', hp') => if hp'.length = hp.length ∧ noA cs = true then callD.frzBs false hp r else callD.frzBs false ((id, ⟨[cs'], b.arr, b.md, b.pu, b.cap⟩) :: hp') r
  | none => none
def fbsB (hp : List (Nat × Blk)) (id : Nat) (r : List Nat) (b : Blk) : Option (List (Nat × Blk)) :=
  if Nat.blt 1 b.md = true then callD.frzBs false hp r else if (b.pu || b.arr) = true then callD.frzBs false hp r else match b.es with
    | [cs] => fbsK hp id r b cs (frzGs false hp cs)
    | _ => none
@[go_sem] theorem frzBs_nil (hp : List (Nat × Blk)) : callD.frzBs false hp [] = some hp := rfl
@[go_sem] theorem frzBs_cons (hp : List (Nat × Blk)) (id : Nat) (r : List Nat) : callD.frzBs false hp (id :: r) = fbsB hp id r (rdH hp id) := by
  unfold fbsB fbsK
  rw [callD.frzBs]
  have e : (Nat.blt 1 (rdH hp id).md = true) ↔ (1 < (rdH hp id).md) := by simp
  by_cases h : 1 < (rdH hp id).md
  · rw [if_pos h, if_pos (e.2 h)]
  · rw [if_neg h, if_neg (fun x => h (e.1 x))]
    split
    · rfl
    · generalize rdH hp id = b
      obtain ⟨es, a, md, u, cp⟩ := b
      dsimp only
      match es with
      | [] => rfl
      | [cs] => dsimp only; cases frzGs false hp cs <;> rfl
      | _ :: _ :: _ => rfl
@[go_sem] theorem fbsB_pu (hp : List (Nat × Blk)) (id : Nat) (r : List Nat) (es : List (List D)) (a : Bool) (md : Nat) (cp : Option Nat) : fbsB hp id r ⟨es, a, md, true, cp⟩ = callD.frzBs false hp r := by
  simp only [fbsB, Bool.true_or, if_true, ite_self]
@[go_sem] theorem fbsB_lit (hp : List (Nat × Blk)) (id : Nat) (r : List Nat) (cs : List D) (md : Nat) (cp : Option Nat) : fbsB hp id r ⟨[cs], false, md, false, cp⟩ = if Nat.blt 1 md = true then callD.frzBs false hp r else fbsK hp id r ⟨[cs], false, md, false, cp⟩ cs (frzGs false hp cs) := by
  simp only [fbsB, Bool.or_self, Bool.false_eq_true, if_false]
@[go_sem] theorem fbsB_any (hp : List (Nat × Blk)) (id : Nat) (r : List Nat) (cs : List D) (u : Bool) (md : Nat) (cp : Option Nat) (h : calms cs = true) : fbsB hp id r ⟨[cs], false, md, u, cp⟩ = callD.frzBs false hp r := by
  cases u with
  | true => exact fbsB_pu ..
  | false => rw [fbsB_lit, frzGs_calm h]; simp only [fbsK, calms_noA h, and_self, if_true, ite_self]
@[go_sem] theorem fbsK_some (hp hp' : List (Nat × Blk)) (id : Nat) (r : List Nat) (es : List (List D)) (a u : Bool) (md : Nat) (cp : Option Nat) (cs cs' : List D) : fbsK hp id r ⟨es, a, md, u, cp⟩ cs (some (cs', hp')) = if hp'.length = hp.length ∧ noA cs = true then callD.frzBs false hp r else callD.frzBs false ((id, ⟨[cs'], a, md, u, cp⟩) :: hp') r := rfl
end

section
variable {P : Program} {c : Cfg} {fr : Fr} {dr : Bool} {g : Nat} {args : List D} {st : St}
/-! Calls -/
@[go_sem] theorem nx_l1 (n : Nat) : (n < n + 1) ↔ True := ⟨fun _ => trivial, fun _ => by omega⟩
@[go_sem] theorem nx_e1 (n : Nat) : (n ≤ n + 1) ↔ True := ⟨fun _ => trivial, fun _ => by omega⟩
@[go_sem] theorem nx_l2 (n : Nat) : (n < n + 1 + 1) ↔ True := ⟨fun _ => trivial, fun _ => by omega⟩
@[go_sem] theorem nx_e2 (n : Nat) : (n ≤ n + 1 + 1) ↔ True := ⟨fun _ => trivial, fun _ => by omega⟩
@[go_sem] theorem nx_l3 (n : Nat) : (n < n + 1 + 1 + 1) ↔ True := ⟨fun _ => trivial, fun _ => by omega⟩
@[go_sem] theorem nx_e3 (n : Nat) : (n ≤ n + 1 + 1 + 1) ↔ True := ⟨fun _ => trivial, fun _ => by omega⟩
@[go_sem] theorem nx_l4 (n : Nat) : (n < n + 1 + 1 + 1 + 1) ↔ True := ⟨fun _ => trivial, fun _ => by omega⟩
@[go_sem] theorem nx_e4 (n : Nat) : (n ≤ n + 1 + 1 + 1 + 1) ↔ True := ⟨fun _ => trivial, fun _ => by omega⟩
@[go_sem] theorem nx_l5 (n : Nat) : (n < n + 1 + 1 + 1 + 1 + 1) ↔ True := ⟨fun _ => trivial, fun _ => by omega⟩
@[go_sem] theorem nx_e5 (n : Nat) : (n ≤ n + 1 + 1 + 1 + 1 + 1) ↔ True := ⟨fun _ => trivial, fun _ => by omega⟩
@[go_sem] theorem nx_l6 (n : Nat) : (n < n + 1 + 1 + 1 + 1 + 1 + 1) ↔ True := ⟨fun _ => trivial, fun _ => by omega⟩
@[go_sem] theorem nx_e6 (n : Nat) : (n ≤ n + 1 + 1 + 1 + 1 + 1 + 1) ↔ True := ⟨fun _ => trivial, fun _ => by omega⟩
noncomputable def gF (c : Cfg) (dr : Bool) (g : Nat) (st : St) (ids : List Nat) (hp : List (Nat × Blk)) (res : List D) (bs : List Blk) : Option (D × St) :=
  if (onlyS res && !c.wr g) = true then some (callD.resD res, st) else
  if (dr && (hp.length != st.hp.length || c.keep g)) = true then none else
  if (c.wr g || c.keep g) = true then some (callD.resD (res.map (ren (backOf st.nx 0 bs.length ids))), { tm := st.tm, hp := callD.addB (backOf st.nx 0 bs.length ids) 0 bs hp, nx := st.nx + (bs.length - ids.length) })
  else if (callD.anyArr hp ids || callD.mds hp ids bs) = true then none
  else some (callD.resD (res.map (ren (backOf st.nx 0 bs.length ids))), { tm := st.tm, hp := callD.addB (backOf st.nx 0 bs.length ids) ids.length (bs.drop ids.length) hp, nx := st.nx + (bs.length - ids.length) })
noncomputable def gE (c : Cfg) (dr : Bool) (g : Nat) (st : St) (ids : List Nat) (hp : List (Nat × Blk)) (r : Option (List D × List Blk)) : Option (D × St) := match r with
  | some (res, bs) => gF c dr g st ids hp res bs
  | none => none
noncomputable def gC (P : Program) (c : Cfg) (dr : Bool) (g : Nat) (st : St) (ids : List Nat) (args : List D) (r : Option (List (Nat × Blk))) : Option (D × St) := match r with
  | some hp => gE c dr g st ids hp (callI P c g (args.map (ren (pos 0 ids))) (ids.map fun id => renB (pos 0 ids) (rdH hp id)))
  | none => none
noncomputable def gB (P : Program) (c : Cfg) (fr : Fr) (dr : Bool) (g : Nat) (st : St) (args : List D) (hp : List (Nat × Blk)) (ids : List Nat) : Option (D × St) :=
  if (fr.ro && c.wr g && ids.any (fun x => Nat.blt x fr.k)) = true then none else gC P c dr g st ids args (if c.keep g = true then some hp else callD.frzBs false hp ids)
noncomputable def gA (P : Program) (c : Cfg) (fr : Fr) (dr : Bool) (g : Nat) (st : St) (r : Option (List D × List (Nat × Blk))) : Option (D × St) := match r with
  | some (args, hp) => gB P c fr dr g st args hp (reach hp fuel (refsLL args) [])
  | none => none
@[go_sem] theorem fbD_gen : fbD P c fr dr g args st = gA P c fr dr g st (if c.byRef g = true then some (args, st.hp) else frzGs false st.hp args) := by
  unfold fbD callD gA
  cases hx : (if c.byRef g = true then some (args, st.hp) else frzGs false st.hp args) with
  | none => rfl
  | some q =>
    obtain ⟨args', hp⟩ := q
    have e : ∀ ids : List Nat, (ids.any fun x => decide (x < fr.k)) = ids.any (fun x => Nat.blt x fr.k) := fun ids => by
      congr 1; funext x; rw [Bool.eq_iff_iff]; simp
    simp only [gB, e]
    split
    · rfl
    · unfold gC
      cases hk : c.keep g <;> simp only [Bool.false_eq_true, if_false, if_true]
      · cases hz : callD.frzBs false hp (reach hp fuel (refsLL args') []) with
        | none => rfl
        | some hp2 =>
          dsimp only
          unfold gE
          cases callI P c g _ _ with
          | none => rfl
          | some q =>
            obtain ⟨res, bs⟩ := q
            dsimp only [gF]
            simp only [hk]
      · unfold gE
        cases callI P c g _ _ with
        | none => rfl
        | some q =>
          obtain ⟨res, bs⟩ := q
          dsimp only [gF]
          simp only [hk]
@[go_sem] theorem gA_some (args : List D) (hp : List (Nat × Blk)) : gA P c fr dr g st (some (args, hp)) = gB P c fr dr g st args hp (reach hp 400 (refsLL args) []) := rfl
@[go_sem] theorem gB_eq {k nt fn : Nat} {ro : Bool} (args : List D) (hp : List (Nat × Blk)) (i : Nat) (ids : List Nat) : gB P c ⟨k, nt, fn, ro⟩ dr g st args hp (i :: ids) = if (ro && c.wr g && (i :: ids).any (fun x => Nat.blt x k)) = true then none else gC P c dr g st (i :: ids) args (if c.keep g = true then some hp else callD.frzBs false hp (i :: ids)) := rfl
@[go_sem] theorem gB_nil {k nt fn : Nat} {ro : Bool} (args : List D) (hp : List (Nat × Blk)) : gB P c ⟨k, nt, fn, ro⟩ dr g st args hp [] = gC P c dr g st [] args (some hp) := by
  unfold gB
  simp only [List.any_nil, Bool.and_false, Bool.false_eq_true, if_false, callD.frzBs, ite_self]
@[go_sem] theorem gC_some (args : List D) (hp : List (Nat × Blk)) (ids : List Nat) : gC P c dr g st ids args (some hp) = gE c dr g st ids hp (callI P c g (args.map (ren (pos 0 ids))) (ids.map fun id => renB (pos 0 ids) (rdH hp id))) := rfl
@[go_sem] theorem gE_some (hp : List (Nat × Blk)) (ids : List Nat) (res : List D) (bs : List Blk) : gE c dr g st ids hp (some (res, bs)) = gF c dr g st ids hp res bs := rfl
@[go_sem] theorem gF_eq {tm : List (Nat × D)} {H : List (Nat × Blk)} {nx : Nat} (hp : List (Nat × Blk)) (ids : List Nat) (res : List D) (bs : List Blk) : gF c dr g ⟨tm, H, nx⟩ ids hp res bs =
  if (onlyS res && !c.wr g) = true then some (callD.resD res, ⟨tm, H, nx⟩) else
  if (dr && (hp.length != H.length || c.keep g)) = true then none else
  if (c.wr g || c.keep g) = true then some (callD.resD (res.map (ren (backOf nx 0 bs.length ids))), { tm := tm, hp := callD.addB (backOf nx 0 bs.length ids) 0 bs hp, nx := nx + (bs.length - ids.length) })
  else if (callD.anyArr hp ids || callD.mds hp ids bs) = true then none
  else some (callD.resD (res.map (ren (backOf nx 0 bs.length ids))), { tm := tm, hp := callD.addB (backOf nx 0 bs.length ids) ids.length (bs.drop ids.length) hp, nx := nx + (bs.length - ids.length) }) := rfl
@[go_sem] theorem backOf0 (fresh i : Nat) (l : List Nat) : backOf fresh i 0 l = [] := by cases l <;> rfl
@[go_sem] theorem backOf_cons (fresh i n x : Nat) (l : List Nat) : backOf fresh i (n + 1) (x :: l) = (i, x) :: backOf fresh (i + 1) n l := rfl
@[go_sem] theorem backOf_new (fresh i n : Nat) : backOf fresh i (n + 1) [] = (i, fresh) :: backOf (fresh + 1) (i + 1) n [] := rfl
def adB (ρ : List (Nat × Nat)) (i : Nat) (b : Blk) (r : List Blk) (hp : List (Nat × Blk)) (o : Option Nat) : List (Nat × Blk) := match o with
  | some x => callD.addB ρ (i + 1) r ((x, renB ρ b) :: hp)
  | none => callD.addB ρ (i + 1) r hp
@[go_sem] theorem addB_nil (ρ : List (Nat × Nat)) (i : Nat) (hp : List (Nat × Blk)) : callD.addB ρ i [] hp = hp := rfl
@[go_sem] theorem addB_cons (ρ : List (Nat × Nat)) (i : Nat) (b : Blk) (r : List Blk) (hp : List (Nat × Blk)) : callD.addB ρ i (b :: r) hp = adB ρ i b r hp (nm ρ i) := by
  unfold adB; rw [callD.addB]; cases nm ρ i <;> rfl
@[go_sem] theorem adB_some (ρ : List (Nat × Nat)) (i x : Nat) (b : Blk) (r : List Blk) (hp : List (Nat × Blk)) : adB ρ i b r hp (some x) = callD.addB ρ (i + 1) r ((x, renB ρ b) :: hp) := rfl
@[go_sem] theorem anyArr_nil (hp : List (Nat × Blk)) : callD.anyArr hp [] = false := rfl
def arrB (b : Blk) : Bool := b.arr
@[go_sem] theorem arrB_lit (es : List (List D)) (a u : Bool) (md : Nat) (cp : Option Nat) : arrB ⟨es, a, md, u, cp⟩ = a := rfl
@[go_sem] theorem anyArr_cons (hp : List (Nat × Blk)) (id : Nat) (r : List Nat) : callD.anyArr hp (id :: r) = (arrB (rdH hp id) || callD.anyArr hp r) := rfl
def mdB (b b' : Blk) : Bool := b.md != b'.md
@[go_sem] theorem mdB_lit (es es' : List (List D)) (a u a' u' : Bool) (md md' : Nat) (cp cp' : Option Nat) : mdB ⟨es, a, md, u, cp⟩ ⟨es', a', md', u', cp'⟩ = (md != md') := rfl
@[go_sem] theorem mds_cons (hp : List (Nat × Blk)) (id : Nat) (r : List Nat) (b : Blk) (s : List Blk) : callD.mds hp (id :: r) (b :: s) = (mdB (rdH hp id) b || callD.mds hp r s) := rfl
@[go_sem] theorem mds_nil (hp : List (Nat × Blk)) (s : List Blk) : callD.mds hp [] s = false := by cases s <;> rfl

@[go_sem] theorem c0_many (hp : List (Nat × Blk)) (res : List D) (b b2 : Blk) (r : List Blk) : c0 P c fr dr g args st hp (some (res, b :: b2 :: r)) = fbD P c fr dr g args st := rfl
@[go_sem] theorem c1_none (id : Nat) (hp : List (Nat × Blk)) (res : List D) : c1 P c fr dr g args st id hp (some (res, [])) = fbD P c fr dr g args st := rfl
@[go_sem] theorem c1_many (id : Nat) (hp : List (Nat × Blk)) (res : List D) (b b2 b3 : Blk) (r : List Blk) : c1 P c fr dr g args st id hp (some (res, b :: b2 :: b3 :: r)) = fbD P c fr dr g args st := rfl
@[go_sem] theorem cZ_many (args' : List D) (hp : List (Nat × Blk)) (i j : Nat) (r : List Nat) : cZ P c fr dr g args st (i :: j :: r) args' hp = fbD P c fr dr g args st := rfl
@[go_sem] theorem cW1_nil (args' : List D) (hp : List (Nat × Blk)) : cW1 P c fr dr g args st args' hp [] = fbD P c fr dr g args st := rfl
@[go_sem] theorem cW1_many (args' : List D) (hp : List (Nat × Blk)) (i j : Nat) (r : List Nat) : cW1 P c fr dr g args st args' hp (i :: j :: r) = fbD P c fr dr g args st := rfl
@[go_sem] theorem lK_0m (res res' : List D) (hp : List (Nat × Blk)) (i j : Nat) (r : List Nat) : lK c fr st res 0 (i :: j :: r) res' hp = fbL c fr st res := rfl
@[go_sem] theorem lK_1m (res res' : List D) (hp : List (Nat × Blk)) (i j : Nat) (r : List Nat) : lK c fr st res 1 (i :: j :: r) res' hp = fbL c fr st res := rfl
@[go_sem] theorem lK_m (res res' : List D) (hp : List (Nat × Blk)) (k : Nat) (ids : List Nat) : lK c fr st res (k + 2) ids res' hp = fbL c fr st res := by
  match ids with
  | [] => rfl
  | [_] => rfl
  | _ :: _ :: _ => rfl
/-! What is handed out -/
def gM (hp : List (Nat × Blk)) (ids : List Nat) (res : List D) (r : Option (List (Nat × Blk))) : Option (List D × List Blk) := match r with
  | some hp => some (res.map (ren (pos 0 ids)), ids.map fun id => renB (pos 0 ids) (rdH hp id))
  | none => none
def gL (c : Cfg) (fn : Nat) (hp : List (Nat × Blk)) (res : List D) (ids : List Nat) : Option (List D × List Blk) := gM hp ids res (if c.keep fn = true then some hp else callD.frzBs false hp ids)
def gK (c : Cfg) (k fn : Nat) (r : Option (List D × List (Nat × Blk))) : Option (List D × List Blk) := match r with
  | some (res, hp) => gL c fn hp res (reach hp fuel (refsBs hp (upto k 0) ++ refsLL res) (upto k 0))
  | none => none
@[go_sem] theorem fbL_gen {k nt fn : Nat} {ro : Bool} {res : List D} : fbL c ⟨k, nt, fn, ro⟩ st res = gK c k fn (if c.own fn = true then some (res, st.hp) else frzGs false st.hp res) := by
  unfold fbL leave gK
  cases (if c.own fn = true then some (res, st.hp) else frzGs false st.hp res) with
  | none => rfl
  | some q =>
    obtain ⟨res', hp⟩ := q
    dsimp only [gL]
    cases (if c.keep fn = true then some hp else callD.frzBs false hp _) <;> rfl
theorem leave_keep {k nt fn : Nat} {ro : Bool} {res : List D} (h : c.keep fn = true) : leave c ⟨k, nt, fn, ro⟩ st res = gK c k fn (if c.own fn = true then some (res, st.hp) else frzGs false st.hp res) := fbL_gen
@[go_sem] theorem gK_some (k fn : Nat) (res : List D) (hp : List (Nat × Blk)) : gK c k fn (some (res, hp)) = gL c fn hp res (reach hp 400 (refsBs hp (upto k 0) ++ refsLL res) (upto k 0)) := rfl
@[go_sem] theorem gL_nil (fn : Nat) (res : List D) (hp : List (Nat × Blk)) : gL c fn hp res [] = some (res.map (ren []), []) := by
  unfold gL; simp only [callD.frzBs, ite_self]; rfl
@[go_sem] theorem gL_cons (fn i : Nat) (ids : List Nat) (res : List D) (hp : List (Nat × Blk)) : gL c fn hp res (i :: ids) = gM hp (i :: ids) res (if c.keep fn = true then some hp else callD.frzBs false hp (i :: ids)) := rfl
@[go_sem] theorem gM_some (hp hp' : List (Nat × Blk)) (ids : List Nat) (res : List D) : gM hp ids res (some hp') = some (res.map (ren (pos 0 ids)), ids.map fun id => renB (pos 0 ids) (rdH hp' id)) := rfl
attribute [go_sem] ite_self List.any_nil List.any_cons leave_keep Bool.not_eq_true' bne_self_eq_false Nat.add_sub_cancel Nat.sub_self
end
section
variable {P : Program} {c : Cfg} {fr : Fr} {dr : Bool} {g : Nat} {args : List D} {st : St}
/-- A call of a function that keeps what it is handed. -/
@[go_sem] theorem callD_keep (hk : c.keep g = true) : callD c fr dr (callI P c) g args st = gA P c fr dr g st (if c.byRef g = true then some (args, st.hp) else frzGs false st.hp args) := fbD_gen
end
end Vm
end Go.Proofs.YtffgjmfkkfinlaaGreat

/-
  What is chosen for the laws about employees, desks and periods.
-/
namespace Go.Proofs.YtffgjmfkkfinlaaGreat
open Go Vm

def okL : List Nat := [3, 4, 5, 6, 7, 8, 9, 10, 11, 12, 13, 14, 15, 16, 17, 18, 19, 20, 21, 22, 23, 24, 25, 26, 27, 28, 29, 30, 31, 32, 33, 34, 35, 36, 37, 38, 39, 40, 41, 42, 43, 44, 45, 46, 47, 48, 49, 50, 51, 52, 53, 54, 55, 56, 57, 58, 59, 60, 61, 62, 63, 64, 65, 66, 67, 68, 69, 70, 71, 72, 73, 74, 75, 76, 77, 78, 79, 80, 81, 82, 83, 84, 85, 86, 87, 88, 89, 90, 91, 92, 93, 94, 95, 96, 97, 98, 99, 100, 101, 102, 103, 104, 105, 106, 107, 108, 109, 110, 111, 112, 113, 114, 115, 116, 117, 118, 119, 120, 121, 122, 123, 124, 125, 126, 127, 128, 129, 130, 131, 132, 133, 134, 135, 136, 138, 139, 140, 141, 142, 143, 144, 145, 146, 147, 148, 149, 150, 151, 152, 153, 154, 155, 156, 157, 158, 159, 160, 161, 162, 163, 164, 165, 166, 167, 168, 169, 170, 171, 172, 173, 174, 175, 176, 177, 178, 179, 180, 181, 182, 183, 184, 185, 186, 187, 188, 189, 190, 191, 192, 193, 194, 195, 196, 197, 198, 199]
def wrL : List Nat := [20, 21, 22, 23, 24, 25, 28, 57, 58, 60, 62, 96, 102, 138, 161, 174]
def ownL : List Nat := [33, 51, 67, 77, 88, 89, 139, 178]
def byRefL : List Nat := [138, 161, 174]
def keepL : List Nat := []
def cfg : Vm.Cfg := { wr := fun f => has wrL f, own := fun f => has ownL f, byRef := fun f => has byRefL f, keep := fun f => has keepL f, live := fun _ _ => none, lock := fun f r => if f = 28 ∧ r = 11 then [9] else if f = 102 ∧ r = 13 then [7] else [], ok := fun f => has okL f, free := fun f t => f == 102 && t == 52, orc := fun _ _ _ => none }

theorem mix : Tryz.prog.follows .mixedOrders = true := by kernel_rfl
theorem okAll : okL.all (funOk Tryz.prog cfg) = true := by kernel_rfl
theorem cfgOk : ∀ f, cfg.ok f = true → funOk Tryz.prog cfg f = true := fun f h => List.all_eq_true.1 okAll f (has_iff.1 h)
theorem cfgOrc : OrcOk Tryz.prog cfg := by
  refine ⟨fun f args bs res bs' h φ F w vs ha hm _ => ?_, fun f args bs r h => ?_⟩
  · have h2 : (none : Option (List D × List Blk)) = some (res, bs') := h
    cases h2
  · have h2 : (none : Option (List D × List Blk)) = some r := h
    cases h2

end Go.Proofs.YtffgjmfkkfinlaaGreat
