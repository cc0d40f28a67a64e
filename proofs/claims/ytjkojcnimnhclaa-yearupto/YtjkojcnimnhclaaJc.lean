/-
  Texts that the last one of this claim leans on (part 3).
-/
import Derived.Laws.StructEq
import Derived.Test.YtjkojcnimnhclaaChecked
import Derived.Test.YtjkojcnimnhclaaJb

/-
  The machine of values, step by step: calls, loops, lists that grow.
-/
namespace Go.Proofs.Ytjkojcnimnhclaa
namespace Vm
open Go Go.RowKit

/-! Slices as lists -/
/-- A slice that nobody writes, as a list of what its elements are. -/
inductive Sl (α : Type) where
  | nil
  | l (cap : Option Nat) (xs : List α)
def Sl.xs {α : Type} : Sl α → List α
  | .nil => []
  | .l _ xs => xs
def Sl.d {α : Type} (f : α → List D) : Sl α → D
  | .nil => nilS
  | .l c xs => .l c (xs.map f)
abbrev Sl.len {α : Type} (x : Sl α) : Nat := x.xs.length
@[go_sem] theorem Sl.xs_nil {α : Type} : (Sl.nil : Sl α).xs = [] := rfl
@[go_sem] theorem Sl.xs_l {α : Type} (c : Option Nat) (xs : List α) : (Sl.l c xs).xs = xs := rfl

section
variable {α : Type} {f : α → List D}
/-! Values without addresses of the machine's -/
def calmA : D → Bool
  | .s _ | .l .. | .q _ => true
  | _ => false
def calmL : List D → Bool
  | [] => true
  | d :: r => calmA d && calmL r
def calm : D → Bool
  | .g cs => calmL cs
  | .f _ [] [] => true
  | d => calmA d
def calms : List D → Bool
  | [] => true
  | d :: r => calm d && calms r
@[go_sem] theorem calmA_s (v : Value) : calmA (.s v) = true := rfl
@[go_sem] theorem calmA_l (c : Option Nat) (es : List (List D)) : calmA (.l c es) = true := rfl
@[go_sem] theorem calmA_q (cs : List D) : calmA (.q cs) = true := rfl
@[go_sem] theorem calmA_nil : calmA nilS = true := rfl
@[go_sem] theorem calmA_sl (x : Sl α) : calmA (x.d f) = true := by cases x <;> rfl
@[go_sem] theorem calmA_a (id lo n z : Nat) : calmA (.a id lo n z) = false := rfl
@[go_sem] theorem calm_a (id lo n z : Nat) : calm (.a id lo n z) = false := rfl
@[go_sem] theorem calmA_p (id i off : Nat) : calmA (.p id i off) = false := rfl
@[go_sem] theorem calm_p (id i off : Nat) : calm (.p id i off) = false := rfl
@[go_sem] theorem calm_s (v : Value) : calm (.s v) = true := rfl
@[go_sem] theorem calm_l (c : Option Nat) (es : List (List D)) : calm (.l c es) = true := rfl
@[go_sem] theorem calm_q (cs : List D) : calm (.q cs) = true := rfl
@[go_sem] theorem calm_nil : calm nilS = true := rfl
@[go_sem] theorem calm_g (cs : List D) : calm (.g cs) = calmL cs := rfl
@[go_sem] theorem calm_f (fn : Fn) : calm (.f fn [] []) = true := rfl
@[go_sem] theorem calm_sl (x : Sl α) : calm (x.d f) = true := by cases x <;> rfl
@[go_sem] theorem calmL_nil : calmL [] = true := rfl
@[go_sem] theorem calmL_cons (d : D) (r : List D) : calmL (d :: r) = (calmA d && calmL r) := rfl
@[go_sem] theorem calms_nil : calms [] = true := rfl
@[go_sem] theorem calms_cons (d : D) (r : List D) : calms (d :: r) = (calm d && calms r) := rfl
@[go_sem] theorem cells_sl (x : Sl α) : cellsOf (x.d f) = some [x.d f] := by cases x <;> rfl
@[go_sem] theorem pure_sl (x : Sl α) : isPure (x.d f) = true := by cases x <;> rfl
@[go_sem] theorem pure_nil : isPure nilS = true := rfl
@[go_sem] theorem lenD_sl (x : Sl α) : lenD (x.d f) = some x.xs.length := by
  cases x with
  | nil => rfl
  | l c xs => simp only [Sl.d, lenD, Sl.xs, List.length_map]
theorem lenK_sl {P : Program} (t : TypeId) (h : lenS P t = true) (x : Sl α) : lenK P t (x.d f) = some (.s (.int .i64 x.xs.length)) := by
  have e : lenT P t (x.d f) = lenS P t := by cases x <;> rfl
  simp only [lenK, e, h, if_true, lenD_sl]
@[go_sem] theorem ixL_sl (x : Sl α) (m i : Nat) : ixL (some m) (x.d f) (i : Int) = qOf m ((x.xs[i]?).map f) := by
  cases x with
  | nil => simp [ixL, Sl.d, nilS, Sl.xs, qOf]
  | l c xs => simp only [Sl.d]; rw [ixL_nat, List.getElem?_map]; rfl

theorem frz_calm {dr : Bool} {hp : List (Nat × Blk)} {d : D} (h : calmA d = true) : frz dr hp d = some (d, hp) := by
  cases d <;> first | rfl | (simp [calmA] at h)
theorem frzs_calm {dr : Bool} {hp : List (Nat × Blk)} : ∀ {ds : List D}, calmL ds = true → frzs dr hp ds = some (ds, hp)
  | [], _ => rfl
  | d :: r, h => by
    simp only [calmL, Bool.and_eq_true] at h
    simp only [frzs, frz_calm h.1, frzs_calm h.2]
theorem frzG_calm {dr : Bool} {hp : List (Nat × Blk)} {d : D} (h : calm d = true) : frzG dr hp d = some (d, hp) := by
  cases d with
  | g cs => simp only [calm] at h; simp only [frzG, frzs_calm h]
  | f fn x y => rfl
  | _ => simp only [calm] at h; simp only [frzG]; exact frz_calm h
theorem frzGs_calm {dr : Bool} {hp : List (Nat × Blk)} : ∀ {ds : List D}, calms ds = true → frzGs dr hp ds = some (ds, hp)
  | [], _ => rfl
  | d :: r, h => by
    simp only [calms, Bool.and_eq_true] at h
    simp only [frzGs, frzG_calm h.1, frzGs_calm h.2]
theorem refsA_calm {d : D} (h : calmA d = true) : refsA d = [] := by
  cases d <;> first | rfl | (simp [calmA] at h)
theorem refsL_calm : ∀ {ds : List D}, calmL ds = true → refsL ds = []
  | [], _ => rfl
  | d :: r, h => by
    simp only [calmL, Bool.and_eq_true] at h
    simp only [refsL, refsA_calm h.1, refsL_calm h.2, List.append_nil]
theorem refs_calm {d : D} (h : calm d = true) : refs d = [] := by
  cases d with
  | g cs => simp only [calm] at h; simp only [refs, refsG, refsL_calm h]
  | t _ => simp [calm, calmA] at h
  | f _ x y => cases x <;> cases y <;> first | rfl | (simp [calm, calmA] at h)
  | _ => simp only [calm] at h; simp only [refs, refsG]; exact refsA_calm h
theorem refsLL_calm : ∀ {ds : List D}, calms ds = true → refsLL ds = []
  | [], _ => rfl
  | d :: r, h => by
    simp only [calms, Bool.and_eq_true] at h
    simp only [refsLL, refs_calm h.1, refsLL_calm h.2, List.append_nil]
theorem renA_calm {ρ : List (Nat × Nat)} {d : D} (h : calmA d = true) : renA ρ d = d := by
  cases d <;> first | rfl | (simp [calmA] at h)
theorem renL_calm {ρ : List (Nat × Nat)} : ∀ {ds : List D}, calmL ds = true → ds.map (renA ρ) = ds
  | [], _ => rfl
  | d :: r, h => by
    simp only [calmL, Bool.and_eq_true] at h
    simp only [List.map_cons, renA_calm h.1, renL_calm h.2]
theorem ren_calm {ρ : List (Nat × Nat)} {d : D} (h : calm d = true) : ren ρ d = d := by
  cases d with
  | g cs => simp only [calm] at h; simp only [ren, renG, renL_calm h]
  | t _ => simp [calm, calmA] at h
  | f _ x y => cases x <;> cases y <;> first | rfl | (simp [calm, calmA] at h)
  | _ => simp only [calm] at h; simp only [ren, renG]; exact renA_calm h
theorem rens_calm {ρ : List (Nat × Nat)} : ∀ {ds : List D}, calms ds = true → ds.map (ren ρ) = ds
  | [], _ => rfl
  | d :: r, h => by
    simp only [calms, Bool.and_eq_true] at h
    simp only [List.map_cons, ren_calm h.1, rens_calm h.2]
theorem reach_nil (hp : List (Nat × Blk)) (n : Nat) (seen : List Nat) : reach hp n [] seen = seen := by
  cases n <;> rfl
/-- A block that holds no address of the machine's. -/
def cb (b : Blk) : Bool := b.pu || (match b.es with | [cs] => calms cs | _ => false)
@[go_sem] theorem cb_lit (cs : List D) (a u : Bool) (md : Nat) (cp : Option Nat) : cb ⟨[cs], a, md, u, cp⟩ = (u || calms cs) := rfl
@[go_sem] theorem cb_pu (es : List (List D)) (a : Bool) (md : Nat) (cp : Option Nat) : cb ⟨es, a, md, true, cp⟩ = true := rfl
theorem calms_noA0 : ∀ {cs : List D}, calmL cs = true → noA.noA0 cs = true
  | [], _ => rfl
  | d :: r, h => by
    simp only [calmL, Bool.and_eq_true] at h
    cases d <;> first | (simp only [noA.noA0]; exact calms_noA0 h.2) | (simp [calmA] at h)
theorem calms_noA : ∀ {cs : List D}, calms cs = true → noA cs = true
  | [], _ => rfl
  | d :: r, h => by
    simp only [calms, Bool.and_eq_true] at h
    have ih := calms_noA h.2
    cases d with
    | g cs => simp only [calm] at h; simp only [noA, calms_noA0 h.1, ih, Bool.and_self]
    | a _ _ _ _ => simp [calm, calmA] at h
    | _ => simp only [noA, ih]
theorem calms_refsGLf : ∀ {cs : List D}, calms cs = true → refsE.refsGLf cs = []
  | [], _ => rfl
  | d :: r, h => by
    simp only [calms, Bool.and_eq_true] at h
    simp only [refsE.refsGLf, refs_calm h.1, calms_refsGLf h.2, List.append_nil]
theorem cb_cases {b : Blk} (h : cb b = true) : b.pu = true ∨ ∃ cs, b.es = [cs] ∧ calms cs = true := by
  unfold cb at h
  cases hp : b.pu with
  | true => exact .inl rfl
  | false =>
    rw [hp, Bool.false_or] at h
    right
    split at h
    · rename_i cs he; exact ⟨cs, he, h⟩
    · cases h
theorem cb_refs {b : Blk} (h : cb b = true) : refsB b = [] := by
  rcases cb_cases h with h | ⟨cs, he, hc⟩
  · simp only [refsB, h, if_true]
  · unfold refsB
    split
    · rfl
    · rw [he]; simp only [refsE, calms_refsGLf hc, List.append_nil]
theorem cb_renB {ρ : List (Nat × Nat)} {b : Blk} (h : cb b = true) : renB ρ b = b := by
  unfold renB
  split
  · rfl
  · rename_i hp
    rcases cb_cases h with h | ⟨cs, he, hc⟩
    · exact absurd h hp
    · obtain ⟨es, arr, md, pu, cp⟩ := b
      simp only at he
      subst he
      simp only [List.map_cons, List.map_nil, rens_calm hc]
theorem cb_frz {hp : List (Nat × Blk)} {id : Nat} {r : List Nat} (h : cb (rdH hp id) = true) : callD.frzBs false hp (id :: r) = callD.frzBs false hp r := by
  rcases cb_cases h with h | ⟨cs, he, hc⟩
  · simp only [callD.frzBs, h, Bool.true_or, if_true, ite_self]
  · simp only [callD.frzBs, he, frzGs_calm hc, calms_noA hc, and_self, if_true, ite_self]
theorem reach_one {hp : List (Nat × Blk)} {id : Nat} (hp1 : cb (rdH hp id) = true) (hm : (rdH hp id).md = 0 ∨ (rdH hp id).md = 1) : reach hp fuel [id] [] = [id] := by
  have h1 : ¬ 1 < (rdH hp id).md := by omega
  simp only [fuel, reach, has, h1, cb_refs hp1, decide_false, Bool.or_self, Bool.false_eq_true, if_false, List.nil_append, reach_nil]
theorem renB_pure {ρ : List (Nat × Nat)} {b : Blk} (h : b.pu = true) : renB ρ b = b := by simp only [renB, h, if_true]

/-! Freezing, step by step -/
def fzC (dr : Bool) (r : List D) (x : Option (D × List (Nat × Blk))) : Option (List D × List (Nat × Blk)) := match x with
  | some (d', hp1) => (match frzGs dr hp1 r with
    | some (r', hp2) => some (d' :: r', hp2)
    | none => none)
  | none => none
def fzE (d : D) (x : Option (List D × List (Nat × Blk))) : Option (List D × List (Nat × Blk)) := match x with
  | some (r', hp2) => some (d :: r', hp2)
  | none => none
def fzL (dr : Bool) (r : List D) (x : Option (D × List (Nat × Blk))) : Option (List D × List (Nat × Blk)) := match x with
  | some (d', hp1) => fzE d' (frzs dr hp1 r)
  | none => none
def fzG (x : Option (List D × List (Nat × Blk))) : Option (D × List (Nat × Blk)) := match x with
  | some (cs', hp') => some (.g cs', hp')
  | none => none
@[go_sem] theorem frzGs_nil (dr : Bool) (hp : List (Nat × Blk)) : frzGs dr hp [] = some ([], hp) := rfl
@[go_sem] theorem frzGs_cons (dr : Bool) (hp : List (Nat × Blk)) (d : D) (r : List D) : frzGs dr hp (d :: r) = fzC dr r (frzG dr hp d) := rfl
@[go_sem] theorem fzC_some (dr : Bool) (hp : List (Nat × Blk)) (d : D) (r : List D) : fzC dr r (some (d, hp)) = fzE d (frzGs dr hp r) := rfl
@[go_sem] theorem fzE_some (hp : List (Nat × Blk)) (d : D) (r : List D) : fzE d (some (r, hp)) = some (d :: r, hp) := rfl
@[go_sem] theorem frzG_g (dr : Bool) (hp : List (Nat × Blk)) (cs : List D) : frzG dr hp (.g cs) = fzG (frzs dr hp cs) := rfl
@[go_sem] theorem fzG_some (hp : List (Nat × Blk)) (cs : List D) : fzG (some (cs, hp)) = some (.g cs, hp) := rfl
@[go_sem] theorem frzs_nil (dr : Bool) (hp : List (Nat × Blk)) : frzs dr hp [] = some ([], hp) := rfl
@[go_sem] theorem frzs_cons (dr : Bool) (hp : List (Nat × Blk)) (d : D) (r : List D) : frzs dr hp (d :: r) = fzL dr r (frz dr hp d) := rfl
@[go_sem] theorem fzL_some (dr : Bool) (hp : List (Nat × Blk)) (d : D) (r : List D) : fzL dr r (some (d, hp)) = fzE d (frzs dr hp r) := rfl
@[go_sem] theorem frzG_s (dr : Bool) (hp : List (Nat × Blk)) (v : Value) : frzG dr hp (.s v) = some (.s v, hp) := rfl
@[go_sem] theorem frzG_l (dr : Bool) (hp : List (Nat × Blk)) (c : Option Nat) (es : List (List D)) : frzG dr hp (.l c es) = some (.l c es, hp) := rfl
@[go_sem] theorem frzG_p (dr : Bool) (hp : List (Nat × Blk)) (a b c : Nat) : frzG dr hp (.p a b c) = some (.p a b c, hp) := rfl
@[go_sem] theorem frzG_q (dr : Bool) (hp : List (Nat × Blk)) (cs : List D) : frzG dr hp (.q cs) = some (.q cs, hp) := rfl
@[go_sem] theorem frzG_f (dr : Bool) (hp : List (Nat × Blk)) (fn : Fn) (x y : List D) : frzG dr hp (.f fn x y) = some (.f fn x y, hp) := rfl
@[go_sem] theorem frzG_nilS (dr : Bool) (hp : List (Nat × Blk)) : frzG dr hp nilS = some (nilS, hp) := rfl
@[go_sem] theorem frzG_sl (dr : Bool) (hp : List (Nat × Blk)) (x : Sl α) : frzG dr hp (x.d f) = some (x.d f, hp) := by cases x <;> rfl
@[go_sem] theorem frzG_a (dr : Bool) (hp : List (Nat × Blk)) (id lo n z : Nat) : frzG dr hp (.a id lo n z) = frz dr hp (.a id lo n z) := rfl
@[go_sem] theorem frz_s (dr : Bool) (hp : List (Nat × Blk)) (v : Value) : frz dr hp (.s v) = some (.s v, hp) := rfl
@[go_sem] theorem frz_l (dr : Bool) (hp : List (Nat × Blk)) (c : Option Nat) (es : List (List D)) : frz dr hp (.l c es) = some (.l c es, hp) := rfl
@[go_sem] theorem frz_p (dr : Bool) (hp : List (Nat × Blk)) (a b c : Nat) : frz dr hp (.p a b c) = some (.p a b c, hp) := rfl
@[go_sem] theorem frz_q (dr : Bool) (hp : List (Nat × Blk)) (cs : List D) : frz dr hp (.q cs) = some (.q cs, hp) := rfl
@[go_sem] theorem frz_nilS (dr : Bool) (hp : List (Nat × Blk)) : frz dr hp nilS = some (nilS, hp) := rfl
@[go_sem] theorem frz_sl (dr : Bool) (hp : List (Nat × Blk)) (x : Sl α) : frz dr hp (x.d f) = some (x.d f, hp) := by cases x <;> rfl
/-- A list that grows: where it stands (its block's name is `K` or more, and less than `N`). -/
def Acc (hp : List (Nat × Blk)) (K N n : Nat) (es : List (List D)) (d : D) : Prop := (d = nilS ∧ es = []) ∨ ∃ id, K ≤ id ∧ id < N ∧ es ≠ [] ∧ d = .a id 0 es.length n ∧ rdH hp id = ⟨es, true, 0, true, none⟩
/-- What it is where it is handed out. -/
def accD (es : List (List D)) : D → D
  | .a .. => .l none es
  | d => d
def accF (hp : List (Nat × Blk)) : D → List (Nat × Blk)
  | .a id .. => (id, { rdH hp id with md := 1 }) :: hp
  | _ => hp
def accH (hp : List (Nat × Blk)) : D → List (Nat × Blk)
  | .a id .. => (id, { rdH hp id with md := 2 }) :: hp
  | _ => hp
/-- A list that was gathered, one by one. -/
def accS {α : Type} : List α → Sl α
  | [] => .nil
  | x :: r => .l none (x :: r)
@[go_sem] theorem accS_xs {α : Type} (l : List α) : (accS l).xs = l := by cases l <;> rfl
theorem frz_acc {hp : List (Nat × Blk)} {K N n : Nat} {es : List (List D)} {d : D} (h : Acc hp K N n es d) : frz false hp d = some (accD es d, accF hp d) := by
  rcases h with ⟨rfl, rfl⟩ | ⟨id, _, _, _, rfl, hb⟩
  · rfl
  · simp only [frz, hb, accD, accF, Nat.zero_add, Nat.le_refl, and_self, if_true, Bool.false_eq_true, if_false, List.drop_zero, List.take_length]
theorem frzG_acc {hp : List (Nat × Blk)} {K N n : Nat} {es : List (List D)} {d : D} (h : Acc hp K N n es d) : frzG false hp d = some (accD es d, accF hp d) := by
  have e := frz_acc h
  rcases h with ⟨rfl, rfl⟩ | ⟨id, _, _, _, rfl, hb⟩ <;> exact e
theorem rdH_accF {hp : List (Nat × Blk)} {K N n j : Nat} {es : List (List D)} {d : D} (h : Acc hp K N n es d) (hj : j < K) : rdH (accF hp d) j = rdH hp j := by
  rcases h with ⟨rfl, rfl⟩ | ⟨id, hk, _, _, rfl, hb⟩
  · rfl
  · have : id ≠ j := by omega
    simp only [accF, rdH, this, if_false]
theorem rdH_accH {hp : List (Nat × Blk)} {K N n j : Nat} {es : List (List D)} {d : D} (h : Acc hp K N n es d) (hj : j < K) : rdH (accH hp d) j = rdH hp j := by
  rcases h with ⟨rfl, rfl⟩ | ⟨id, hk, _, _, rfl, hb⟩
  · rfl
  · have : id ≠ j := by omega
    simp only [accH, rdH, this, if_false]
theorem rdH_accH2 {hp : List (Nat × Blk)} {K N n j : Nat} {es : List (List D)} {d : D} (h : Acc hp K N n es d) (hj : N ≤ j) : rdH (accH hp d) j = rdH hp j := by
  rcases h with ⟨rfl, rfl⟩ | ⟨id, _, hk, _, rfl, hb⟩
  · rfl
  · have : id ≠ j := by omega
    simp only [accH, rdH, this, if_false]
theorem acc_nil (hp : List (Nat × Blk)) (K N n : Nat) : Acc hp K N n [] nilS := .inl ⟨rfl, rfl⟩
theorem acc_new {hp : List (Nat × Blk)} {K N n id len : Nat} {es : List (List D)} (h : K ≤ id) (h2 : id < N) (hl : len = es.length) (hne : es ≠ []) : Acc ((id, ⟨es, true, 0, true, none⟩) :: hp) K N n es (.a id 0 len n) :=
  .inr ⟨id, h, h2, hne, by rw [hl], by simp only [rdH, if_true]⟩
theorem acc_cons {hp : List (Nat × Blk)} {K N n j : Nat} {es : List (List D)} {d : D} (h : Acc hp K N n es d) (hj : N ≤ j) (b : Blk) : Acc ((j, b) :: hp) K N n es d := by
  rcases h with ⟨rfl, rfl⟩ | ⟨id, hk, hk2, hne, rfl, hb⟩
  · exact .inl ⟨rfl, rfl⟩
  · have : ¬ j = id := by omega
    exact .inr ⟨id, hk, hk2, hne, rfl, by simp only [rdH, this, if_false, hb]⟩
theorem acc_low {hp : List (Nat × Blk)} {K N n j : Nat} {es : List (List D)} {d : D} (h : Acc hp K N n es d) (hj : j < K) (b : Blk) : Acc ((j, b) :: hp) K N n es d := by
  rcases h with ⟨rfl, rfl⟩ | ⟨id, hk, hk2, hne, rfl, hb⟩
  · exact .inl ⟨rfl, rfl⟩
  · have : ¬ j = id := by omega
    exact .inr ⟨id, hk, hk2, hne, rfl, by simp only [rdH, this, if_false, hb]⟩
@[go_sem] theorem acc_skip {hp : List (Nat × Blk)} {K N n j : Nat} {es : List (List D)} {d : D} {b : Blk} (hj : N ≤ j) : Acc ((j, b) :: hp) K N n es d ↔ Acc hp K N n es d := by
  refine ⟨fun h => ?_, fun h => acc_cons h hj b⟩
  rcases h with h | ⟨id, hk, hk2, hne, rfl, hb⟩
  · exact .inl h
  · have : ¬ j = id := by omega
    simp only [rdH, this, if_false] at hb
    exact .inr ⟨id, hk, hk2, hne, rfl, hb⟩
theorem acc_mono {hp : List (Nat × Blk)} {K N N' n : Nat} {es : List (List D)} {d : D} (h : Acc hp K N n es d) (hj : N ≤ N') : Acc hp K N' n es d := by
  rcases h with h | ⟨id, hk, hk2, hne, rfl, hb⟩
  · exact .inl h
  · exact .inr ⟨id, hk, by omega, hne, rfl, hb⟩
theorem acc_sl {hp : List (Nat × Blk)} {K N n : Nat} {xs : List α} {d : D} (h : Acc hp K N n (xs.map f) d) : accD (xs.map f) d = (accS xs).d f := by
  rcases h with ⟨rfl, h⟩ | ⟨id, _, _, hne, rfl, _⟩
  · have : xs = [] := by simpa using h
    subst this
    rfl
  · cases xs with
    | nil => simp at hne
    | cons x r => rfl
theorem app_acc {fr : Fr} {st : St} {K N n bytes : Nat} {es new : List (List D)} {d y : D} (h : Acc st.hp K N n es d) (hk : fr.k ≤ K) (hy : peek st.hp y = some new) (hs : sizesOk n new = true) (hne : new.isEmpty = false)
    (hb : (es.length + new.length) * bytes ≤ 140737488355328) (hb' : es.length + new.length ≤ 140737488355328) :
    appendD fr n bytes st d y = some (.a st.nx 0 (es.length + new.length) n, { tm := st.tm, hp := (st.nx, ⟨es ++ new, true, 0, true, none⟩) :: accH st.hp d, nx := st.nx + 1 }) := by
  unfold appendD
  rw [hy]
  rcases h with ⟨rfl, rfl⟩ | ⟨id, hid, _, _, rfl, hr⟩
  · have e : appendD.lenOr (D.s (Value.slice none 0 0)) = 0 := rfl
    have e2 : (0 + new.length) * bytes ≤ 140737488355328 := hb
    have e3 : 0 + new.length ≤ 140737488355328 := hb'
    simp only [hs, e, e2, e3, decide_true, Bool.and_self, if_true, nilS, hne, Bool.false_eq_true, if_false, appendD.mk, accH, List.length_nil]
  · have e : appendD.lenOr (.a id 0 es.length n) = es.length := rfl
    have e2 : fr.ro = false ∨ fr.k ≤ id := .inr (by omega)
    have hl : 0 < new.length := by cases new with | nil => simp at hne | cons _ _ => simp
    have e3 : ¬ (0 + es.length + new.length ≤ es.length) := by omega
    have e4 : (0 + es.length ≤ es.length) := by omega
    have e5 : ¬ (es.length + new.length ≤ es.length) := by omega
    simp only [hs, e, hb, hb', decide_true, Bool.and_self, if_true, hr, hne, Bool.false_eq_true, if_false, e2, e5, Nat.zero_add, Nat.le_refl, Nat.reduceLT, and_self, true_or, and_true, false_and, appendD.mk, accH, List.take_length]
/-- One more. -/
theorem app_one {k nt fn : Nat} {ro : Bool} {K N n bytes : Nat} {xs : List α} {d : D} (a : α) (hf : ∀ a : α, (f a).length = n) (hk : k ≤ K) (hb : (xs.length + 1) * bytes ≤ 140737488355328) (hb' : xs.length + 1 ≤ 140737488355328) (tm : List (Nat × D)) (hp : List (Nat × Blk)) (nx : Nat) (h : Acc hp K N n (xs.map f) d) :
    appendD ⟨k, nt, fn, ro⟩ n bytes ⟨tm, hp, nx⟩ d (.l (some 1) [f a]) = some (.a nx 0 (xs.length + 1) n, ⟨tm, (nx, ⟨(xs ++ [a]).map f, true, 0, true, none⟩) :: accH hp d, nx + 1⟩) := by
  rw [app_acc (new := [f a]) h hk rfl (by simp only [sizesOk, hf, beq_self_eq_true, Bool.and_self]) rfl (by simpa using hb) (by simpa using hb')]
  simp only [List.length_map, List.length_cons, List.length_nil, Nat.zero_add, List.map_append, List.map_cons, List.map_nil]

/-! Calls -/
section
variable {P : Program} {c : Cfg} {fr : Fr} {dr : Bool} {g : Nat} {args : List D} {st : St}
attribute [go_sem] onlyS toCells callD.resD
@[go_sem] theorem toCells_nilS (r : List D) : toCells (nilS :: r) = toCells (.s (.slice none 0 0) :: r) := rfl
@[go_sem] theorem onlyS_nilS (r : List D) : onlyS (nilS :: r) = onlyS r := rfl
theorem toCells_sl (x : Sl α) (r : List D) (b : Bool) (hb : onlyS (x.d f :: r) = b) : onlyS (x.d f :: r) = b := hb

/-- Where values alone come back: what was locked for the call is told only if a slice came back. -/
def oS (dr : Bool) (hp H : List (Nat × Blk)) (tm : List (Nat × D)) (nx : Nat) (b : Bool) (res : List D) : Option (D × St) := if b = true then some (callD.resD res, ⟨tm, H, nx⟩) else if dr = true ∧ hp.length ≠ H.length then none else some (callD.resD res, ⟨tm, hp, nx⟩)
@[go_sem] theorem oS_same (hp : List (Nat × Blk)) (tm : List (Nat × D)) (nx : Nat) (b : Bool) (res : List D) : oS dr hp hp tm nx b res = some (callD.resD res, ⟨tm, hp, nx⟩) := by
  simp only [oS, ne_eq, not_true_eq_false, and_false, if_false, ite_self]
@[go_sem] theorem oS_true (hp H : List (Nat × Blk)) (tm : List (Nat × D)) (nx : Nat) (res : List D) : oS dr hp H tm nx true res = some (callD.resD res, ⟨tm, H, nx⟩) := rfl
@[go_sem] theorem oS_false (hp H : List (Nat × Blk)) (tm : List (Nat × D)) (nx : Nat) (res : List D) : oS false hp H tm nx false res = some (callD.resD res, ⟨tm, hp, nx⟩) := rfl
/-- What a call comes to, where nothing is known of it. -/
noncomputable def fbD (P : Program) (c : Cfg) (fr : Fr) (dr : Bool) (g : Nat) (args : List D) (st : St) : Option (D × St) := callD c fr dr (callI P c) g args st
/-- What a call that is handed values alone comes to. -/
noncomputable def c0 (P : Program) (c : Cfg) (fr : Fr) (dr : Bool) (g : Nat) (args : List D) (st : St) (hp : List (Nat × Blk)) (r : Option (List D × List Blk)) : Option (D × St) := match r with
  | some (res, []) => if calms res = true then (if onlyS res = true then some (callD.resD res, st) else if dr = true ∧ hp.length ≠ st.hp.length then none else some (callD.resD res, { tm := st.tm, hp := hp, nx := st.nx })) else fbD P c fr dr g args st
  | some (res, [b]) => if onlyS res = false ∧ cb b = true ∧ (dr = true → hp.length = st.hp.length) then some (callD.resD (res.map (ren [(0, st.nx)])), { tm := st.tm, hp := (st.nx, b) :: hp, nx := st.nx + 1 }) else fbD P c fr dr g args st
  | _ => fbD P c fr dr g args st
/-- What a call that is handed one block comes to. -/
noncomputable def c1 (P : Program) (c : Cfg) (fr : Fr) (dr : Bool) (g : Nat) (args : List D) (st : St) (id : Nat) (hp : List (Nat × Blk)) (r : Option (List D × List Blk)) : Option (D × St) := match r with
  | some (res, [b]) =>
    if calms res = true ∧ cb b = true ∧ (dr = true → hp.length = st.hp.length) then
      (if c.wr g = true then some (callD.resD res, { tm := st.tm, hp := (id, b) :: hp, nx := st.nx })
      else if (rdH hp id).arr = false ∧ (rdH hp id).md = b.md then oS dr hp st.hp st.tm st.nx (onlyS res) res else fbD P c fr dr g args st)
    else fbD P c fr dr g args st
  | some (res, [b, b2]) =>
    if c.wr g = true ∧ cb b = true ∧ cb b2 = true ∧ calms res = true ∧ (dr = true → hp.length = st.hp.length) then some (callD.resD res, { tm := st.tm, hp := (st.nx, b2) :: (id, b) :: hp, nx := st.nx + 1 }) else
    if onlyS res = false ∧ c.wr g = false ∧ cb b = true ∧ cb b2 = true ∧ (dr = true → hp.length = st.hp.length) ∧ (rdH hp id).arr = false ∧ (rdH hp id).md = b.md then some (callD.resD (res.map (ren [(0, id), (1, st.nx)])), { tm := st.tm, hp := (st.nx, b2) :: hp, nx := st.nx + 1 })
    else fbD P c fr dr g args st
  | _ => fbD P c fr dr g args st
/-- What a call comes to, by what its arguments reach. -/
noncomputable def cZ (P : Program) (c : Cfg) (fr : Fr) (dr : Bool) (g : Nat) (args : List D) (st : St) (ids : List Nat) (args' : List D) (hp : List (Nat × Blk)) : Option (D × St) := match ids with
  | [] => c0 P c fr dr g args st hp (callI P c g args' [])
  | [id] => if cb (rdH hp id) = true ∧ (rdH hp id).md < 2 ∧ (fr.ro = false ∨ c.wr g = false ∨ fr.k ≤ id) then c1 P c fr dr g args st id hp (callI P c g (args'.map (ren [(id, 0)])) [rdH hp id]) else fbD P c fr dr g args st
  | _ => fbD P c fr dr g args st
noncomputable def cF (P : Program) (c : Cfg) (fr : Fr) (dr : Bool) (g : Nat) (args : List D) (st : St) (r : Option (List D × List (Nat × Blk))) : Option (D × St) := match r with
  | some (args', hp) => if refsLL args' = [] ∧ calms args' = false then fbD P c fr dr g args st else cZ P c fr dr g args st (refsLL args') args' hp
  | none => fbD P c fr dr g args st

theorem callD_c0 {hp : List (Nat × Blk)} {args' : List D} (hb : c.byRef g = false) (hw : c.wr g = false) (hk : c.keep g = false) (hf : frzGs false st.hp args = some (args', hp)) (ha : calms args' = true) :
    callD c fr dr (callI P c) g args st = c0 P c fr dr g args st hp (callI P c g args' []) := by
  cases hr : callI P c g args' [] with
  | none => rfl
  | some q =>
    obtain ⟨res, bs⟩ := q
    have key : callD c fr dr (callI P c) g args st = (if onlyS res then some (callD.resD res, st) else
          if dr && hp.length != st.hp.length then none else
          some (callD.resD (res.map (ren (backOf st.nx 0 bs.length []))), { tm := st.tm, hp := callD.addB (backOf st.nx 0 bs.length []) 0 bs hp, nx := st.nx + (bs.length - 0) })) := by
      unfold callD
      simp only [hb, Bool.false_eq_true, if_false, hf, refsLL_calm ha, reach_nil, hw, hk, Bool.and_false, Bool.false_and, List.any_nil, callD.frzBs, pos, rens_calm ha, List.map_nil, hr, List.length_nil, List.drop_zero, callD.anyArr, callD.mds, Bool.or_self, Bool.not_false, Bool.and_true, Bool.or_false]
    cases bs with
    | nil =>
      simp only [c0]
      split
      · rename_i hc
        rw [key]
        simp only [backOf, List.length_nil, rens_calm hc, callD.addB, Nat.sub_self, Nat.add_zero]
        split
        · rfl
        · by_cases h : dr = true ∧ hp.length ≠ st.hp.length
          · rw [if_pos h]; obtain ⟨h2, h3⟩ := h; simp [h2, h3]
          · rw [if_neg h]
            have : (dr && hp.length != st.hp.length) = false := by cases dr <;> simp_all
            rw [this]; simp
      · rfl
    | cons b bs =>
      cases bs with
      | nil =>
        simp only [c0]
        split
        · rename_i hc
          obtain ⟨h1, h2, h3⟩ := hc
          have : (dr && hp.length != st.hp.length) = false := by cases dr <;> simp_all
          rw [key]
          simp only [h1, Bool.false_eq_true, if_false, this, backOf, List.length_cons, List.length_nil, callD.addB, nm, if_true, cb_renB h2]
        · rfl
      | cons b2 bs => rfl

theorem callD_c1 {hp : List (Nat × Blk)} {args' : List D} {id : Nat} (hb : c.byRef g = false) (hk : c.keep g = false) (hf : frzGs false st.hp args = some (args', hp)) (ha : refsLL args' = [id]) (hp1 : cb (rdH hp id) = true) (hm : (rdH hp id).md < 2) (hro : fr.ro = false ∨ c.wr g = false ∨ fr.k ≤ id) :
    callD c fr dr (callI P c) g args st = c1 P c fr dr g args st id hp (callI P c g (args'.map (ren [(id, 0)])) [rdH hp id]) := by
  have hids : reach hp fuel [id] [] = [id] := reach_one hp1 (by omega)
  have hany : (fr.ro && c.wr g && ([id] : List Nat).any (fun x => decide (x < fr.k))) = false := by
    rcases hro with h | h | h
    · simp [h]
    · simp [h]
    · have : ¬ id < fr.k := by omega
      simp [this]
  have hfz : callD.frzBs false hp [id] = some hp := by
    rw [cb_frz hp1]; rfl
  cases hr : callI P c g (args'.map (ren [(id, 0)])) [rdH hp id] with
  | none => rfl
  | some q =>
    obtain ⟨res, bs⟩ := q
    have key : callD c fr dr (callI P c) g args st = (if onlyS res && !c.wr g then some (callD.resD res, st) else
          if dr && (hp.length != st.hp.length) then none else
          if c.wr g then some (callD.resD (res.map (ren (backOf st.nx 0 bs.length [id]))), { tm := st.tm, hp := callD.addB (backOf st.nx 0 bs.length [id]) 0 bs hp, nx := st.nx + (bs.length - 1) })
          else if callD.anyArr hp [id] || callD.mds hp [id] bs then none
          else some (callD.resD (res.map (ren (backOf st.nx 0 bs.length [id]))), { tm := st.tm, hp := callD.addB (backOf st.nx 0 bs.length [id]) 1 (bs.drop 1) hp, nx := st.nx + (bs.length - 1) })) := by
      unfold callD
      simp only [hb, Bool.false_eq_true, if_false, hf, ha, hids, hany, hk, hfz, pos, List.map_cons, List.map_nil, cb_renB hp1, hr, Bool.or_false, List.length_cons, List.length_nil, Nat.zero_add]
    have hmds : ∀ b : Blk, (callD.mds hp [id] [b]) = ((rdH hp id).md != b.md) := fun b => by simp [callD.mds]
    have hmds2 : ∀ b b2 : Blk, (callD.mds hp [id] [b, b2]) = ((rdH hp id).md != b.md) := fun b b2 => by simp [callD.mds]
    have hany2 : callD.anyArr hp [id] = (rdH hp id).arr := by simp [callD.anyArr]
    cases bs with
    | nil => rfl
    | cons b bs =>
      cases bs with
      | nil =>
        simp only [c1]
        split
        · rename_i hc
          obtain ⟨hcalm, hbp, hdr⟩ := hc
          have hd : (dr && hp.length != st.hp.length) = false := by cases dr <;> simp_all
          cases hw : c.wr g with
          | true =>
            rw [key]
            simp only [hw, hd, Bool.false_eq_true, if_false, rens_calm hcalm, backOf, List.length_cons, List.length_nil, callD.addB, nm, if_true, cb_renB hbp, Nat.sub_self, Nat.add_zero, Bool.not_true, Bool.and_false]
          | false =>
            simp only [Bool.false_eq_true, if_false]
            by_cases h : (rdH hp id).arr = false ∧ (rdH hp id).md = b.md
            · rw [if_pos h, key]
              cases hon : onlyS res with
              | true => simp only [hw, Bool.not_false, Bool.and_self, if_true, oS]
              | false =>
                have hd2 : ¬ (dr = true ∧ hp.length ≠ st.hp.length) := fun h => h.2 (hdr h.1)
                simp only [hw, Bool.false_and, hd, h.1, h.2, Bool.false_eq_true, if_false, rens_calm hcalm, backOf, List.length_cons, List.length_nil, callD.addB, Nat.sub_self, Nat.add_zero, hany2, hmds, bne_self_eq_false, Bool.or_self, List.drop_succ_cons, List.drop_zero, oS, hd2]
            · rw [if_neg h]; rfl
        · rfl
      | cons b2 bs =>
        cases bs with
        | nil =>
          simp only [c1]
          split
          · rename_i hc
            obtain ⟨h1, h2, h3, h4, h5⟩ := hc
            have hd : (dr && hp.length != st.hp.length) = false := by cases dr <;> simp_all
            rw [key]
            simp only [h1, Bool.not_true, Bool.and_false, hd, Bool.false_eq_true, if_false, if_true, backOf, List.length_cons, List.length_nil, callD.addB, nm, cb_renB h2, cb_renB h3, rens_calm h4]
            rfl
          split
          · rename_i hc
            obtain ⟨h1, h2, h3, h4, h5, h6, h7⟩ := hc
            have hd : (dr && hp.length != st.hp.length) = false := by cases dr <;> simp_all
            rw [key]
            simp only [h1, h2, hd, Bool.false_and, Bool.false_eq_true, if_false, backOf, List.length_cons, List.length_nil, callD.addB, nm, cb_renB h4, hany2, hmds2, h6, h7, bne_self_eq_false, Bool.or_self, List.drop_succ_cons, List.drop_zero]
            rfl
          · rfl
        | cons b3 bs => rfl

theorem callD_go (hb : c.byRef g = false) (hk : c.keep g = false) (hw : c.wr g = false) : callD c fr dr (callI P c) g args st = cF P c fr dr g args st (frzGs false st.hp args) := by
  cases hf : frzGs false st.hp args with
  | none => rfl
  | some q =>
    obtain ⟨args', hp⟩ := q
    simp only [cF]
    split
    · rfl
    · rename_i hne
      cases hids : refsLL args' with
      | nil =>
        simp only [cZ]
        exact callD_c0 hb hw hk hf (by rw [hids] at hne; simpa using hne)
      | cons id r =>
        cases r with
        | nil =>
          simp only [cZ]
          split
          · rename_i hc; exact callD_c1 hb hk hf hids hc.1 hc.2.1 hc.2.2
          · rfl
        | cons _ _ => rfl
theorem callD_goW (hb : c.byRef g = false) (hk : c.keep g = false) (id : Nat) (hp : List (Nat × Blk)) (args' : List D) (hf : frzGs false st.hp args = some (args', hp)) (ha : refsLL args' = [id]) (hp1 : cb (rdH hp id) = true) (hm : (rdH hp id).md < 2) (hro : fr.ro = false ∨ c.wr g = false ∨ fr.k ≤ id) :
    callD c fr dr (callI P c) g args st = c1 P c fr dr g args st id hp (callI P c g (args'.map (ren [(id, 0)])) [rdH hp id]) := callD_c1 hb hk hf ha hp1 hm hro

/-- A call of a function that writes into the one block that it is handed. -/
noncomputable def cW (P : Program) (c : Cfg) (fr : Fr) (dr : Bool) (g : Nat) (args : List D) (st : St) (r : Option (List D × List (Nat × Blk))) : Option (D × St) := match r with
  | some (args', hp) => (match refsLL args' with
    | [id] => if cb (rdH hp id) = true ∧ (rdH hp id).md < 2 ∧ (fr.ro = false ∨ c.wr g = false ∨ fr.k ≤ id) then c1 P c fr dr g args st id hp (callI P c g (args'.map (ren [(id, 0)])) [rdH hp id]) else fbD P c fr dr g args st
    | _ => fbD P c fr dr g args st)
  | none => fbD P c fr dr g args st
theorem callD_w (hb : c.byRef g = false) (hk : c.keep g = false) (_hw : c.wr g = true) : callD c fr dr (callI P c) g args st = cW P c fr dr g args st (frzGs false st.hp args) := by
  cases hf : frzGs false st.hp args with
  | none => rfl
  | some q =>
    obtain ⟨args', hp⟩ := q
    simp only [cW]
    split
    · rename_i id hids
      split
      · rename_i hc; exact callD_c1 hb hk hf hids hc.1 hc.2.1 hc.2.2
      · rfl
    · rfl
/-! Equations to go on with -/
noncomputable def cW1 (P : Program) (c : Cfg) (fr : Fr) (dr : Bool) (g : Nat) (args : List D) (st : St) (args' : List D) (hp : List (Nat × Blk)) (ids : List Nat) : Option (D × St) := match ids with
    | [id] => if cb (rdH hp id) = true ∧ (rdH hp id).md < 2 ∧ (fr.ro = false ∨ c.wr g = false ∨ fr.k ≤ id) then c1 P c fr dr g args st id hp (callI P c g (args'.map (ren [(id, 0)])) [rdH hp id]) else fbD P c fr dr g args st
    | _ => fbD P c fr dr g args st
@[go_sem] theorem cW_some (args' : List D) (hp : List (Nat × Blk)) : cW P c fr dr g args st (some (args', hp)) = cW1 P c fr dr g args st args' hp (refsLL args') := by
  unfold cW cW1
  rfl
@[go_sem] theorem cW1_one (id : Nat) (args' : List D) (hp : List (Nat × Blk)) : cW1 P c fr dr g args st args' hp [id] = if cb (rdH hp id) = true ∧ (rdH hp id).md < 2 ∧ (fr.ro = false ∨ c.wr g = false ∨ fr.k ≤ id) then c1 P c fr dr g args st id hp (callI P c g (args'.map (ren [(id, 0)])) [rdH hp id]) else fbD P c fr dr g args st := rfl

@[go_sem] theorem cF_some (args' : List D) (hp : List (Nat × Blk)) : cF P c fr dr g args st (some (args', hp)) = if refsLL args' = [] ∧ calms args' = false then fbD P c fr dr g args st else cZ P c fr dr g args st (refsLL args') args' hp := rfl
@[go_sem] theorem cZ_nil (args' : List D) (hp : List (Nat × Blk)) : cZ P c fr dr g args st [] args' hp = c0 P c fr dr g args st hp (callI P c g args' []) := rfl
@[go_sem] theorem cZ_one (id : Nat) (args' : List D) (hp : List (Nat × Blk)) : cZ P c fr dr g args st [id] args' hp = if cb (rdH hp id) = true ∧ (rdH hp id).md < 2 ∧ (fr.ro = false ∨ c.wr g = false ∨ fr.k ≤ id) then c1 P c fr dr g args st id hp (callI P c g (args'.map (ren [(id, 0)])) [rdH hp id]) else fbD P c fr dr g args st := rfl
@[go_sem] theorem c0_nil (hp : List (Nat × Blk)) (res : List D) : c0 P c fr dr g args st hp (some (res, [])) = if calms res = true then oS dr hp st.hp st.tm st.nx (onlyS res) res else fbD P c fr dr g args st := rfl
@[go_sem] theorem c0_one (hp : List (Nat × Blk)) (res : List D) (b : Blk) : c0 P c fr dr g args st hp (some (res, [b])) = if onlyS res = false ∧ cb b = true ∧ (dr = true → hp.length = st.hp.length) then some (callD.resD (res.map (ren [(0, st.nx)])), { tm := st.tm, hp := (st.nx, b) :: hp, nx := st.nx + 1 }) else fbD P c fr dr g args st := rfl
@[go_sem] theorem c1_one (id : Nat) (hp : List (Nat × Blk)) (res : List D) (b : Blk) : c1 P c fr dr g args st id hp (some (res, [b])) =
    if calms res = true ∧ cb b = true ∧ (dr = true → hp.length = st.hp.length) then
      (if c.wr g = true then some (callD.resD res, { tm := st.tm, hp := (id, b) :: hp, nx := st.nx })
      else if (rdH hp id).arr = false ∧ (rdH hp id).md = b.md then oS dr hp st.hp st.tm st.nx (onlyS res) res else fbD P c fr dr g args st)
    else fbD P c fr dr g args st := rfl
@[go_sem] theorem c1_two (id : Nat) (hp : List (Nat × Blk)) (res : List D) (b b2 : Blk) : c1 P c fr dr g args st id hp (some (res, [b, b2])) =
    if c.wr g = true ∧ cb b = true ∧ cb b2 = true ∧ calms res = true ∧ (dr = true → hp.length = st.hp.length) then some (callD.resD res, { tm := st.tm, hp := (st.nx, b2) :: (id, b) :: hp, nx := st.nx + 1 }) else
    if onlyS res = false ∧ c.wr g = false ∧ cb b = true ∧ cb b2 = true ∧ (dr = true → hp.length = st.hp.length) ∧ (rdH hp id).arr = false ∧ (rdH hp id).md = b.md then some (callD.resD (res.map (ren [(0, id), (1, st.nx)])), { tm := st.tm, hp := (st.nx, b2) :: hp, nx := st.nx + 1 })
    else fbD P c fr dr g args st := rfl
end
end
end Vm
end Go.Proofs.Ytjkojcnimnhclaa

/-
  The machine of values, step by step: what a function hands out; loops; more operations.
-/
namespace Go.Proofs.Ytjkojcnimnhclaa
namespace Vm
open Go Go.RowKit

section
variable {P : Program} {c : Cfg} {fr : Fr} {st : St} {α : Type} {f : α → List D}
@[go_sem] theorem refsLL_nil : refsLL [] = [] := rfl
@[go_sem] theorem refsLL_cons (d : D) (r : List D) : refsLL (d :: r) = refs d ++ refsLL r := rfl
@[go_sem] theorem refs_s (v : Value) : refs (.s v) = [] := rfl
@[go_sem] theorem refs_l (cp : Option Nat) (es : List (List D)) : refs (.l cp es) = [] := rfl
@[go_sem] theorem refs_q (cs : List D) : refs (.q cs) = [] := rfl
@[go_sem] theorem refs_nilS : refs nilS = [] := rfl
@[go_sem] theorem refs_sl (x : Sl α) : refs (x.d f) = [] := by cases x <;> rfl
@[go_sem] theorem refs_p (id i off : Nat) : refs (.p id i off) = [id] := rfl
@[go_sem] theorem refs_a (id lo n z : Nat) : refs (.a id lo n z) = [id] := rfl
@[go_sem] theorem refs_f (fn : Fn) : refs (.f fn [] []) = [] := rfl
@[go_sem] theorem ren_f (ρ : List (Nat × Nat)) (fn : Fn) : ren ρ (.f fn [] []) = .f fn [] [] := rfl
@[go_sem] theorem refs_g (cs : List D) : refs (.g cs) = refsL cs := rfl
@[go_sem] theorem refsL_nil : refsL [] = [] := rfl
@[go_sem] theorem refsL_cons (d : D) (r : List D) : refsL (d :: r) = refsA d ++ refsL r := rfl
@[go_sem] theorem refsA_s (v : Value) : refsA (.s v) = [] := rfl
@[go_sem] theorem refsA_l (cp : Option Nat) (es : List (List D)) : refsA (.l cp es) = [] := rfl
@[go_sem] theorem refsA_q (cs : List D) : refsA (.q cs) = [] := rfl
@[go_sem] theorem refsA_nilS : refsA nilS = [] := rfl
@[go_sem] theorem refsA_sl (x : Sl α) : refsA (x.d f) = [] := by cases x <;> rfl
@[go_sem] theorem refsA_p (id i off : Nat) : refsA (.p id i off) = [id] := rfl
@[go_sem] theorem nm_nil (j : Nat) : nm [] j = none := rfl
@[go_sem] theorem nm_cons (i v j : Nat) (m : List (Nat × Nat)) : nm ((i, v) :: m) j = if i = j then some v else nm m j := rfl
def rnP (i off : Nat) : Option Nat → D
  | some x => .p x i off
  | none => .u
@[go_sem] theorem rnP_some (i off x : Nat) : rnP i off (some x) = .p x i off := rfl
@[go_sem] theorem ren_p (ρ : List (Nat × Nat)) (id i off : Nat) : ren ρ (.p id i off) = rnP i off (nm ρ id) := by
  simp only [ren, renG, renA]
  unfold rnP
  cases nm ρ id <;> rfl
@[go_sem] theorem ren_s (ρ : List (Nat × Nat)) (v : Value) : ren ρ (.s v) = .s v := rfl
@[go_sem] theorem ren_l (ρ : List (Nat × Nat)) (cp : Option Nat) (es : List (List D)) : ren ρ (.l cp es) = .l cp es := rfl
@[go_sem] theorem ren_q (ρ : List (Nat × Nat)) (cs : List D) : ren ρ (.q cs) = .q cs := rfl
@[go_sem] theorem ren_nilS (ρ : List (Nat × Nat)) : ren ρ nilS = nilS := rfl
@[go_sem] theorem ren_sl (ρ : List (Nat × Nat)) (x : Sl α) : ren ρ (x.d f) = x.d f := by cases x <;> rfl
@[go_sem] theorem ren_g (ρ : List (Nat × Nat)) (cs : List D) (h : calmL cs = true) : ren ρ (.g cs) = .g cs := ren_calm h
@[go_sem] theorem onlyS_sl (x : Sl α) (cp : Option Nat) (xs : List α) (r : List D) (h : x = .l cp xs) : onlyS (x.d f :: r) = false := by subst h; rfl

/-! What a function hands out -/
noncomputable def fbL (c : Cfg) (fr : Fr) (st : St) (res : List D) : Option (List D × List Blk) := leave c fr st res
noncomputable def lK (c : Cfg) (fr : Fr) (st : St) (res : List D) (k : Nat) (ids : List Nat) (res' : List D) (hp : List (Nat × Blk)) : Option (List D × List Blk) := match k, ids with
  | 0, [] => if calms res' = true then some (res', []) else fbL c fr st res
  | 1, [] => if calms res' = true ∧ cb (rdH hp 0) = true then some (res', [rdH hp 0]) else fbL c fr st res
  | 0, [id] => if cb (rdH hp id) = true ∧ (rdH hp id).md < 2 then some (res'.map (ren [(id, 0)]), [rdH hp id]) else fbL c fr st res
  | 1, [id] => if cb (rdH hp 0) = true ∧ cb (rdH hp id) = true ∧ (rdH hp id).md < 2 ∧ id ≠ 0 then some (res'.map (ren [(0, 0), (id, 1)]), [rdH hp 0, rdH hp id]) else fbL c fr st res
  | _, _ => fbL c fr st res
noncomputable def lF (c : Cfg) (fr : Fr) (st : St) (res : List D) (r : Option (List D × List (Nat × Blk))) : Option (List D × List Blk) := match r with
  | some (res', hp) => if refsLL res' = [] ∧ calms res' = false then fbL c fr st res else lK c fr st res fr.k (refsLL res') res' hp
  | none => none
theorem leave_ids {res res' : List D} {hp : List (Nat × Blk)} {ids : List Nat} (ho : c.own fr.fn = false) (hk : c.keep fr.fn = false) (hf : frzGs false st.hp res = some (res', hp))
    (hr : reach hp fuel (refsBs hp (upto fr.k 0) ++ refsLL res') (upto fr.k 0) = ids) (hz : ∀ id ∈ ids, cb (rdH hp id) = true) : leave c fr st res = some (res'.map (ren (pos 0 ids)), ids.map (rdH hp)) := by
  have hz2 : ∀ ids : List Nat, (∀ id ∈ ids, cb (rdH hp id) = true) → callD.frzBs false hp ids = some hp := by
    intro ids
    induction ids with
    | nil => intro _; rfl
    | cons id r ih =>
      intro h
      rw [cb_frz (h id (by simp)), ih (fun x hx => h x (by simp [hx]))]
  unfold leave
  rw [ho, hk]
  simp only [Bool.false_eq_true, if_false, hf, hr, hz2 ids hz]
  congr 2
  exact List.map_congr_left fun id hid => cb_renB (hz id hid)
theorem leave_go {res : List D} (ho : c.own fr.fn = false) (hk : c.keep fr.fn = false) : leave c fr st res = lF c fr st res (frzGs false st.hp res) := by
  cases hf : frzGs false st.hp res with
  | none => unfold leave; rw [ho]; simp only [Bool.false_eq_true, if_false, hf]; rfl
  | some q =>
    obtain ⟨res', hp⟩ := q
    have hb : cb (rdH hp 0) = true → refsBs hp [0] = [] := by
      intro h
      simp only [refsBs, cb_refs h, List.append_nil, ite_self]
    simp only [lF]
    by_cases hne : refsLL res' = [] ∧ calms res' = false
    · rw [if_pos hne]; rfl
    rw [if_neg hne]
    obtain ⟨k, nt, fn, ro⟩ := fr
    dsimp only at ho hk ⊢
    match k, hids : refsLL res' with
    | 0, [] =>
      have hc : calms res' = true := by rw [hids] at hne; simpa using hne
      simp only [lK, hc, if_true]
      rw [leave_ids ho hk hf (ids := []) (by rw [hids]; exact reach_nil _ _ _) (by simp)]
      simp only [pos, rens_calm hc, List.map_nil]
    | 1, [] =>
      simp only [lK]
      by_cases h : calms res' = true ∧ cb (rdH hp 0) = true
      · rw [if_pos h, leave_ids ho hk hf (ids := [0]) (by rw [hids]; show reach hp fuel (refsBs hp [0] ++ []) [0] = [0]; rw [hb h.2]; exact reach_nil _ _ _) (by simpa using h.2)]
        simp only [rens_calm h.1, List.map_cons, List.map_nil]
      · rw [if_neg h]; rfl
    | 0, [id] =>
      simp only [lK]
      by_cases h : cb (rdH hp id) = true ∧ (rdH hp id).md < 2
      · have hr := reach_one h.1 (show (rdH hp id).md = 0 ∨ (rdH hp id).md = 1 by omega)
        rw [if_pos h, leave_ids ho hk hf (ids := [id]) (by rw [hids]; exact hr) (by simpa using h.1)]
        rfl
      · rw [if_neg h]; rfl
    | 1, [id] =>
      simp only [lK]
      by_cases h : cb (rdH hp 0) = true ∧ cb (rdH hp id) = true ∧ (rdH hp id).md < 2 ∧ id ≠ 0
      · rw [if_pos h]
        obtain ⟨h1, h2, h3, h4⟩ := h
        have h5 : ¬ 1 < (rdH hp id).md := by omega
        have hr : reach hp fuel [id] [0] = [0, id] := by
          simp only [fuel, reach, has, h4, if_false, h5, cb_refs h2, decide_false, Bool.or_self, Bool.false_eq_true, List.nil_append, reach_nil]
          rfl
        rw [leave_ids ho hk hf (ids := [0, id]) (by rw [hids]; show reach hp fuel (refsBs hp [0] ++ [id]) [0] = [0, id]; rw [hb h1]; exact hr) (by simp [h1, h2])]
        rfl
      · rw [if_neg h]; rfl
    | 0, _ :: _ :: _ => rfl
    | 1, _ :: _ :: _ => rfl
    | k + 2, [] => rfl
    | k + 2, [_] => rfl
    | k + 2, _ :: _ :: _ => rfl

/-- A function that left a slice of its own in the one block that it was handed. -/
theorem leave_p1 {nt fn : Nat} {ro : Bool} {res cs cs' : List D} {j : Nat} {bj : Blk} (ho : c.own fn = false) (hk : c.keep fn = false) (hr : calms res = true) (hb : rdH st.hp 0 = ⟨[cs], false, 0, false, none⟩) (hf : frzGs false st.hp cs = some (cs', (j, bj) :: st.hp)) (hc : calms cs' = true)
    (hrefs : refsE [cs] = [j]) (hj : j ≠ 0) (hpj : (rdH st.hp j).pu = true) (hmj : (rdH st.hp j).md < 2) (hbj : bj.pu = true) : leave c ⟨1, nt, fn, ro⟩ st res = some (res, [⟨[cs'], false, 0, false, none⟩, bj]) := by
  have h0j : ¬ 0 = j := fun h => hj h.symm
  have hids : reach st.hp fuel (refsBs st.hp (upto 1 0) ++ refsLL res) (upto 1 0) = [0, j] := by
    have e1 : refsBs st.hp (upto 1 0) = [j] := by
      show refsBs st.hp [0] = [j]
      simp only [refsBs, hb, refsB, Bool.false_eq_true, if_false, Nat.zero_lt_succ, if_true, hrefs, List.append_nil]
    rw [e1, refsLL_calm hr]
    have h5 : ¬ 1 < (rdH st.hp j).md := by omega
    show reach st.hp fuel [j] [0] = [0, j]
    simp only [fuel, reach, has, hj, if_false, h5, refsB, hpj, if_true, decide_false, Bool.or_self, Bool.false_eq_true, List.nil_append, reach_nil]
    rfl
  unfold leave
  simp only [ho, hk, Bool.false_eq_true, if_false, frzGs_calm hr, hids]
  have hz : callD.frzBs false st.hp [0, j] = some ((0, ⟨[cs'], false, 0, false, none⟩) :: (j, bj) :: st.hp) := by
    have hl : ¬ (st.hp.length + 1 = st.hp.length ∧ noA cs = true) := by omega
    simp only [callD.frzBs, hb, Bool.or_self, Bool.false_eq_true, if_false, hf, List.length_cons, hl, rdH, h0j, if_true, hbj, Bool.true_or, ite_self, Nat.not_lt_zero]
  simp only [hz, rens_calm hr, List.map_cons, List.map_nil, rdH, if_true, h0j, if_false]
  rw [renB_pure hbj, cb_renB (by simp only [cb, hc, Bool.or_true])]
def rvK (c : Cfg) (fr : Fr) (st : St) (r : Option (List D)) : Option (List D × List Blk) := match r with
  | some res => leave c fr st res
  | none => none
@[go_sem] theorem rvK_some (res : List D) : rvK c fr st (some res) = leave c fr st res := rfl
@[go_sem] theorem endE_ret (rs : List ResultVar) : endE P c fr rs (some (.ret, st)) = rvK c fr st (resVars P st rs) := by
  unfold endE rvK; dsimp only; cases resVars P st rs <;> rfl
@[go_sem] theorem endE_normal (rs : List ResultVar) : endE P c fr rs (some (.normal, st)) = rvK c fr st (resVars P st rs) := by
  unfold endE rvK; dsimp only; cases resVars P st rs <;> rfl
def rvC (a : Option D) (r : Option (List D)) : Option (List D) := match a, r with
  | some d, some ds => some (d :: ds)
  | _, _ => none
@[go_sem] theorem rvC_some (d : D) (ds : List D) : rvC (some d) (some ds) = some (d :: ds) := rfl
@[go_sem] theorem resVars_nil : resVars P st [] = some [] := rfl
@[go_sem] theorem resVars_cons (x : ResultVar) (r : List ResultVar) : resVars P st (x :: r) = rvC (resVar P st x) (resVars P st r) := by
  simp only [resVars]
  unfold rvC
  cases resVar P st x <;> cases resVars P st r <;> rfl
@[go_sem] theorem resVar_tmp (t : Tmp) : resVar P st (.tmp t) = some (rdT st.tm t) := rfl
@[go_sem] theorem resVar_cell (t : Tmp) (ty : TypeId) : resVar P st (.cell t ty) = ldC (agg P ty) (sz P ty) (memAt st.hp (rdT st.tm t)) := by
  unfold resVar ldC
  dsimp only
  cases memAt st.hp (rdT st.tm t) <;> cases sz P ty <;> rfl
@[go_sem] theorem lF_some (res res' : List D) (hp : List (Nat × Blk)) : lF c fr st res (some (res', hp)) = if refsLL res' = [] ∧ calms res' = false then fbL c fr st res else lK c fr st res fr.k (refsLL res') res' hp := rfl
@[go_sem] theorem lK_00 (res res' : List D) (hp : List (Nat × Blk)) : lK c fr st res 0 [] res' hp = if calms res' = true then some (res', []) else fbL c fr st res := rfl
@[go_sem] theorem lK_10 (res res' : List D) (hp : List (Nat × Blk)) : lK c fr st res 1 [] res' hp = if calms res' = true ∧ cb (rdH hp 0) = true then some (res', [rdH hp 0]) else fbL c fr st res := rfl
@[go_sem] theorem lK_01 (res res' : List D) (hp : List (Nat × Blk)) (id : Nat) : lK c fr st res 0 [id] res' hp = if cb (rdH hp id) = true ∧ (rdH hp id).md < 2 then some (res'.map (ren [(id, 0)]), [rdH hp id]) else fbL c fr st res := rfl
@[go_sem] theorem lK_11 (res res' : List D) (hp : List (Nat × Blk)) (id : Nat) : lK c fr st res 1 [id] res' hp = if cb (rdH hp 0) = true ∧ cb (rdH hp id) = true ∧ (rdH hp id).md < 2 ∧ id ≠ 0 then some (res'.map (ren [(0, 0), (id, 1)]), [rdH hp 0, rdH hp id]) else fbL c fr st res := rfl

/-! Loops -/
/-- What a round of a loop comes to. -/
def StepR (good : St → Prop) (Post : Ex → St → Prop) (r : Option (Ex × St)) : Prop := match r with
  | some (.normal, st) => good st
  | some (x, st) => Post x st
  | none => False
@[go_sem] theorem step_normal (good : St → Prop) (Post : Ex → St → Prop) (st : St) : StepR good Post (some (.normal, st)) = good st := rfl
@[go_sem] theorem step_exit (good : St → Prop) (Post : Ex → St → Prop) (i : Nat) (st : St) : StepR good Post (some (.exit i, st)) = Post (.exit i) st := rfl
@[go_sem] theorem step_ret (good : St → Prop) (Post : Ex → St → Prop) (st : St) : StepR good Post (some (.ret, st)) = Post .ret st := rfl
@[go_sem] theorem step_goto (good : St → Prop) (Post : Ex → St → Prop) (l : Nat) (st : St) : StepR good Post (some (.goto l, st)) = Post (.goto l) st := rfl

theorem loop_of {body : Code} (hh : ∀ st, headD c fr body st = some st) (I : St → Prop) (μ : St → Nat) (Q : Ex → St → Prop)
    (step : ∀ st, I st → StepR (fun st2 => I st2 ∧ μ st2 < μ st) Q (exe P c fr body st)) : ∀ (n : Nat) (st : St), μ st < n → I st → ∃ x st2, exe P c fr (.loop body) st = some (x, st2) ∧ Q x st2
  | 0, st, h, _ => by omega
  | n + 1, st, h, hi => by
    have hs := step st hi
    rw [e_loop, hh]
    simp only [kH]
    cases hr : exe P c fr body st with
    | none => rw [hr] at hs; exact hs.elim
    | some r =>
      obtain ⟨x, st2⟩ := r
      rw [hr] at hs
      cases x with
      | normal => exact loop_of hh I μ Q step n st2 (Nat.lt_of_lt_of_le hs.2 (by omega)) hs.1
      | _ => exact ⟨_, _, rfl, hs⟩
/-- A loop: what holds at its head, and what grows less. -/
theorem loop_use {body : Code} {st : St} {r : Option (Ex × St)} (hx : exe P c fr (.loop body) st = r) (hh : ∀ st, headD c fr body st = some st) (I : St → Prop) (μ : St → Nat) (Q : Ex → St → Prop) (h0 : I st)
    (step : ∀ st, I st → StepR (fun st2 => I st2 ∧ μ st2 < μ st) Q (exe P c fr body st)) : ∃ x st2, r = some (x, st2) ∧ Q x st2 := by
  obtain ⟨x, st2, h1, h2⟩ := loop_of hh I μ Q step (μ st + 1) st (by omega) h0
  exact ⟨x, st2, by rw [← hx, h1], h2⟩
/-- A loop over a list's elements: `I i b` at its head, where `i` are done and `b` is what was gathered; `F b rest`: what it comes to. -/
theorem list_use {body : Code} {st : St} {r : Option (Ex × St)} (hx : exe P c fr (.loop body) st = r) (hh : ∀ st, headD c fr body st = some st) {β γ : Type} (xs : List α) (hlen : xs.length < 9223372036854775808) (I : Nat → β → St → Prop) (F : β → List α → γ) (Q : γ → Ex → St → Prop) (b0 : β) (h0 : I 0 b0 st)
    (step : ∀ (i : Nat) (b : β) (st : St) (a : α) (rest : List α), xs[i]? = some a → xs.drop i = a :: rest → ((i : Int) < (xs.length : Int)) → IntKind.i64.wrap ((i : Int) + 1) = ((i + 1 : Nat) : Int) → I i b st →
      StepR (fun st2 => ∃ b', I (i + 1) b' st2 ∧ F b (a :: rest) = F b' rest) (Q (F b (a :: rest))) (exe P c fr body st))
    (done : ∀ (b : β) (st : St), I xs.length b st → StepR (fun _ => False) (Q (F b [])) (exe P c fr body st)) : ∃ x st2, r = some (x, st2) ∧ Q (F b0 xs) x st2 := by
  have main : ∀ (m i : Nat) (b : β) (st : St), xs.length - i = m → i ≤ xs.length → I i b st → ∃ x st2, exe P c fr (.loop body) st = some (x, st2) ∧ Q (F b (xs.drop i)) x st2 := by
    intro m
    induction m with
    | zero =>
      intro i b st hm hi hI
      have : i = xs.length := by omega
      subst this
      have hs := done b st hI
      rw [e_loop, hh, List.drop_length]
      simp only [kH]
      cases hr : exe P c fr body st with
      | none => rw [hr] at hs; exact hs.elim
      | some q =>
        obtain ⟨x, st2⟩ := q
        rw [hr] at hs
        cases x with
        | normal => exact hs.elim
        | _ => exact ⟨_, _, rfl, hs⟩
    | succ m ih =>
      intro i b st hm hi hI
      have hlt : i < xs.length := by omega
      have hd : xs.drop i = xs[i] :: xs.drop (i + 1) := List.drop_eq_getElem_cons hlt
      have hs := step i b st xs[i] (xs.drop (i + 1)) (by simp [hlt]) hd (by omega) (by rw [IntKind.wrap_i64]; omega) hI
      rw [e_loop, hh, hd]
      simp only [kH]
      cases hr : exe P c fr body st with
      | none => rw [hr] at hs; exact hs.elim
      | some q =>
        obtain ⟨x, st2⟩ := q
        rw [hr] at hs
        cases x with
        | normal =>
          obtain ⟨b', h1, h2⟩ := hs
          obtain ⟨x, st3, h3, h4⟩ := ih (i + 1) b' st2 (by omega) (by omega) h1
          exact ⟨x, st3, h3, by rw [h2]; exact h4⟩
        | _ => exact ⟨_, _, rfl, hs⟩
  obtain ⟨x, st2, h1, h2⟩ := main xs.length 0 b0 st (by omega) (by omega) h0
  exact ⟨x, st2, by rw [← hx, h1], by simpa using h2⟩
end

/-! Appends; slices that are cut; copies -/
section
variable {P : Program} {c : Cfg} {fr : Fr} {dr : Bool} {call : Vm.Callee} (dst : Option Tmp) (ty : TypeId) (pos : String) (after : Array Edge) (guard : Option (Nat × Bool)) (st : St) {α : Type} {f : α → List D}
def apT (P : Program) (t u : TypeId) : Option (Nat × Nat) := match elt P t with
  | some el => (match sz P el, byt P el, zer P el with
    | some n, some b, some z => if 0 < n ∧ z.length = n ∧ (elt P u).isSome = true then some (n, b) else none
    | _, _, _ => none)
  | none => none
noncomputable def fbO (P : Program) (c : Cfg) (fr : Fr) (dr : Bool) (call : Vm.Callee) (st : St) (o : Oper) : Option (D × St) := opD P c fr dr call st o
noncomputable def apK (P : Program) (c : Cfg) (fr : Fr) (dr : Bool) (call : Vm.Callee) (st : St) (o : Oper) (dx dy : D) (r : Option (Nat × Nat)) : Option (D × St) := match r with
  | some (n, b) => appendD fr n b st dx dy
  | none => fbO P c fr dr call st o
@[go_sem] theorem d_append (x y : Operand) (t u : TypeId) : opD P c fr dr call st { dst := dst, op := .call { callee := .builtin .append, args := #[x, y], argTypes := #[t, u] }, type := ty, pos := pos, after := after, guard := guard } =
    apK P c fr dr call st { dst := dst, op := .call { callee := .builtin .append, args := #[x, y], argTypes := #[t, u] }, type := ty, pos := pos, after := after, guard := guard } (ev st.tm x) (ev st.tm y) (apT P t u) := by
  unfold apK
  split
  · rename_i n b h
    have e : opD P c fr dr call st { dst := dst, op := .call { callee := .builtin .append, args := #[x, y], argTypes := #[t, u] }, type := ty, pos := pos, after := after, guard := guard } = op1 P c fr dr call st { dst := dst, op := .call { callee := .builtin .append, args := #[x, y], argTypes := #[t, u] }, type := ty, pos := pos, after := after, guard := guard } := rfl
    rw [e]
    unfold apT at h
    unfold op1
    cases h1 : elt P t with
    | none => rw [h1] at h; cases h
    | some el =>
      simp only [h1] at h ⊢
      cases h2 : sz P el <;> cases h3 : byt P el <;> cases h4 : zer P el <;> simp only [h2, h3, h4] at h ⊢ <;> try (cases h; done)
      split at h
      · rename_i hc
        cases h
        obtain ⟨c1, c2, c3⟩ := hc
        cases h5 : elt P u with
        | none => rw [h5] at c3; simp at c3
        | some e => simp only [List.map_cons, List.map_nil, h1, h2, h3, h4, h5, c1, c2, and_self, if_true]
      · cases h
  · rfl
@[go_sem] theorem apK_some (o : Oper) (dx dy : D) (n b : Nat) : apK P c fr dr call st o dx dy (some (n, b)) = appendD fr n b st dx dy := rfl
@[go_sem] theorem peek_l (hp : List (Nat × Blk)) (cp : Option Nat) (es : List (List D)) : peek hp (.l cp es) = some es := rfl
@[go_sem] theorem peek_sl (hp : List (Nat × Blk)) (x : Sl α) : peek hp (x.d f) = some (x.xs.map f) := by cases x <;> rfl
@[go_sem] theorem sizes_nil (n : Nat) : sizesOk n [] = true := rfl
@[go_sem] theorem sizes_cons (n : Nat) (e : List D) (r : List (List D)) : sizesOk n (e :: r) = (e.length == n && sizesOk n r) := rfl
theorem sizes_map (n : Nat) (h : ∀ a : α, (f a).length = n) : ∀ xs : List α, sizesOk n (xs.map f) = true
  | [] => rfl
  | a :: r => by simp only [List.map_cons, sizesOk, h a, beq_self_eq_true, Bool.true_and, sizes_map n h r]
def clK (c : Cfg) (fr : Fr) (dr : Bool) (call : Vm.Callee) (args : List D) (st : St) (d : D) : Option (D × St) := match d with
  | .f (.func g) first cap => if (dr && c.wr g) = true then none else callD c fr dr call g (first ++ args ++ cap) st
  | _ => none
@[go_sem] theorem d_callT (t : Tmp) (xs : Array Operand) (ts : Array TypeId) : opD P c fr dr call st { dst := dst, op := .call { callee := .value (.tmp t), args := xs, argTypes := ts }, type := ty, pos := pos, after := after, guard := guard } =
    clK c fr dr call (xs.toList.map (ev st.tm)) st (rdT st.tm t) := by
  have e : opD P c fr dr call st { dst := dst, op := .call { callee := .value (.tmp t), args := xs, argTypes := ts }, type := ty, pos := pos, after := after, guard := guard } = op1 P c fr dr call st { dst := dst, op := .call { callee := .value (.tmp t), args := xs, argTypes := ts }, type := ty, pos := pos, after := after, guard := guard } := rfl
  rw [e]; unfold op1 clK; rfl
@[go_sem] theorem clK_f (args : List D) (g : FuncId) (x y : List D) : clK c fr dr call args st (.f (.func g) x y) = if (dr && c.wr g) = true then none else callD c fr dr call g (x ++ args ++ y) st := rfl
def opK (o : Option Operand) (tm : List (Nat × D)) : Option D := o.map (ev tm)
def ctK (st : St) (r : Option (D × List (Nat × Blk))) : Option (D × St) := match r with
  | some (d, hp) => some (d, { tm := st.tm, hp := hp, nx := st.nx })
  | none => none
@[go_sem] theorem d_slice (t : TypeId) (x : Operand) (lo hi mx : Option Operand) : opD P c fr dr call st { dst := dst, op := .slice t x lo hi mx, type := ty, pos := pos, after := after, guard := guard } = ctK st (cut P t dr st.hp (ev st.tm x) (lo.map (ev st.tm)) (hi.map (ev st.tm)) (mx.map (ev st.tm))) := by
  have e : opD P c fr dr call st { dst := dst, op := .slice t x lo hi mx, type := ty, pos := pos, after := after, guard := guard } = op1 P c fr dr call st { dst := dst, op := .slice t x lo hi mx, type := ty, pos := pos, after := after, guard := guard } := rfl
  rw [e]; unfold op1 ctK; dsimp only; cases cut P t dr st.hp (ev st.tm x) (lo.map (ev st.tm)) (hi.map (ev st.tm)) (mx.map (ev st.tm)) <;> rfl
@[go_sem] theorem ctK_some (d : D) (hp : List (Nat × Blk)) : ctK st (some (d, hp)) = some (d, { tm := st.tm, hp := hp, nx := st.nx }) := rfl
end

attribute [go_sem] exists_const exists_eq exists_eq_left exists_eq_right exists_eq_left' exists_eq_right' exists_and_left exists_and_right Int.natCast_zero List.map_cons List.map_nil List.getElem?_cons_zero List.getElem?_cons_succ List.getElem?_toArray Option.bind_some List.length_cons List.length_nil List.take_zero List.take_succ_cons List.drop_zero List.drop_succ_cons List.drop_nil List.nil_append List.cons_append List.append_nil List.set_cons_zero List.set_cons_succ and_true true_and and_false false_and or_true true_or or_false false_or Bool.and_true Bool.true_and Bool.and_self Bool.not_true Bool.not_false Bool.true_eq_false Bool.false_eq_true Nat.zero_add Nat.add_zero Nat.le_refl Nat.zero_le Nat.zero_mul Nat.one_mul Nat.mul_zero decide_eq_true_eq decide_eq_false_iff_not ite_not Option.map_some Option.map_none initT initH not_false_eq_true not_true_eq_false decide_true decide_false Bool.not_eq_eq_eq_not Option.isSome_some eq_self if_true if_false List.isEmpty_cons and_self Nat.mul_one Bool.false_and Bool.and_false ne_eq forall_const implies_true Bool.or_true Bool.true_or Bool.or_false Bool.false_or beq_self_eq_true false_imp_iff List.length_append
end Vm
end Go.Proofs.Ytjkojcnimnhclaa

/-
  The machine of values, step by step: arithmetic and comparisons.
-/
namespace Go.Proofs.Ytjkojcnimnhclaa
namespace Vm
open Go Go.RowKit
section
variable {P : Program} (t : TypeId) (k : IntKind) (x y : Int)
@[go_sem] theorem bin_add : binD P .add t (.s (.int k x)) (.s (.int k y)) = some (.s (.int k (k.wrap (x + y)))) := by
  cases k <;> rfl
@[go_sem] theorem bin_sub : binD P .sub t (.s (.int k x)) (.s (.int k y)) = some (.s (.int k (k.wrap (x - y)))) := by
  cases k <;> rfl
@[go_sem] theorem bin_mul : binD P .mul t (.s (.int k x)) (.s (.int k y)) = some (.s (.int k (k.wrap (x * y)))) := by
  cases k <;> rfl
@[go_sem] theorem bin_lss : binD P .lss t (.s (.int k x)) (.s (.int k y)) = some (.s (.bool (decide (x < y)))) := by
  cases k <;> rfl
@[go_sem] theorem bin_leq : binD P .leq t (.s (.int k x)) (.s (.int k y)) = some (.s (.bool (decide (x ≤ y)))) := by
  cases k <;> rfl
@[go_sem] theorem bin_gtr : binD P .gtr t (.s (.int k x)) (.s (.int k y)) = some (.s (.bool (decide (y < x)))) := by
  cases k <;> rfl
@[go_sem] theorem bin_geq : binD P .geq t (.s (.int k x)) (.s (.int k y)) = some (.s (.bool (decide (y ≤ x)))) := by
  cases k <;> rfl
@[go_sem] theorem bin_quo (h : y ≠ 0) : binD P .quo t (.s (.int k x)) (.s (.int k y)) = some (.s (.int k (k.wrap (Int.tdiv x y)))) := by
  have e : binD P .quo t (.s (.int k x)) (.s (.int k y)) = (match val P (Op.intDiv .quo k x y) with | some r => some (ofValue r) | none => none) := by cases k <;> rfl
  rw [e]
  unfold Op.intDiv
  simp [h]
  rfl
@[go_sem] theorem bin_rem (h : y ≠ 0) : binD P .rem t (.s (.int k x)) (.s (.int k y)) = some (.s (.int k (Int.tmod x y))) := by
  have e : binD P .rem t (.s (.int k x)) (.s (.int k y)) = (match val P (Op.intDiv .rem k x y) with | some r => some (ofValue r) | none => none) := by cases k <;> rfl
  rw [e]
  unfold Op.intDiv
  simp [h]
  rfl
@[go_sem] theorem bin_eql (h : P.eqGuardType P.depth t = false) : binD P .eql t (.s (.int k x)) (.s (.int k y)) = some (.s (.bool (decide (x = y)))) := by
  have e : binD P .eql t (.s (.int k x)) (.s (.int k y)) = (if (P.eqGuardType P.depth t || false) = true then none else some (.s (.bool (decide (x = y))))) := by cases k <;> rfl
  rw [e, h]; rfl
@[go_sem] theorem bin_neq (h : P.eqGuardType P.depth t = false) : binD P .neq t (.s (.int k x)) (.s (.int k y)) = some (.s (.bool (!decide (x = y)))) := by
  have e : binD P .neq t (.s (.int k x)) (.s (.int k y)) = (if (P.eqGuardType P.depth t || false) = true then none else some (.s (.bool (!decide (x = y))))) := by cases k <;> rfl
  rw [e, h]; rfl
end
section
variable {P : Program} {α : Type} {f : α → List D}
def bnN (op : BinOp) (r : Option Bool) : Option D := match op with
  | .eql => (match r with | some b => some (.s (.bool b)) | none => none)
  | .neq => (match r with | some b => some (.s (.bool !b)) | none => none)
  | _ => none
@[go_sem] theorem bnN_eql (b : Bool) : bnN .eql (some b) = some (.s (.bool b)) := rfl
@[go_sem] theorem bnN_neq (b : Bool) : bnN .neq (some b) = some (.s (.bool !b)) := rfl
@[go_sem] theorem bin_nilp (t : TypeId) (id i off : Nat) (op : BinOp) : binD P op t (.p id i off) (.s (.pointer none)) = bnN op (eqNil P t (.p id i off) (.s (.pointer none))) := by
  unfold binD bnN; cases op <;> rfl
end
section
variable {P : Program} {c : Cfg} {k nt fn : Nat} {ro : Bool}
@[go_sem] theorem g_region {ops : Array Oper} (id : Nat) (dr : Bool) (st : St) (h : c.lock fn id = []) : exe P c ⟨k, nt, fn, ro⟩ (.region id ops dr) st = kN (opsD P c ⟨k, nt, fn, ro⟩ dr (callI P c) ops ops.toList st) := e_region id dr st h
@[go_sem] theorem g_load {dr : Bool} {call : Vm.Callee} (dst : Option Tmp) (ty : TypeId) (pos : String) (after : Array Edge) (guard : Option (Nat × Bool)) (st : St) (t : TypeId) (x : Operand) (hf : ∀ t, c.free fn t = false) : opD P c ⟨k, nt, fn, ro⟩ dr call st { dst := dst, op := .load t x, type := ty, pos := pos, after := after, guard := guard } = k0 st (ldC (agg P t) (sz P t) (memAt st.hp (ev st.tm x))) := d_load dst ty pos after guard st t x hf
@[go_sem] theorem g_leave {st : St} {res : List D} (ho : c.own fn = false) (hk : c.keep fn = false) : leave c ⟨k, nt, fn, ro⟩ st res = lF c ⟨k, nt, fn, ro⟩ st res (frzGs false st.hp res) := leave_go ho hk
end
attribute [go_sem] lenK_l lenK_a lenK_nil lenK_sl callD_go callD_w has
end Vm
end Go.Proofs.Ytjkojcnimnhclaa

/-
  The machine of values: when two structs of numbers are the same.
-/
namespace Go.Proofs.Ytjkojcnimnhclaa
namespace Vm
open Go Go.RowKit

theorem val_bind {α β : Type} (P : Program) : ∀ (s : Sem α) (f : α → Sem β), val P (s.bind f) = (val P s).bind (fun a => val P (f a))
  | .pure _, _ => rfl
  | .program k, f => val_bind P (k P) f
  | .load .., _ => rfl
  | .store .., _ => rfl
  | .new .., _ => rfl
  | .shape .., _ => rfl
  | .freeze .., _ => rfl
  | .frozen .., _ => rfl
  | .getObj .., _ => rfl
  | .setObj .., _ => rfl
  | .choose .., _ => rfl
  | .sys .., _ => rfl
  | .mark .., _ => rfl
  | .halt .., _ => rfl
theorem val_do {α β : Type} (P : Program) (s : Sem α) (f : α → Sem β) : val P (s >>= f) = (val P s).bind (fun a => val P (f a)) := val_bind P s f
theorem val_pure {α : Type} (P : Program) (a : α) : val P (pure a : Sem α) = some a := rfl
theorem val_program (P : Program) : val P program = some P := rfl
theorem val_ite {α : Type} (P : Program) (c : Prop) [Decidable c] (a b : Sem α) : val P (if c then a else b) = if c then val P a else val P b := by split <;> rfl
theorem val_underlying {P : Program} {t : TypeId} {d : TypeDesc} (h : P.underlying t = some d) : val P (underlying t) = some d := by
  simp only [underlying, val_do, val_program, Option.bind_some, h, val_pure]

def eqF (P : Program) (d : Nat) (xs ys : Array Value) : List Field → Option Bool
  | [] => some true
  | f :: fs =>
    if f.name ≠ "_" then
      (val P (part f.type xs f.offset)).bind fun a => (val P (part f.type ys f.offset)).bind fun b => (val P (Op.equalIn d f.type a b)).bind fun r =>
        if (!r) = true then some false else eqF P d xs ys fs
    else eqF P d xs ys fs

theorem val_equal_struct {P : Program} (d : Nat) (t : TypeId) (xs ys : Array Value) {fs : Array Field} (ht : P.underlying t = some (.struct fs)) (hp : P.stoodInHeld t = false) :
    val P (Op.equalIn (d + 1) t (.agg xs) (.agg ys)) = eqF P d xs ys fs.toList := by
  simp only [Op.equalIn, val_do, val_underlying ht, Option.bind_some, val_program, hp, Bool.false_eq_true, if_false]
  rw [← Array.forIn_toList]
  generalize fs.toList = l
  induction l with
  | nil => simp [eqF, val_pure]
  | cons f fs ih =>
    simp only [List.forIn_cons, eqF, val_do, val_ite, val_pure]
    split
    · cases val P (part f.type xs f.offset) with
      | none => rfl
      | some a =>
        simp only [Option.bind_some]
        cases val P (part f.type ys f.offset) with
        | none => rfl
        | some b =>
          simp only [Option.bind_some]
          cases val P (Op.equalIn d f.type a b) with
          | none => rfl
          | some r =>
            simp only [Option.bind_some]
            cases r
            · rfl
            · simp only [Bool.not_true, Bool.false_eq_true, if_false, Option.bind_some]
              exact ih
    · simp only [Option.bind_some]
      exact ih

theorem val_equal_int {P : Program} (d : Nat) (t : TypeId) (k k' : IntKind) (a b : Int) (h : P.underlying t = some (.int k')) : val P (Op.equalIn (d + 1) t (.int k a) (.int k b)) = some (a == b) := by
  simp only [Op.equalIn, val_do, val_underlying h, Option.bind_some, if_true, val_pure]
theorem val_equal_bool {P : Program} (d : Nat) (t : TypeId) (a b : Bool) (h : P.underlying t = some .bool) : val P (Op.equalIn (d + 1) t (.bool a) (.bool b)) = some (a == b) := by
  simp only [Op.equalIn, val_do, val_underlying h, Option.bind_some, val_pure]
theorem val_part {P : Program} {t : TypeId} {xs : Array Value} {off : Nat} {v : Value} (h : (match P.underlying t with | some (.int _) => true | _ => false) = true) (hv : xs[off]? = some v) : val P (part t xs off) = some v := by
  cases hu : P.underlying t with
  | none => rw [hu] at h; cases h
  | some d =>
    rw [hu] at h
    cases d <;> first | (cases h; done) | simp only [part, isAgg, val_do, val_underlying hu, Option.bind_some, val_pure, Bool.false_eq_true, if_false, hv]

/-- Two lists of numbers' cells: are they the same, one by one? -/
def eqC : List D → List D → Option Bool
  | [], [] => some true
  | .s (.int k a) :: r, .s (.int k' b) :: q => if k = k' then (eqC r q).map (fun e => decide (a = b) && e) else none
  | _, _ => none

theorem eqC_inv {c d : D} {cr dr : List D} {r : Bool} (h : eqC (c :: cr) (d :: dr) = some r) : ∃ k a b e, c = .s (.int k a) ∧ d = .s (.int k b) ∧ eqC cr dr = some e ∧ r = (decide (a = b) && e) := by
  cases c <;> try (simp [eqC] at h; done)
  rename_i v
  cases v <;> try (simp [eqC] at h; done)
  rename_i k a
  cases d <;> try (simp [eqC] at h; done)
  rename_i w
  cases w <;> try (simp [eqC] at h; done)
  rename_i k' b
  simp only [eqC] at h
  split at h
  · rename_i hk
    subst hk
    cases hq : eqC cr dr with
    | none => rw [hq] at h; simp at h
    | some e =>
      rw [hq] at h
      simp only [Option.map_some, Option.some.injEq] at h
      exact ⟨_, _, _, _, rfl, rfl, rfl, h.symm⟩
  · cases h
theorem eqC_left {c : D} {cr : List D} {r : Bool} (h : eqC (c :: cr) [] = some r) : False := by
  cases c <;> simp [eqC] at h

def plainF (P : Program) : Nat → List Field → Bool
  | _, [] => true
  | o, f :: r => (f.name != "_") && Nat.beq f.offset o && (match P.underlying f.type with | some (.int _) => true | _ => false) && plainF P (o + 1) r
/-- A struct whose fields are numbers: how many. -/
def plainN (P : Program) (t : TypeId) : Option Nat := match P.underlying t with
  | some (.struct fs) => if plainF P 0 fs.toList && !P.stoodInHeld t && !P.eqGuardType P.depth t then some fs.size else none
  | _ => none

theorem eqF_plain {P : Program} (d : Nat) {xs ys : Array Value} : ∀ (fs : List Field) (o : Nat) (cs ds : List D) (r : Bool), plainF P o fs = true → eqC cs ds = some r → cs.length = fs.length → (∀ i, (cs[i]?).bind toCell = xs[o + i]?) → (∀ i, (ds[i]?).bind toCell = ys[o + i]?) →
    eqF P (d + 1) xs ys fs = some r := by
  intro fs
  induction fs with
  | nil =>
    intro o cs ds r _ he hl _ _
    cases cs with
    | nil => cases ds with
      | nil => simp only [eqC, Option.some.injEq] at he; subst he; rfl
      | cons _ _ => simp [eqC] at he
    | cons _ _ => simp at hl
  | cons f fs ih =>
    intro o cs ds r hp he hl hx hy
    simp only [plainF, Bool.and_eq_true, bne_iff_ne, ne_eq] at hp
    obtain ⟨⟨⟨h1, h2⟩, h3⟩, h4⟩ := hp
    have h2 := Nat.eq_of_beq_eq_true h2
    have step : ∀ (c dd : D) (cr dr : List D) (va vb : Value) (b e : Bool), cs = c :: cr → ds = dd :: dr → toCell c = some va → toCell dd = some vb → val P (Op.equalIn (d + 1) f.type va vb) = some b → eqC cr dr = some e → r = (b && e) → eqF P (d + 1) xs ys (f :: fs) = some r := by
      intro c dd cr dr va vb b e hc hd hva hvb hb hce hr
      subst hc hd
      have hx0 : xs[f.offset]? = some va := by have := hx 0; simp only [Nat.add_zero, List.getElem?_cons_zero, Option.bind_some, hva] at this; rw [h2]; exact this.symm
      have hy0 : ys[f.offset]? = some vb := by have := hy 0; simp only [Nat.add_zero, List.getElem?_cons_zero, Option.bind_some, hvb] at this; rw [h2]; exact this.symm
      have hrec := ih (o + 1) cr dr e h4 hce (by simpa using hl) (fun i => by have := hx (i + 1); simp only [List.getElem?_cons_succ] at this; rw [this]; congr 1; omega) (fun i => by have := hy (i + 1); simp only [List.getElem?_cons_succ] at this; rw [this]; congr 1; omega)
      simp only [eqF, ne_eq, h1, not_false_eq_true, if_true, val_part h3 hx0, val_part h3 hy0, Option.bind_some, hb, hrec]
      cases b <;> simp [hr]
    cases cs with
    | nil => simp at hl
    | cons c cr =>
      cases ds with
      | nil => exact (eqC_left he).elim
      | cons dd dr =>
        obtain ⟨k, a, b, e, rfl, rfl, hq, hr⟩ := eqC_inv he
        refine step _ _ _ _ _ _ (a == b) e rfl rfl rfl rfl ?_ hq (by rw [hr]; rfl)
        cases hu : P.underlying f.type with
        | none => rw [hu] at h3; cases h3
        | some ty => cases ty <;> first | exact val_equal_int _ _ _ _ _ _ hu | (rw [hu] at h3; cases h3)

theorem toCells_get {cs : List D} {vs : List Value} (h : toCells cs = some vs) : ∀ i : Nat, (cs[i]?).bind toCell = vs[i]? := by
  induction cs generalizing vs with
  | nil => simp only [toCells, Option.some.injEq] at h; subst h; simp
  | cons c r ih =>
    cases c with
    | s v =>
      simp only [toCells] at h
      cases hr : toCells r with
      | none => rw [hr] at h; cases h
      | some ws =>
        rw [hr] at h
        simp only [Option.some.injEq] at h
        subst h
        intro i
        cases i with
        | zero => rfl
        | succ i => simpa using ih hr i
    | _ => simp [toCells] at h
theorem eqC_toCells : ∀ {cs ds : List D} {r : Bool}, eqC cs ds = some r → (∃ vs, toCells cs = some vs) ∧ ∃ ws, toCells ds = some ws := by
  intro cs
  induction cs with
  | nil => intro ds r h; cases ds with
    | nil => exact ⟨⟨[], rfl⟩, [], rfl⟩
    | cons _ _ => simp [eqC] at h
  | cons c cr ih =>
    intro ds r h
    cases ds with
    | nil => exact (eqC_left h).elim
    | cons dd dr =>
      obtain ⟨k, a, b, e, rfl, rfl, hq, hr⟩ := eqC_inv h
      obtain ⟨⟨vs, hv⟩, ws, hw⟩ := ih hq
      exact ⟨⟨_ :: vs, by simp only [toCells, hv]; rfl⟩, _ :: ws, by simp only [toCells, hw]; rfl⟩
theorem bin_struct {P : Program} {t : TypeId} {n : Nat} (hn : plainN P t = some n) {cs ds : List D} {r : Bool} (he : eqC cs ds = some r) (hl : cs.length = n) :
    binD P .eql t (.g cs) (.g ds) = some (.s (.bool r)) ∧ binD P .neq t (.g cs) (.g ds) = some (.s (.bool !r)) := by
  obtain ⟨⟨vs, hv⟩, ws, hw⟩ := eqC_toCells he
  cases hu : P.underlying t with
  | none => simp [plainN, hu] at hn
  | some ty =>
    cases ty <;> try (simp [plainN, hu] at hn; done)
    rename_i fs
    simp only [plainN, hu] at hn
    split at hn
    · rename_i h
      simp only [Bool.and_eq_true, Bool.not_eq_true'] at h
      obtain ⟨⟨h1, h2⟩, h3⟩ := h
      simp only [Option.some.injEq] at hn
      have key : val P (Op.equal t (.agg vs.toArray) (.agg ws.toArray)) = some r := by
        unfold Op.equal
        rw [show Op.maxDepth = 9998 + 1 + 1 from rfl, val_equal_struct _ _ _ _ hu h2]
        refine eqF_plain 9998 fs.toList 0 cs ds r h1 he (by simpa using hl.trans hn.symm) ?_ ?_
        · intro i; rw [toCells_get hv i]; simp
        · intro i; rw [toCells_get hw i]; simp
      have tv : toVal (.g cs) = some (.agg vs.toArray) := by simp only [toVal, hv]
      have tw : toVal (.g ds) = some (.agg ws.toArray) := by simp only [toVal, hw]
      constructor
      · unfold binD
        simp only [tv, tw, isEq, h3, isNilI, Bool.or_self, Bool.and_false, Bool.false_eq_true, if_false]
        have : val P (binOp .eql t (.agg vs.toArray) (.agg ws.toArray)) = some (.bool r) := by
          have e : binOp .eql t (.agg vs.toArray) (.agg ws.toArray) = (do pure (.bool (← Op.equal t (.agg vs.toArray) (.agg ws.toArray))) : Sem Value) := rfl
          rw [e, val_do, key]; rfl
        rw [this]; rfl
      · unfold binD
        simp only [tv, tw, isEq, h3, isNilI, Bool.or_self, Bool.and_false, Bool.false_eq_true, if_false]
        have : val P (binOp .neq t (.agg vs.toArray) (.agg ws.toArray)) = some (.bool !r) := by
          have e : binOp .neq t (.agg vs.toArray) (.agg ws.toArray) = (do pure (.bool (!(← Op.equal t (.agg vs.toArray) (.agg ws.toArray)))) : Sem Value) := rfl
          rw [e, val_do, key]; rfl
        rw [this]; rfl
    · cases hn
def fbB (P : Program) (op : BinOp) (t : TypeId) (x y : D) : Option D := binD P op t x y
def eqG (P : Program) (op : BinOp) (t : TypeId) (cs ds : List D) (n : Option Nat) (r : Option Bool) : Option D := match n, r with
  | some n, some r => if cs.length = n then some (.s (.bool (match op with | .eql => r | _ => !r))) else fbB P op t (.g cs) (.g ds)
  | _, _ => fbB P op t (.g cs) (.g ds)
@[go_sem] theorem bin_geql (P : Program) (t : TypeId) (cs ds : List D) : binD P .eql t (.g cs) (.g ds) = eqG P .eql t cs ds (plainN P t) (eqC cs ds) := by
  unfold eqG
  split
  · rename_i n r h1 h2
    split
    · rename_i h; exact (bin_struct h1 h2 h).1
    · rfl
  · rfl
@[go_sem] theorem bin_gneq (P : Program) (t : TypeId) (cs ds : List D) : binD P .neq t (.g cs) (.g ds) = eqG P .neq t cs ds (plainN P t) (eqC cs ds) := by
  unfold eqG
  split
  · rename_i n r h1 h2
    split
    · rename_i h; exact (bin_struct h1 h2 h).2
    · rfl
  · rfl
@[go_sem] theorem eqG_eql (P : Program) (t : TypeId) (cs ds : List D) (n : Nat) (r : Bool) : eqG P .eql t cs ds (some n) (some r) = if cs.length = n then some (.s (.bool r)) else fbB P .eql t (.g cs) (.g ds) := rfl
@[go_sem] theorem eqG_neq (P : Program) (t : TypeId) (cs ds : List D) (n : Nat) (r : Bool) : eqG P .neq t cs ds (some n) (some r) = if cs.length = n then some (.s (.bool !r)) else fbB P .neq t (.g cs) (.g ds) := rfl
@[go_sem] theorem eqC_nil : eqC [] [] = some true := rfl
@[go_sem] theorem eqC_cons (k : IntKind) (a b : Int) (r q : List D) : eqC (.s (.int k a) :: r) (.s (.int k b) :: q) = (eqC r q).map (fun e => decide (a = b) && e) := by
  simp only [eqC, if_true]
end Vm
end Go.Proofs.Ytjkojcnimnhclaa

/-
  The machine of values, step by step: slices that are made and cut; arrays; the least and the greatest.
-/
namespace Go.Proofs.Ytjkojcnimnhclaa
namespace Vm
open Go Go.RowKit
def Sl.isNil {α : Type} : Sl α → Bool
  | .nil => true
  | .l .. => false
def Sl.cut {α : Type} (l h : Nat) : Sl α → Sl α
  | .nil => .nil
  | .l c xs => .l (c.map (· - l)) ((xs.take h).drop l)
def Sl.cut3 {α : Type} (h : Nat) : Sl α → Sl α
  | .nil => .nil
  | .l _ xs => .l (some h) (xs.take h)
theorem Sl.cut_xs {α : Type} (l h : Nat) (x : Sl α) : (x.cut l h).xs = (x.xs.take h).drop l := by cases x <;> simp [Sl.cut, Sl.xs]
theorem Sl.cut3_xs {α : Type} (h : Nat) (x : Sl α) : (x.cut3 h).xs = x.xs.take h := by cases x <;> simp [Sl.cut3, Sl.xs]

section
variable {P : Program} {c : Cfg} {fr : Fr} {dr : Bool} {call : Vm.Callee} (dst : Option Tmp) (ty : TypeId) (pos : String) (after : Array Edge) (guard : Option (Nat × Bool)) (st : St) {α : Type} {f : α → List D}
/-! Made -/
def msT (P : Program) (t : TypeId) : Option (Nat × Nat × List D) := match elt P t with
  | some el => (match sz P el, byt P el, zer P el with
    | some k, some b, some z => if z.length = k ∧ 0 < k then some (k, b, z) else none
    | _, _, _ => none)
  | none => none
def msK (P : Program) (c : Cfg) (fr : Fr) (dr : Bool) (call : Vm.Callee) (st : St) (o : Oper) (r : Option (Nat × Nat × List D)) (x y : Option Nat) : Option (D × St) := match r, x, y with
  | some (k, b, z), some n, some m => if n = m ∧ n * b ≤ 140737488355328 ∧ n ≤ 140737488355328 then some (.a st.nx 0 n k, { tm := st.tm, hp := (st.nx, ⟨List.replicate n z, true, 0, true, some n⟩) :: st.hp, nx := st.nx + 1 }) else none
  | _, _, _ => op1 P c fr dr call st o
@[go_sem] theorem d_makeSlice (t : TypeId) (x y : Operand) : opD P c fr dr call st { dst := dst, op := .makeSlice t x y, type := ty, pos := pos, after := after, guard := guard } =
    msK P c fr dr call st { dst := dst, op := .makeSlice t x y, type := ty, pos := pos, after := after, guard := guard } (msT P t) (asNat (ev st.tm x)) (asNat (ev st.tm y)) := by
  have e : opD P c fr dr call st { dst := dst, op := .makeSlice t x y, type := ty, pos := pos, after := after, guard := guard } = op1 P c fr dr call st { dst := dst, op := .makeSlice t x y, type := ty, pos := pos, after := after, guard := guard } := rfl
  rw [e]
  unfold msK
  split
  · rename_i k b z n m h1 h2 h3
    unfold msT at h1
    unfold op1
    cases g1 : elt P t with
    | none => rw [g1] at h1; cases h1
    | some el =>
      simp only [g1] at h1 ⊢
      cases g2 : sz P el <;> cases g3 : byt P el <;> cases g4 : zer P el <;> simp only [g2, g3, g4] at h1 ⊢ <;> try (cases h1; done)
      split at h1
      · rename_i hc
        cases h1
        simp only [h2, h3, hc.1, hc.2, true_and, and_true, g2, g3, g4, g1]
      · cases h1
  · rfl
@[go_sem] theorem msK_some (o : Oper) (k b : Nat) (z : List D) (n m : Nat) : msK P c fr dr call st o (some (k, b, z)) (some n) (some m) = if n = m ∧ n * b ≤ 140737488355328 ∧ n ≤ 140737488355328 then some (.a st.nx 0 n k, { tm := st.tm, hp := (st.nx, ⟨List.replicate n z, true, 0, true, some n⟩) :: st.hp, nx := st.nx + 1 }) else none := rfl
@[go_sem] theorem asNat_nat (k : IntKind) (n : Nat) : asNat (.s (.int k (n : Int))) = some n := by simp [asNat]
@[go_sem] theorem asNat_zero (k : IntKind) : asNat (.s (.int k 0)) = some 0 := rfl

/-! Cut -/
def cutT (P : Program) (t : TypeId) : Option Nat := match elt P t with
  | some el => sz P el
  | none => none
theorem elOk_map {n l : Nat} (h : ∀ a : α, (f a).length = n) (xs : List α) : elOk n (xs.map f) l = true := by
  unfold elOk
  rw [List.getElem?_map]
  cases xs[l]? with
  | none => rfl
  | some a => simp [h a]
theorem str_no (x : Sl α) (b : ByteArray) (h : x.d f = .s (.string b)) : False := by cases x <;> simp [Sl.d, nilS] at h
theorem cut_sl {t : TypeId} {n : Nat} (ht : cutT P t = some n) (hf : ∀ a : α, (f a).length = n) (hp : List (Nat × Blk)) (x : Sl α) (lo hi mx : Option D) :
    cut P t dr hp (x.d f) lo hi mx = (match x with
      | .nil => (match bnd 0 (some 0) lo hi mx with | some _ => some (nilS, hp) | none => none)
      | .l cap xs => (match bnd xs.length cap lo hi mx with | some (l, h, c) => some ((Sl.l c ((xs.take h).drop l)).d f, hp) | none => none)) := by
  unfold cutT at ht
  cases he : elt P t with
  | none => rw [he] at ht; cases ht
  | some el =>
    simp only [he] at ht
    cases x with
    | nil =>
      show cut P t dr hp (.s (.slice none 0 0)) lo hi mx = _
      simp only [cut, he, ht]
      cases bnd 0 (some 0) lo hi mx <;> rfl
    | l cap xs =>
      show cut P t dr hp (.l cap (xs.map f)) lo hi mx = _
      simp only [cut, he, ht, List.length_map]
      cases bnd xs.length cap lo hi mx with
      | none => rfl
      | some q =>
        obtain ⟨l, h, c⟩ := q
        simp only [elOk_map hf xs, if_true, Sl.d, List.map_drop, List.map_take]
theorem cut_lo {t : TypeId} {n : Nat} (ht : cutT P t = some n) (hf : ∀ a : α, (f a).length = n) (hp : List (Nat × Blk)) (x : Sl α) (k : IntKind) (l : Nat) (hl : l ≤ x.xs.length) :
    cut P t dr hp (x.d f) (some (.s (.int k (l : Int)))) none none = some ((x.cut l x.xs.length).d f, hp) := by
  rw [cut_sl ht hf]
  cases x with
  | nil => simp only [Sl.xs, List.length_nil, Nat.le_zero_eq] at hl; subst hl; rfl
  | l cap xs =>
    simp only [Sl.xs] at hl
    cases cap <;> simp [bnd, asNat, hl, Sl.cut, Sl.xs]
theorem cut_hi {t : TypeId} {n : Nat} (ht : cutT P t = some n) (hf : ∀ a : α, (f a).length = n) (hp : List (Nat × Blk)) (x : Sl α) (k : IntKind) (h : Nat) (hl : h ≤ x.xs.length) :
    cut P t dr hp (x.d f) none (some (.s (.int k (h : Int)))) none = some ((x.cut 0 h).d f, hp) := by
  rw [cut_sl ht hf]
  cases x with
  | nil => simp only [Sl.xs, List.length_nil, Nat.le_zero_eq] at hl; subst hl; rfl
  | l cap xs =>
    simp only [Sl.xs] at hl
    cases cap <;> simp [bnd, asNat, hl, Sl.cut]
theorem cut_hh {t : TypeId} {n : Nat} (ht : cutT P t = some n) (hf : ∀ a : α, (f a).length = n) (hp : List (Nat × Blk)) (x : Sl α) (k k2 : IntKind) (h : Nat) (hl : h ≤ x.xs.length) :
    cut P t dr hp (x.d f) none (some (.s (.int k (h : Int)))) (some (.s (.int k2 (h : Int)))) = some ((x.cut3 h).d f, hp) := by
  rw [cut_sl ht hf]
  cases x with
  | nil => simp only [Sl.xs, List.length_nil, Nat.le_zero_eq] at hl; subst hl; rfl
  | l cap xs =>
    simp only [Sl.xs] at hl
    simp [bnd, asNat, hl, Sl.cut3]

/-! Appends to what has no room -/
theorem app_full {n bytes : Nat} {x : Sl α} {new : List (List D)} {y : D} (hs : ∀ a : α, (f a).length = n) (hc : ∀ c xs, x = .l c xs → c = some xs.length) (hy : peek st.hp y = some new) (hz : sizesOk n new = true)
    (hb : (x.xs.length + new.length) * bytes ≤ 140737488355328) (hb' : x.xs.length + new.length ≤ 140737488355328) (hne : new.isEmpty = false) :
    appendD fr n bytes st (x.d f) y = some (.a st.nx 0 (x.xs.length + new.length) n, { tm := st.tm, hp := (st.nx, ⟨x.xs.map f ++ new, true, 0, true, none⟩) :: st.hp, nx := st.nx + 1 }) := by
  unfold appendD
  rw [hy]
  cases x with
  | nil =>
    have e : appendD.lenOr (D.s (Value.slice none 0 0)) = 0 := rfl
    simp only [Sl.xs, List.length_nil] at hb hb'
    simp only [hz, e, Sl.d, nilS, hb, hb', decide_true, Bool.and_self, if_true, hne, Bool.false_eq_true, if_false, appendD.mk, Sl.xs, List.length_nil, List.map_nil]
  | l cp xs =>
    have hcp := hc _ _ rfl
    subst hcp
    have e : appendD.lenOr (D.l (some xs.length) (xs.map f)) = xs.length := by simp [appendD.lenOr, lenD]
    simp only [Sl.xs] at hb hb'
    have hl : xs.length < xs.length + new.length := by cases new with | nil => simp at hne | cons _ _ => simp
    simp only [hz, e, Sl.d, hb, hb', decide_true, Bool.and_self, if_true, hne, Bool.false_eq_true, if_false, hl, sizes_map n hs, appendD.mk, Sl.xs, List.length_map, Bool.and_true]
theorem app_none {n bytes : Nat} {y : D} {new : List (List D)} (hy : peek st.hp y = some new) (hz : sizesOk n new = true) (hb : new.length * bytes ≤ 140737488355328) (hb' : new.length ≤ 140737488355328) :
    appendD fr n bytes st (.l (some 0) []) y = if new.isEmpty = true then some (.l (some 0) [], st) else some (.a st.nx 0 new.length n, { tm := st.tm, hp := (st.nx, ⟨new, true, 0, true, none⟩) :: st.hp, nx := st.nx + 1 }) := by
  unfold appendD
  rw [hy]
  have e : appendD.lenOr (D.l (some 0) []) = 0 := rfl
  simp only [hz, e, Nat.zero_add, hb, hb', decide_true, Bool.and_self, if_true, sizesOk, Bool.and_true, appendD.mk, List.length_nil, List.nil_append, decide_eq_true_eq]
  split
  · rfl
  · rename_i hne
    have : 0 < new.length := by cases new with | nil => simp at hne | cons _ _ => simp
    simp only [this, if_true]

theorem app_clone {n bytes : Nat} (x : Sl α) (hs : ∀ a : α, (f a).length = n) (hb : x.xs.length * bytes ≤ 140737488355328) (hb' : x.xs.length ≤ 140737488355328) (fr : Fr) (st : St) :
    appendD fr n bytes st (.l (some 0) []) (x.d f) = if x.xs.isEmpty = true then some (.l (some 0) [], st) else some (.a st.nx 0 x.xs.length n, { tm := st.tm, hp := (st.nx, ⟨x.xs.map f, true, 0, true, none⟩) :: st.hp, nx := st.nx + 1 }) := by
  rw [app_none _ (new := x.xs.map f) (by cases x <;> rfl) (sizes_map n hs _) (by simpa using hb) (by simpa using hb')]
  simp only [List.isEmpty_map, List.length_map]
def fzB (dr : Bool) (hp : List (Nat × Blk)) (id lo n : Nat) (b : Blk) : Option (D × List (Nat × Blk)) := if b.pu = true ∧ b.arr = true ∧ lo + n ≤ b.es.length then
        (match b.md with
        | 0 => if dr then none else some (.l none ((b.es.drop lo).take n), (id, { b with md := 1 }) :: hp)
        | 1 => some (.l none ((b.es.drop lo).take n), hp)
        | _ => none)
      else none
@[go_sem] theorem frz_a (dr : Bool) (hp : List (Nat × Blk)) (id lo n z : Nat) : frz dr hp (.a id lo n z) = fzB dr hp id lo n (rdH hp id) := rfl
@[go_sem] theorem fzB_0 (hp : List (Nat × Blk)) (id lo n : Nat) (es : List (List D)) (cp : Option Nat) : fzB false hp id lo n ⟨es, true, 0, true, cp⟩ = if lo + n ≤ es.length then some (.l none ((es.drop lo).take n), (id, ⟨es, true, 1, true, cp⟩) :: hp) else none := by
  simp [fzB]
@[go_sem] theorem fzB_1 (hp : List (Nat × Blk)) (dr : Bool) (id lo n : Nat) (es : List (List D)) (cp : Option Nat) : fzB dr hp id lo n ⟨es, true, 1, true, cp⟩ = if lo + n ≤ es.length then some (.l none ((es.drop lo).take n), hp) else none := by
  simp [fzB]
/-! Arrays that are values -/
def idD (P : Program) (t : TypeId) (dx di : D) : Option D := match di with
  | .s (.int _ n) => (match dx with
    | .g cs => (match arr P t with
      | some (len, el) => (match sz P el with
        | some m => if 0 ≤ n ∧ n < len then loadD (agg P el) m (cs.drop (n.toNat * m)) else none
        | none => none)
      | none => none)
    | .s (.string b) => (match P.underlying t with
      | some .string => if 0 ≤ n then (match b[n.toNat]? with
          | some u => some (.s (.int .u8 u.toNat))
          | none => none) else none
      | _ => none)
    | _ => none)
  | _ => none
@[go_sem] theorem d_index (t : TypeId) (x i : Operand) : opD P c fr dr call st { dst := dst, op := .index t x i, type := ty, pos := pos, after := after, guard := guard } = k0 st (idD P t (ev st.tm x) (ev st.tm i)) := by
  have e : opD P c fr dr call st { dst := dst, op := .index t x i, type := ty, pos := pos, after := after, guard := guard } = k0 st (op0 P st.tm { dst := dst, op := .index t x i, type := ty, pos := pos, after := after, guard := guard }) := rfl
  rw [e]
  congr 1
def idA (P : Program) (cs : List D) (n : Int) (a : Option (Nat × TypeId)) : Option D := match a with
  | some (len, el) => (match sz P el with
    | some m => if 0 ≤ n ∧ n < len then loadD (agg P el) m (cs.drop (n.toNat * m)) else none
    | none => none)
  | none => none
@[go_sem] theorem idD_g (t : TypeId) (cs : List D) (k : IntKind) (n : Int) : idD P t (.g cs) (.s (.int k n)) = idA P cs n (arr P t) := rfl
def idM (P : Program) (cs : List D) (n : Int) (len el : Nat) (m : Option Nat) : Option D := match m with
  | some m => if 0 ≤ n ∧ n < len then loadD (agg P el) m (cs.drop (n.toNat * m)) else none
  | none => none
@[go_sem] theorem idA_some (cs : List D) (n : Int) (len el : Nat) : idA P cs n (some (len, el)) = idM P cs n len el (sz P el) := rfl
@[go_sem] theorem idM_some (cs : List D) (n : Int) (len el m : Nat) : idM P cs n len el (some m) = if 0 ≤ n ∧ n < len then loadD (agg P el) m (cs.drop (n.toNat * m)) else none := rfl
end
section
variable {P : Program} {c : Cfg} {fr : Fr}
@[go_sem] theorem kL_normal (a : Code) (st : St) : kL P c fr a (some (.normal, st)) = exe P c fr (.loop a) st := rfl
@[go_sem] theorem kL_ret (a : Code) (st : St) : kL P c fr a (some (.ret, st)) = some (.ret, st) := rfl
@[go_sem] theorem kL_exit (a : Code) (i : Nat) (st : St) : kL P c fr a (some (.exit i, st)) = some (.exit i, st) := rfl
@[go_sem] theorem kL_goto (a : Code) (i : Nat) (st : St) : kL P c fr a (some (.goto i, st)) = some (.goto i, st) := rfl
@[go_sem] theorem kH_some (a : Code) (st : St) : kH P c fr a (some st) = kL P c fr a (exe P c fr a st) := rfl
end
theorem ixL_l (m : Nat) (cap : Option Nat) (es : List (List D)) (n : Int) : ixL (some m) (.l cap es) n = if 0 ≤ n then qOf m es[n.toNat]? else none := rfl
/-! Names of blocks, one behind another -/
@[go_sem] theorem nx_0_1 (n : Nat) : (n = n + 1) ↔ False := ⟨fun h => by omega, False.elim⟩
@[go_sem] theorem nx_0_2 (n : Nat) : (n = n + 1 + 1) ↔ False := ⟨fun h => by omega, False.elim⟩
@[go_sem] theorem nx_0_3 (n : Nat) : (n = n + 1 + 1 + 1) ↔ False := ⟨fun h => by omega, False.elim⟩
@[go_sem] theorem nx_0_4 (n : Nat) : (n = n + 1 + 1 + 1 + 1) ↔ False := ⟨fun h => by omega, False.elim⟩
@[go_sem] theorem nx_0_5 (n : Nat) : (n = n + 1 + 1 + 1 + 1 + 1) ↔ False := ⟨fun h => by omega, False.elim⟩
@[go_sem] theorem nx_0_6 (n : Nat) : (n = n + 1 + 1 + 1 + 1 + 1 + 1) ↔ False := ⟨fun h => by omega, False.elim⟩
@[go_sem] theorem nx_1_0 (n : Nat) : (n + 1 = n) ↔ False := ⟨fun h => by omega, False.elim⟩
@[go_sem] theorem nx_1_2 (n : Nat) : (n + 1 = n + 1 + 1) ↔ False := ⟨fun h => by omega, False.elim⟩
@[go_sem] theorem nx_1_3 (n : Nat) : (n + 1 = n + 1 + 1 + 1) ↔ False := ⟨fun h => by omega, False.elim⟩
@[go_sem] theorem nx_1_4 (n : Nat) : (n + 1 = n + 1 + 1 + 1 + 1) ↔ False := ⟨fun h => by omega, False.elim⟩
@[go_sem] theorem nx_1_5 (n : Nat) : (n + 1 = n + 1 + 1 + 1 + 1 + 1) ↔ False := ⟨fun h => by omega, False.elim⟩
@[go_sem] theorem nx_1_6 (n : Nat) : (n + 1 = n + 1 + 1 + 1 + 1 + 1 + 1) ↔ False := ⟨fun h => by omega, False.elim⟩
@[go_sem] theorem nx_2_0 (n : Nat) : (n + 1 + 1 = n) ↔ False := ⟨fun h => by omega, False.elim⟩
@[go_sem] theorem nx_2_1 (n : Nat) : (n + 1 + 1 = n + 1) ↔ False := ⟨fun h => by omega, False.elim⟩
@[go_sem] theorem nx_2_3 (n : Nat) : (n + 1 + 1 = n + 1 + 1 + 1) ↔ False := ⟨fun h => by omega, False.elim⟩
@[go_sem] theorem nx_2_4 (n : Nat) : (n + 1 + 1 = n + 1 + 1 + 1 + 1) ↔ False := ⟨fun h => by omega, False.elim⟩
@[go_sem] theorem nx_2_5 (n : Nat) : (n + 1 + 1 = n + 1 + 1 + 1 + 1 + 1) ↔ False := ⟨fun h => by omega, False.elim⟩
@[go_sem] theorem nx_2_6 (n : Nat) : (n + 1 + 1 = n + 1 + 1 + 1 + 1 + 1 + 1) ↔ False := ⟨fun h => by omega, False.elim⟩
@[go_sem] theorem nx_3_0 (n : Nat) : (n + 1 + 1 + 1 = n) ↔ False := ⟨fun h => by omega, False.elim⟩
@[go_sem] theorem nx_3_1 (n : Nat) : (n + 1 + 1 + 1 = n + 1) ↔ False := ⟨fun h => by omega, False.elim⟩
@[go_sem] theorem nx_3_2 (n : Nat) : (n + 1 + 1 + 1 = n + 1 + 1) ↔ False := ⟨fun h => by omega, False.elim⟩
@[go_sem] theorem nx_3_4 (n : Nat) : (n + 1 + 1 + 1 = n + 1 + 1 + 1 + 1) ↔ False := ⟨fun h => by omega, False.elim⟩
@[go_sem] theorem nx_3_5 (n : Nat) : (n + 1 + 1 + 1 = n + 1 + 1 + 1 + 1 + 1) ↔ False := ⟨fun h => by omega, False.elim⟩
@[go_sem] theorem nx_3_6 (n : Nat) : (n + 1 + 1 + 1 = n + 1 + 1 + 1 + 1 + 1 + 1) ↔ False := ⟨fun h => by omega, False.elim⟩
@[go_sem] theorem nx_4_0 (n : Nat) : (n + 1 + 1 + 1 + 1 = n) ↔ False := ⟨fun h => by omega, False.elim⟩
@[go_sem] theorem nx_4_1 (n : Nat) : (n + 1 + 1 + 1 + 1 = n + 1) ↔ False := ⟨fun h => by omega, False.elim⟩
@[go_sem] theorem nx_4_2 (n : Nat) : (n + 1 + 1 + 1 + 1 = n + 1 + 1) ↔ False := ⟨fun h => by omega, False.elim⟩
@[go_sem] theorem nx_4_3 (n : Nat) : (n + 1 + 1 + 1 + 1 = n + 1 + 1 + 1) ↔ False := ⟨fun h => by omega, False.elim⟩
@[go_sem] theorem nx_4_5 (n : Nat) : (n + 1 + 1 + 1 + 1 = n + 1 + 1 + 1 + 1 + 1) ↔ False := ⟨fun h => by omega, False.elim⟩
@[go_sem] theorem nx_4_6 (n : Nat) : (n + 1 + 1 + 1 + 1 = n + 1 + 1 + 1 + 1 + 1 + 1) ↔ False := ⟨fun h => by omega, False.elim⟩
@[go_sem] theorem nx_5_0 (n : Nat) : (n + 1 + 1 + 1 + 1 + 1 = n) ↔ False := ⟨fun h => by omega, False.elim⟩
@[go_sem] theorem nx_5_1 (n : Nat) : (n + 1 + 1 + 1 + 1 + 1 = n + 1) ↔ False := ⟨fun h => by omega, False.elim⟩
@[go_sem] theorem nx_5_2 (n : Nat) : (n + 1 + 1 + 1 + 1 + 1 = n + 1 + 1) ↔ False := ⟨fun h => by omega, False.elim⟩
@[go_sem] theorem nx_5_3 (n : Nat) : (n + 1 + 1 + 1 + 1 + 1 = n + 1 + 1 + 1) ↔ False := ⟨fun h => by omega, False.elim⟩
@[go_sem] theorem nx_5_4 (n : Nat) : (n + 1 + 1 + 1 + 1 + 1 = n + 1 + 1 + 1 + 1) ↔ False := ⟨fun h => by omega, False.elim⟩
@[go_sem] theorem nx_5_6 (n : Nat) : (n + 1 + 1 + 1 + 1 + 1 = n + 1 + 1 + 1 + 1 + 1 + 1) ↔ False := ⟨fun h => by omega, False.elim⟩
@[go_sem] theorem nx_6_0 (n : Nat) : (n + 1 + 1 + 1 + 1 + 1 + 1 = n) ↔ False := ⟨fun h => by omega, False.elim⟩
@[go_sem] theorem nx_6_1 (n : Nat) : (n + 1 + 1 + 1 + 1 + 1 + 1 = n + 1) ↔ False := ⟨fun h => by omega, False.elim⟩
@[go_sem] theorem nx_6_2 (n : Nat) : (n + 1 + 1 + 1 + 1 + 1 + 1 = n + 1 + 1) ↔ False := ⟨fun h => by omega, False.elim⟩
@[go_sem] theorem nx_6_3 (n : Nat) : (n + 1 + 1 + 1 + 1 + 1 + 1 = n + 1 + 1 + 1) ↔ False := ⟨fun h => by omega, False.elim⟩
@[go_sem] theorem nx_6_4 (n : Nat) : (n + 1 + 1 + 1 + 1 + 1 + 1 = n + 1 + 1 + 1 + 1) ↔ False := ⟨fun h => by omega, False.elim⟩
@[go_sem] theorem nx_6_5 (n : Nat) : (n + 1 + 1 + 1 + 1 + 1 + 1 = n + 1 + 1 + 1 + 1 + 1) ↔ False := ⟨fun h => by omega, False.elim⟩
theorem nxc {n c : Nat} (h : c < n) : (n = c) = False ∧ (c = n) = False ∧ (c < n) = True ∧ (c ≤ n) = True ∧ (n + 1 = c) = False ∧ (c = n + 1) = False ∧ (c < n + 1) = True ∧ (c ≤ n + 1) = True ∧ (n + 1 + 1 = c) = False ∧ (c = n + 1 + 1) = False ∧ (c < n + 1 + 1) = True ∧ (c ≤ n + 1 + 1) = True ∧ (n + 1 + 1 + 1 = c) = False ∧ (c = n + 1 + 1 + 1) = False ∧ (c < n + 1 + 1 + 1) = True ∧ (c ≤ n + 1 + 1 + 1) = True ∧ (n + 1 + 1 + 1 + 1 = c) = False ∧ (c = n + 1 + 1 + 1 + 1) = False ∧ (c < n + 1 + 1 + 1 + 1) = True ∧ (c ≤ n + 1 + 1 + 1 + 1) = True ∧ (n + 1 + 1 + 1 + 1 + 1 = c) = False ∧ (c = n + 1 + 1 + 1 + 1 + 1) = False ∧ (c < n + 1 + 1 + 1 + 1 + 1) = True ∧ (c ≤ n + 1 + 1 + 1 + 1 + 1) = True ∧ (n + 1 + 1 + 1 + 1 + 1 + 1 = c) = False ∧ (c = n + 1 + 1 + 1 + 1 + 1 + 1) = False ∧ (c < n + 1 + 1 + 1 + 1 + 1 + 1) = True ∧ (c ≤ n + 1 + 1 + 1 + 1 + 1 + 1) = True :=
  ⟨eq_false (by omega), eq_false (by omega), eq_true (by omega), eq_true (by omega), eq_false (by omega), eq_false (by omega), eq_true (by omega), eq_true (by omega), eq_false (by omega), eq_false (by omega), eq_true (by omega), eq_true (by omega), eq_false (by omega), eq_false (by omega), eq_true (by omega), eq_true (by omega), eq_false (by omega), eq_false (by omega), eq_true (by omega), eq_true (by omega), eq_false (by omega), eq_false (by omega), eq_true (by omega), eq_true (by omega), eq_false (by omega), eq_false (by omega), eq_true (by omega), eq_true (by omega)⟩
theorem toNat_0 : Int.toNat 0 = 0 := rfl
attribute [go_sem] Nat.le_add_right ixL_l Int.toNat_natCast Int.natCast_nonneg List.length_map List.isEmpty_map Int.cast_ofNat_Int toNat_0 Int.toNat_one Option.isSome_none Option.map_some List.isEmpty_nil List.isEmpty_cons
end Vm
end Go.Proofs.Ytjkojcnimnhclaa

/-
  What is read of an argument, as lists and numbers.
-/
namespace Go.Proofs.Ytjkojcnimnhclaa
namespace Vm
open Go Go.RowKit
section
variable {P : Program} {n : Nat} {t : TypeId} {ds : List D} {α : Type} {f : α → List D}
theorem fit_int {k : IntKind} (hu : P.underlying t = some (.int k)) (h : Fit P (n + 1) t ds) : ∃ x, ds = [.s (.int k x)] ∧ (Lit.int k x).wf = true := by
  unfold Fit at h
  simpa only [hu] using h
theorem fit_bool (hu : P.underlying t = some .bool) (h : Fit P (n + 1) t ds) : ∃ x, ds = [.s (.bool x)] := by
  unfold Fit at h
  simpa only [hu] using h
theorem fit_str (hu : P.underlying t = some .string) (h : Fit P (n + 1) t ds) : ∃ x, ds = [.s (.string x)] := by
  unfold Fit at h
  simpa only [hu] using h
theorem fit_sl {e : TypeId} {p : α → Prop} (hu : P.underlying t = some (.slice e)) (he : ∀ x, Fit P n e x → ∃ a : α, x = f a ∧ p a) (h : Fit P (n + 1) t ds) : ∃ x : Sl α, ds = [x.d f] ∧ x.xs.length ≤ maxLen ∧ ∀ a ∈ x.xs, p a := by
  unfold Fit at h
  simp only [hu] at h
  rcases h with rfl | ⟨es, rfl, hl, hes⟩
  · exact ⟨.nil, rfl, Nat.zero_le _, by simp [Sl.xs]⟩
  · have : ∃ xs : List α, es = xs.map f ∧ ∀ a ∈ xs, p a := by
      clear hl
      induction es with
      | nil => exact ⟨[], rfl, by simp⟩
      | cons x r ih =>
        obtain ⟨xs, h1, h2⟩ := ih (fun y hy => hes y (List.mem_cons_of_mem _ hy))
        obtain ⟨a, h3, h4⟩ := he x (hes x (by simp))
        exact ⟨a :: xs, by rw [h1, h3]; rfl, by simpa using ⟨h4, h2⟩⟩
    obtain ⟨xs, rfl, hp⟩ := this
    exact ⟨.l none xs, rfl, by simpa [Sl.xs] using hl, hp⟩
theorem fit_struct {fs : Array Field} (hu : P.underlying t = some (.struct fs)) (h : Fit P (n + 1) t ds) : FitL (Fit P n) fs.toList ds := by
  unfold Fit at h
  simpa only [hu] using h
theorem fitL_cons {r : TypeId → List D → Prop} {fl : Field} {fs : List Field} (h : FitL r (fl :: fs) ds) : ∃ p q, ds = p ++ q ∧ r fl.type p ∧ FitL r fs q := h
theorem fitL_nil {r : TypeId → List D → Prop} (h : FitL r [] ds) : ds = [] := h
theorem fitArg_int {k : IntKind} {d : D} (hu : P.underlying t = some (.int k)) (h : FitArg P t d) : ∃ x, d = .s (.int k x) ∧ (Lit.int k x).wf = true := by
  unfold FitArg at h
  simp only [hu] at h
  obtain ⟨x, h1, h2⟩ := fit_int hu h
  simp only [List.cons.injEq, and_true] at h1
  exact ⟨x, h1, h2⟩
theorem fitArg_bool {d : D} (hu : P.underlying t = some .bool) (h : FitArg P t d) : ∃ x, d = .s (.bool x) := by
  unfold FitArg at h
  simp only [hu] at h
  obtain ⟨x, h1⟩ := fit_bool hu h
  simp only [List.cons.injEq, and_true] at h1
  exact ⟨x, h1⟩
theorem fitArg_sl {e : TypeId} {d : D} {p : α → Prop} (hu : P.underlying t = some (.slice e)) (he : ∀ x, Fit P 7 e x → ∃ a : α, x = f a ∧ p a) (h : FitArg P t d) : ∃ x : Sl α, d = x.d f ∧ x.xs.length ≤ maxLen ∧ ∀ a ∈ x.xs, p a := by
  unfold FitArg at h
  simp only [hu] at h
  obtain ⟨x, h1, h2, h3⟩ := fit_sl hu he h
  simp only [List.cons.injEq, and_true] at h1
  exact ⟨x, h1, h2, h3⟩
theorem fitArg_struct {fs : Array Field} {d : D} (hu : P.underlying t = some (.struct fs)) (h : FitArg P t d) : ∃ ds, d = .g ds ∧ Fit P 8 t ds := by
  unfold FitArg at h
  simpa only [hu] using h
theorem fitAll_cons {ts : List TypeId} (h : FitAll P (t :: ts) ds) : ∃ d r, ds = d :: r ∧ FitArg P t d ∧ FitAll P ts r := h
theorem fitAll_nil (h : FitAll P [] ds) : ds = [] := h
theorem wf_i64 {x : Int} (h : (Lit.int .i64 x).wf = true) : -9223372036854775808 ≤ x ∧ x < 9223372036854775808 := by
  simp only [Lit.wf, Bool.and_eq_true, decide_eq_true_eq] at h
  have e1 : IntKind.i64.min = -9223372036854775808 := by decide
  have e2 : IntKind.i64.max = 9223372036854775807 := by decide
  rw [e1, e2] at h
  omega
theorem maxLen_lt {n : Nat} (h : n ≤ maxLen) : n < 9223372036854775808 := by
  unfold maxLen at h; omega
end
end Vm
end Go.Proofs.Ytjkojcnimnhclaa

/-
  What is chosen for the year's laws; the closed test of layer 19, run by the kernel.
-/
namespace Go.Proofs.Ytjkojcnimnhclaa
open Go Vm

def okL : List Nat := [3, 4, 5, 6, 7, 8, 9, 10, 11, 12, 13, 14, 15, 16, 17, 18, 19, 20, 21, 22, 23, 24, 25, 26, 27, 28, 29, 30, 31, 32, 33, 34, 35, 36, 37, 38, 39, 40, 41, 42, 43, 44]
def wrL : List Nat := [15]
def cfg : Vm.Cfg := { wr := fun f => has wrL f, own := fun _ => false, byRef := fun _ => false, keep := fun _ => false, live := fun _ _ => none, lock := fun _ _ => [], ok := fun f => has okL f, free := fun _ _ => false }

theorem mix : Try.prog.follows .mixedOrders = true := by kernel_rfl
theorem okAll : okL.all (funOk Try.prog cfg) = true := by kernel_rfl
theorem cfgOk : ∀ f, cfg.ok f = true → funOk Try.prog cfg f = true := fun f h => List.all_eq_true.1 okAll f (has_iff.1 h)

theorem keeps_run : callN Try.prog cfg 60 7 [] [] = some ([.s (.bool true)], []) := by kernel_rfl

end Go.Proofs.Ytjkojcnimnhclaa

/-
  Facts about the program's types, each by the kernel.
-/
namespace Go.Proofs.Ytjkojcnimnhclaa
open Go Vm
@[go_sem] theorem free0 (f t : Nat) : cfg.free f t = false := (rfl)
@[go_sem] theorem lock0 (f r : Nat) : cfg.lock f r = [] := (rfl)
@[go_sem] theorem keep0 (f : Nat) : cfg.keep f = false := (rfl)
@[go_sem] theorem own0 (f : Nat) : cfg.own f = false := (rfl)
@[go_sem] theorem byRef0 (f : Nat) : cfg.byRef f = false := (rfl)
@[go_sem] theorem wr0 (f : Nat) : cfg.wr f = has wrL f := (rfl)
attribute [go_sem] wrL
theorem head0 (fr : Fr) (body : Code) (st : St) : headD cfg fr body st = some st := rfl
@[go_sem] theorem ft2 : Try.prog.eqGuardType Try.prog.depth 2 = false ∧ sz Try.prog 2 = some 1 ∧ agg Try.prog 2 = false ∧ elt Try.prog 2 = none ∧ arr Try.prog 2 = none ∧ zer Try.prog 2 = some [.s (.int .i64 0)] :=
  ⟨by kernel_rfl, by kernel_rfl, by kernel_rfl, by kernel_rfl, by kernel_rfl, by kernel_rfl⟩
@[go_sem] theorem ft3 : Try.prog.eqGuardType Try.prog.depth 3 = false ∧ sz Try.prog 3 = some 1 ∧ agg Try.prog 3 = false ∧ elt Try.prog 3 = none ∧ arr Try.prog 3 = none ∧ zer Try.prog 3 = some [.s (.int .i64 0)] :=
  ⟨by kernel_rfl, by kernel_rfl, by kernel_rfl, by kernel_rfl, by kernel_rfl, by kernel_rfl⟩
@[go_sem] theorem ft4 : Try.prog.eqGuardType Try.prog.depth 4 = false ∧ sz Try.prog 4 = some 1 ∧ agg Try.prog 4 = false ∧ elt Try.prog 4 = none ∧ arr Try.prog 4 = none ∧ zer Try.prog 4 = some [.s (.bool false)] ∧ (∀ x y : Bool, binD Try.prog .eql 4 (.s (.bool x)) (.s (.bool y)) = some (.s (.bool (x == y)))) :=
  ⟨by kernel_rfl, by kernel_rfl, by kernel_rfl, by kernel_rfl, by kernel_rfl, by kernel_rfl, by intros; kernel_rfl⟩
@[go_sem] theorem ft23 : Try.prog.eqGuardType Try.prog.depth 23 = false ∧ sz Try.prog 23 = some 3 ∧ agg Try.prog 23 = true ∧ elt Try.prog 23 = none ∧ arr Try.prog 23 = none ∧ zer Try.prog 23 = some [.s (.int .i64 0), .s (.int .i64 0), .s (.int .i64 0)] ∧ structOk Try.prog 23 = true ∧ plainN Try.prog 23 = some 3 ∧ fld Try.prog 23 0 = some (0, 1) ∧ agF Try.prog 23 0 = some false ∧ fld Try.prog 23 1 = some (1, 1) ∧ agF Try.prog 23 1 = some false ∧ fld Try.prog 23 2 = some (2, 1) ∧ agF Try.prog 23 2 = some false :=
  ⟨by kernel_rfl, by kernel_rfl, by kernel_rfl, by kernel_rfl, by kernel_rfl, by kernel_rfl, by kernel_rfl, by kernel_rfl, by kernel_rfl, by kernel_rfl, by kernel_rfl, by kernel_rfl, by kernel_rfl, by kernel_rfl⟩
@[go_sem] theorem ft24 : Try.prog.eqGuardType Try.prog.depth 24 = false ∧ sz Try.prog 24 = some 1 ∧ agg Try.prog 24 = false ∧ elt Try.prog 24 = some 54 ∧ arr Try.prog 24 = none ∧ zer Try.prog 24 = some [nilS] ∧ lenS Try.prog 24 = true ∧ cutT Try.prog 24 = some 2 ∧ (∀ (α : Type) (f : α → List D) (x : Sl α), binD Try.prog .eql 24 (x.d f) nilS = some (.s (.bool x.isNil))) ∧ (∀ (α : Type) (f : α → List D) (x : Sl α), binD Try.prog .neq 24 (x.d f) nilS = some (.s (.bool !x.isNil))) ∧ msT Try.prog 24 = some (2, 16, [.s (.int .i64 0), .s (.int .i64 0)]) :=
  ⟨by kernel_rfl, by kernel_rfl, by kernel_rfl, by kernel_rfl, by kernel_rfl, by kernel_rfl, by kernel_rfl, by kernel_rfl, by intro _ _ x; cases x <;> kernel_rfl, by intro _ _ x; cases x <;> kernel_rfl, by kernel_rfl⟩
@[go_sem] theorem ft25 : Try.prog.eqGuardType Try.prog.depth 25 = false ∧ sz Try.prog 25 = some 1 ∧ agg Try.prog 25 = false ∧ elt Try.prog 25 = some 59 ∧ arr Try.prog 25 = none ∧ zer Try.prog 25 = some [nilS] ∧ lenS Try.prog 25 = true ∧ cutT Try.prog 25 = some 6 ∧ (∀ (α : Type) (f : α → List D) (x : Sl α), binD Try.prog .eql 25 (x.d f) nilS = some (.s (.bool x.isNil))) ∧ (∀ (α : Type) (f : α → List D) (x : Sl α), binD Try.prog .neq 25 (x.d f) nilS = some (.s (.bool !x.isNil))) ∧ msT Try.prog 25 = some (6, 48, [.s (.int .i64 0), .s (.int .i64 0), .s (.int .i64 0), .s (.int .i64 0), .s (.int .i64 0), .s (.int .i64 0)]) :=
  ⟨by kernel_rfl, by kernel_rfl, by kernel_rfl, by kernel_rfl, by kernel_rfl, by kernel_rfl, by kernel_rfl, by kernel_rfl, by intro _ _ x; cases x <;> kernel_rfl, by intro _ _ x; cases x <;> kernel_rfl, by kernel_rfl⟩
@[go_sem] theorem ft27 : Try.prog.eqGuardType Try.prog.depth 27 = false ∧ sz Try.prog 27 = some 10 ∧ agg Try.prog 27 = true ∧ elt Try.prog 27 = none ∧ arr Try.prog 27 = none ∧ zer Try.prog 27 = some [.s (.int .i64 0), .s (.int .i64 0), .s (.int .i64 0), .s (.int .i64 0), .s (.int .i64 0), .s (.int .i64 0), nilS, .s (.int .i64 0), nilS, .s (.int .i64 0)] ∧ structOk Try.prog 27 = true ∧ fld Try.prog 27 0 = some (0, 1) ∧ agF Try.prog 27 0 = some false ∧ fld Try.prog 27 1 = some (1, 3) ∧ agF Try.prog 27 1 = some true ∧ fld Try.prog 27 2 = some (4, 1) ∧ agF Try.prog 27 2 = some false ∧ fld Try.prog 27 3 = some (5, 1) ∧ agF Try.prog 27 3 = some false ∧ fld Try.prog 27 4 = some (6, 1) ∧ agF Try.prog 27 4 = some false ∧ fld Try.prog 27 5 = some (7, 1) ∧ agF Try.prog 27 5 = some false ∧ fld Try.prog 27 6 = some (8, 1) ∧ agF Try.prog 27 6 = some false ∧ fld Try.prog 27 7 = some (9, 1) ∧ agF Try.prog 27 7 = some false :=
  ⟨by kernel_rfl, by kernel_rfl, by kernel_rfl, by kernel_rfl, by kernel_rfl, by kernel_rfl, by kernel_rfl, by kernel_rfl, by kernel_rfl, by kernel_rfl, by kernel_rfl, by kernel_rfl, by kernel_rfl, by kernel_rfl, by kernel_rfl, by kernel_rfl, by kernel_rfl, by kernel_rfl, by kernel_rfl, by kernel_rfl, by kernel_rfl, by kernel_rfl, by kernel_rfl⟩
@[go_sem] theorem ft30 : Try.prog.eqGuardType Try.prog.depth 30 = false ∧ sz Try.prog 30 = some 1 ∧ agg Try.prog 30 = false ∧ elt Try.prog 30 = some 27 ∧ arr Try.prog 30 = none ∧ zer Try.prog 30 = some [nilS] ∧ lenS Try.prog 30 = true ∧ cutT Try.prog 30 = some 10 ∧ (∀ (α : Type) (f : α → List D) (x : Sl α), binD Try.prog .eql 30 (x.d f) nilS = some (.s (.bool x.isNil))) ∧ (∀ (α : Type) (f : α → List D) (x : Sl α), binD Try.prog .neq 30 (x.d f) nilS = some (.s (.bool !x.isNil))) ∧ msT Try.prog 30 = some (10, 112, [.s (.int .i64 0), .s (.int .i64 0), .s (.int .i64 0), .s (.int .i64 0), .s (.int .i64 0), .s (.int .i64 0), nilS, .s (.int .i64 0), nilS, .s (.int .i64 0)]) :=
  ⟨by kernel_rfl, by kernel_rfl, by kernel_rfl, by kernel_rfl, by kernel_rfl, by kernel_rfl, by kernel_rfl, by kernel_rfl, by intro _ _ x; cases x <;> kernel_rfl, by intro _ _ x; cases x <;> kernel_rfl, by kernel_rfl⟩
@[go_sem] theorem ft31 : Try.prog.eqGuardType Try.prog.depth 31 = false ∧ sz Try.prog 31 = some 1 ∧ agg Try.prog 31 = false ∧ elt Try.prog 31 = none ∧ arr Try.prog 31 = none ∧ zer Try.prog 31 = some [.s (.int .i64 0)] :=
  ⟨by kernel_rfl, by kernel_rfl, by kernel_rfl, by kernel_rfl, by kernel_rfl, by kernel_rfl⟩
@[go_sem] theorem ft34 : Try.prog.eqGuardType Try.prog.depth 34 = false ∧ sz Try.prog 34 = some 1 ∧ agg Try.prog 34 = false ∧ elt Try.prog 34 = none ∧ arr Try.prog 34 = none ∧ zer Try.prog 34 = some [.s (.pointer none)] ∧ (∀ id i off, eqNil Try.prog 34 (.p id i off) (.s (.pointer none)) = some false) ∧ (binD Try.prog .eql 34 (.s (.pointer none)) (.s (.pointer none)) = some (.s (.bool true))) ∧ (binD Try.prog .neq 34 (.s (.pointer none)) (.s (.pointer none)) = some (.s (.bool false))) :=
  ⟨by kernel_rfl, by kernel_rfl, by kernel_rfl, by kernel_rfl, by kernel_rfl, by kernel_rfl, by intros; kernel_rfl, by kernel_rfl, by kernel_rfl⟩
@[go_sem] theorem ft37 : Try.prog.eqGuardType Try.prog.depth 37 = false ∧ sz Try.prog 37 = some 1 ∧ agg Try.prog 37 = false ∧ elt Try.prog 37 = some 54 ∧ arr Try.prog 37 = none ∧ zer Try.prog 37 = some [nilS] ∧ lenS Try.prog 37 = true ∧ cutT Try.prog 37 = some 2 ∧ (∀ (α : Type) (f : α → List D) (x : Sl α), binD Try.prog .eql 37 (x.d f) nilS = some (.s (.bool x.isNil))) ∧ (∀ (α : Type) (f : α → List D) (x : Sl α), binD Try.prog .neq 37 (x.d f) nilS = some (.s (.bool !x.isNil))) ∧ msT Try.prog 37 = some (2, 16, [.s (.int .i64 0), .s (.int .i64 0)]) :=
  ⟨by kernel_rfl, by kernel_rfl, by kernel_rfl, by kernel_rfl, by kernel_rfl, by kernel_rfl, by kernel_rfl, by kernel_rfl, by intro _ _ x; cases x <;> kernel_rfl, by intro _ _ x; cases x <;> kernel_rfl, by kernel_rfl⟩
@[go_sem] theorem ft39 : Try.prog.eqGuardType Try.prog.depth 39 = false ∧ sz Try.prog 39 = some 9 ∧ agg Try.prog 39 = true ∧ elt Try.prog 39 = none ∧ arr Try.prog 39 = none ∧ zer Try.prog 39 = some [.s (.int .i64 0), .s (.int .i64 0), .s (.int .i64 0), .s (.int .i64 0), .s (.int .i64 0), nilS, .s (.int .i64 0), .s (.int .i64 0), .s (.int .i64 0)] ∧ structOk Try.prog 39 = true ∧ fld Try.prog 39 0 = some (0, 3) ∧ agF Try.prog 39 0 = some true ∧ fld Try.prog 39 1 = some (3, 1) ∧ agF Try.prog 39 1 = some false ∧ fld Try.prog 39 2 = some (4, 1) ∧ agF Try.prog 39 2 = some false ∧ fld Try.prog 39 3 = some (5, 1) ∧ agF Try.prog 39 3 = some false ∧ fld Try.prog 39 4 = some (6, 1) ∧ agF Try.prog 39 4 = some false ∧ fld Try.prog 39 5 = some (7, 1) ∧ agF Try.prog 39 5 = some false ∧ fld Try.prog 39 6 = some (8, 1) ∧ agF Try.prog 39 6 = some false :=
  ⟨by kernel_rfl, by kernel_rfl, by kernel_rfl, by kernel_rfl, by kernel_rfl, by kernel_rfl, by kernel_rfl, by kernel_rfl, by kernel_rfl, by kernel_rfl, by kernel_rfl, by kernel_rfl, by kernel_rfl, by kernel_rfl, by kernel_rfl, by kernel_rfl, by kernel_rfl, by kernel_rfl, by kernel_rfl, by kernel_rfl, by kernel_rfl⟩
@[go_sem] theorem ft54 : Try.prog.eqGuardType Try.prog.depth 54 = false ∧ sz Try.prog 54 = some 2 ∧ agg Try.prog 54 = true ∧ elt Try.prog 54 = none ∧ arr Try.prog 54 = none ∧ zer Try.prog 54 = some [.s (.int .i64 0), .s (.int .i64 0)] ∧ structOk Try.prog 54 = true ∧ plainN Try.prog 54 = some 2 ∧ fld Try.prog 54 0 = some (0, 1) ∧ agF Try.prog 54 0 = some false ∧ fld Try.prog 54 1 = some (1, 1) ∧ agF Try.prog 54 1 = some false :=
  ⟨by kernel_rfl, by kernel_rfl, by kernel_rfl, by kernel_rfl, by kernel_rfl, by kernel_rfl, by kernel_rfl, by kernel_rfl, by kernel_rfl, by kernel_rfl, by kernel_rfl, by kernel_rfl⟩
@[go_sem] theorem ft59 : Try.prog.eqGuardType Try.prog.depth 59 = false ∧ sz Try.prog 59 = some 6 ∧ agg Try.prog 59 = true ∧ elt Try.prog 59 = none ∧ arr Try.prog 59 = none ∧ zer Try.prog 59 = some [.s (.int .i64 0), .s (.int .i64 0), .s (.int .i64 0), .s (.int .i64 0), .s (.int .i64 0), .s (.int .i64 0)] ∧ structOk Try.prog 59 = true ∧ plainN Try.prog 59 = some 6 ∧ fld Try.prog 59 0 = some (0, 1) ∧ agF Try.prog 59 0 = some false ∧ fld Try.prog 59 1 = some (1, 1) ∧ agF Try.prog 59 1 = some false ∧ fld Try.prog 59 2 = some (2, 1) ∧ agF Try.prog 59 2 = some false ∧ fld Try.prog 59 3 = some (3, 1) ∧ agF Try.prog 59 3 = some false ∧ fld Try.prog 59 4 = some (4, 1) ∧ agF Try.prog 59 4 = some false ∧ fld Try.prog 59 5 = some (5, 1) ∧ agF Try.prog 59 5 = some false :=
  ⟨by kernel_rfl, by kernel_rfl, by kernel_rfl, by kernel_rfl, by kernel_rfl, by kernel_rfl, by kernel_rfl, by kernel_rfl, by kernel_rfl, by kernel_rfl, by kernel_rfl, by kernel_rfl, by kernel_rfl, by kernel_rfl, by kernel_rfl, by kernel_rfl, by kernel_rfl, by kernel_rfl, by kernel_rfl, by kernel_rfl⟩
@[go_sem] theorem ft70 : Try.prog.eqGuardType Try.prog.depth 70 = false ∧ sz Try.prog 70 = some 11 ∧ agg Try.prog 70 = true ∧ elt Try.prog 70 = none ∧ arr Try.prog 70 = none ∧ zer Try.prog 70 = some [.s (.int .i64 0), nilS, .s (.int .i64 0), .s (.int .i64 0), .s (.int .i64 0), .s (.int .i64 0), .s (.int .i64 0), nilS, .s (.int .i64 0), .s (.int .i64 0), .s (.int .i64 0)] ∧ structOk Try.prog 70 = true ∧ fld Try.prog 70 0 = some (0, 1) ∧ agF Try.prog 70 0 = some false ∧ fld Try.prog 70 1 = some (1, 1) ∧ agF Try.prog 70 1 = some false ∧ fld Try.prog 70 2 = some (2, 9) ∧ agF Try.prog 70 2 = some true :=
  ⟨by kernel_rfl, by kernel_rfl, by kernel_rfl, by kernel_rfl, by kernel_rfl, by kernel_rfl, by kernel_rfl, by kernel_rfl, by kernel_rfl, by kernel_rfl, by kernel_rfl, by kernel_rfl, by kernel_rfl⟩
@[go_sem] theorem ft78 : Try.prog.eqGuardType Try.prog.depth 78 = false ∧ sz Try.prog 78 = some 1 ∧ agg Try.prog 78 = false ∧ elt Try.prog 78 = some 2 ∧ arr Try.prog 78 = none ∧ zer Try.prog 78 = some [nilS] ∧ lenS Try.prog 78 = true ∧ cutT Try.prog 78 = some 1 ∧ (∀ (α : Type) (f : α → List D) (x : Sl α), binD Try.prog .eql 78 (x.d f) nilS = some (.s (.bool x.isNil))) ∧ (∀ (α : Type) (f : α → List D) (x : Sl α), binD Try.prog .neq 78 (x.d f) nilS = some (.s (.bool !x.isNil))) ∧ msT Try.prog 78 = some (1, 8, [.s (.int .i64 0)]) :=
  ⟨by kernel_rfl, by kernel_rfl, by kernel_rfl, by kernel_rfl, by kernel_rfl, by kernel_rfl, by kernel_rfl, by kernel_rfl, by intro _ _ x; cases x <;> kernel_rfl, by intro _ _ x; cases x <;> kernel_rfl, by kernel_rfl⟩
@[go_sem] theorem ft79 : Try.prog.eqGuardType Try.prog.depth 79 = false ∧ sz Try.prog 79 = some 1 ∧ agg Try.prog 79 = false ∧ elt Try.prog 79 = none ∧ arr Try.prog 79 = none ∧ zer Try.prog 79 = some [.s .nilFunc] :=
  ⟨by kernel_rfl, by kernel_rfl, by kernel_rfl, by kernel_rfl, by kernel_rfl, by kernel_rfl⟩
@[go_sem] theorem ft80 : Try.prog.eqGuardType Try.prog.depth 80 = false ∧ sz Try.prog 80 = some 1 ∧ agg Try.prog 80 = false ∧ elt Try.prog 80 = some 37 ∧ arr Try.prog 80 = none ∧ zer Try.prog 80 = some [nilS] ∧ lenS Try.prog 80 = true ∧ cutT Try.prog 80 = some 1 ∧ (∀ (α : Type) (f : α → List D) (x : Sl α), binD Try.prog .eql 80 (x.d f) nilS = some (.s (.bool x.isNil))) ∧ (∀ (α : Type) (f : α → List D) (x : Sl α), binD Try.prog .neq 80 (x.d f) nilS = some (.s (.bool !x.isNil))) ∧ msT Try.prog 80 = some (1, 24, [nilS]) :=
  ⟨by kernel_rfl, by kernel_rfl, by kernel_rfl, by kernel_rfl, by kernel_rfl, by kernel_rfl, by kernel_rfl, by kernel_rfl, by intro _ _ x; cases x <;> kernel_rfl, by intro _ _ x; cases x <;> kernel_rfl, by kernel_rfl⟩
@[go_sem] theorem ft84 : Try.prog.eqGuardType Try.prog.depth 84 = false ∧ sz Try.prog 84 = some 1 ∧ agg Try.prog 84 = false ∧ elt Try.prog 84 = none ∧ arr Try.prog 84 = none ∧ zer Try.prog 84 = some [.s (.pointer none)] ∧ (∀ id i off, eqNil Try.prog 84 (.p id i off) (.s (.pointer none)) = some false) ∧ (binD Try.prog .eql 84 (.s (.pointer none)) (.s (.pointer none)) = some (.s (.bool true))) ∧ (binD Try.prog .neq 84 (.s (.pointer none)) (.s (.pointer none)) = some (.s (.bool false))) :=
  ⟨by kernel_rfl, by kernel_rfl, by kernel_rfl, by kernel_rfl, by kernel_rfl, by kernel_rfl, by intros; kernel_rfl, by kernel_rfl, by kernel_rfl⟩
@[go_sem] theorem ft85 : Try.prog.eqGuardType Try.prog.depth 85 = false ∧ sz Try.prog 85 = some 2 ∧ agg Try.prog 85 = true ∧ elt Try.prog 85 = none ∧ arr Try.prog 85 = none ∧ zer Try.prog 85 = some [.s (.pointer none), .s (.int .i64 0)] ∧ structOk Try.prog 85 = true ∧ fld Try.prog 85 0 = some (0, 1) ∧ agF Try.prog 85 0 = some false ∧ fld Try.prog 85 1 = some (1, 1) ∧ agF Try.prog 85 1 = some false :=
  ⟨by kernel_rfl, by kernel_rfl, by kernel_rfl, by kernel_rfl, by kernel_rfl, by kernel_rfl, by kernel_rfl, by kernel_rfl, by kernel_rfl, by kernel_rfl, by kernel_rfl⟩
@[go_sem] theorem ft86 : Try.prog.eqGuardType Try.prog.depth 86 = false ∧ sz Try.prog 86 = some 8 ∧ agg Try.prog 86 = true ∧ elt Try.prog 86 = none ∧ arr Try.prog 86 = some (4, 85) ∧ zer Try.prog 86 = some [.s (.pointer none), .s (.int .i64 0), .s (.pointer none), .s (.int .i64 0), .s (.pointer none), .s (.int .i64 0), .s (.pointer none), .s (.int .i64 0)] ∧ structOk Try.prog 86 = true :=
  ⟨by kernel_rfl, by kernel_rfl, by kernel_rfl, by kernel_rfl, by kernel_rfl, by kernel_rfl, by kernel_rfl⟩
@[go_sem] theorem ft90 : Try.prog.eqGuardType Try.prog.depth 90 = false ∧ sz Try.prog 90 = some 3 ∧ agg Try.prog 90 = true ∧ elt Try.prog 90 = none ∧ arr Try.prog 90 = none ∧ zer Try.prog 90 = some [.s (.pointer none), .s (.int .i64 0), .s (.int .i64 0)] ∧ structOk Try.prog 90 = true ∧ fld Try.prog 90 0 = some (0, 1) ∧ agF Try.prog 90 0 = some false ∧ fld Try.prog 90 1 = some (1, 1) ∧ agF Try.prog 90 1 = some false ∧ fld Try.prog 90 2 = some (2, 1) ∧ agF Try.prog 90 2 = some false :=
  ⟨by kernel_rfl, by kernel_rfl, by kernel_rfl, by kernel_rfl, by kernel_rfl, by kernel_rfl, by kernel_rfl, by kernel_rfl, by kernel_rfl, by kernel_rfl, by kernel_rfl, by kernel_rfl, by kernel_rfl⟩
@[go_sem] theorem ft91 : Try.prog.eqGuardType Try.prog.depth 91 = false ∧ sz Try.prog 91 = some 9 ∧ agg Try.prog 91 = true ∧ elt Try.prog 91 = none ∧ arr Try.prog 91 = some (3, 90) ∧ zer Try.prog 91 = some [.s (.pointer none), .s (.int .i64 0), .s (.int .i64 0), .s (.pointer none), .s (.int .i64 0), .s (.int .i64 0), .s (.pointer none), .s (.int .i64 0), .s (.int .i64 0)] ∧ structOk Try.prog 91 = true :=
  ⟨by kernel_rfl, by kernel_rfl, by kernel_rfl, by kernel_rfl, by kernel_rfl, by kernel_rfl, by kernel_rfl⟩
@[go_sem] theorem fap37_37 : apT Try.prog 37 37 = some (2, 16) := by kernel_rfl
@[go_sem] theorem fap25_25 : apT Try.prog 25 25 = some (6, 48) := by kernel_rfl
@[go_sem] theorem fap24_24 : apT Try.prog 24 24 = some (2, 16) := by kernel_rfl
@[go_sem] theorem fap30_30 : apT Try.prog 30 30 = some (10, 112) := by kernel_rfl
end Go.Proofs.Ytjkojcnimnhclaa

section
/-
  Amounts of money: what the small functions give.
-/
namespace Go.Proofs.Ytjkojcnimnhclaa
open Go Vm
set_option maxRecDepth 4000
set_option linter.unusedSimpArgs false

def ie (x : Int) : List D := [.s (.int .i64 x)]
def okM (x : Int) : Bool := decide (x ≤ 100000000000) && decide (-100000000000 ≤ x)
def okAllM (xs : List Int) : Bool := xs.all okM

theorem okAllM_bad {x : Int} {r : List Int} (h : 100000000000 < x ∨ x < -100000000000) : okAllM (x :: r) = false := by
  simp [okAllM, okM]; omega
theorem okAllM_ok {x : Int} {r : List Int} (h1 : ¬ 100000000000 < x) (h2 : ¬ x < -100000000000) : okAllM (x :: r) = okAllM r := by
  have : okM x = true := by simp [okM]; omega
  simp [okAllM, this]

theorem right28 (xs : Sl Int) (hlen : xs.xs.length < 9223372036854775808) : callI Try.prog cfg 28 [xs.d ie] [] = some ([.s (.bool (okAllM xs.xs))], []) := by
  rw [callI_eq Try.func28 rfl rfl]
  simp only [Try.f28, go_sem, ↓reduceIte, Nat.reduceAdd, Nat.reduceSub, Nat.reduceMul, Nat.reduceLeDiff, Nat.reduceLT, Nat.reduceEqDiff, Int.reduceLT, Int.reduceLE, Int.reduceEq, Int.reduceAdd, Int.reduceNeg, Int.reduceToNat, reduceCtorEq]
  generalize hx : exe _ _ _ (.loop _) _ = r
  obtain ⟨x, st2, rfl, hp⟩ := list_use hx (head0 _ _) xs.xs hlen
    (fun i (_ : Unit) st => rdT st.tm 7 = .s (.int .i64 (i : Int)) ∧ rdT st.tm 6 = .s (.int .i64 (xs.xs.length : Int)) ∧ rdT st.tm 5 = xs.d ie)
    (fun _ l => okAllM l) (fun b x st2 => (x = .exit 0 ∧ b = true) ∨ (x = .ret ∧ rdT st2.tm 2 = .s (.bool false) ∧ b = false)) ()
    (by simp only [go_sem, ↓reduceIte, Nat.reduceAdd, Nat.reduceSub, Nat.reduceMul, Nat.reduceLeDiff, Nat.reduceLT, Nat.reduceEqDiff, Int.reduceLT, Int.reduceLE, Int.reduceEq, Int.reduceAdd, Int.reduceNeg, Int.reduceToNat, reduceCtorEq]) (by
      clear hx
      rintro i _ st a rest ha hd hlt hw ⟨h7, h6, h5⟩
      repeat (any_goals (first | (simp only [*, go_sem, ↓reduceIte, Nat.reduceAdd, Nat.reduceSub, Nat.reduceMul, Nat.reduceLeDiff, Nat.reduceLT, Nat.reduceEqDiff, Int.reduceLT, Int.reduceLE, Int.reduceEq, Int.reduceAdd, Int.reduceNeg, Int.reduceToNat, reduceCtorEq, ie, okAllM_bad, okAllM_ok]) | split)))
    (by
      clear hx
      rintro _ st ⟨h7, h6, h5⟩
      simp only [*, go_sem, ↓reduceIte, Nat.reduceAdd, Nat.reduceSub, Nat.reduceMul, Nat.reduceLeDiff, Nat.reduceLT, Nat.reduceEqDiff, Int.reduceLT, Int.reduceLE, Int.reduceEq, Int.reduceAdd, Int.reduceNeg, Int.reduceToNat, reduceCtorEq, Int.lt_irrefl, okAllM, List.all_nil])
  rcases hp with ⟨rfl, h⟩ | ⟨rfl, h2, h⟩ <;> simp only [*, go_sem, ↓reduceIte, Nat.reduceAdd, Nat.reduceSub, Nat.reduceMul, Nat.reduceLeDiff, Nat.reduceLT, Nat.reduceEqDiff, Int.reduceLT, Int.reduceLE, Int.reduceEq, Int.reduceAdd, Int.reduceNeg, Int.reduceToNat, reduceCtorEq]

theorem right30 (xs : Sl Int) (hlen : xs.xs.length < 9223372036854775808) : callI Try.prog cfg 30 [xs.d ie] [] = some ([.s (.bool (okAllM xs.xs))], []) := by
  rw [callI_eq Try.func30 rfl rfl]
  simp only [Try.f30, go_sem, ↓reduceIte, Nat.reduceAdd, Nat.reduceSub, Nat.reduceMul, Nat.reduceLeDiff, Nat.reduceLT, Nat.reduceEqDiff, Int.reduceLT, Int.reduceLE, Int.reduceEq, Int.reduceAdd, Int.reduceNeg, Int.reduceToNat, reduceCtorEq]
  generalize hx : exe _ _ _ (.loop _) _ = r
  obtain ⟨x, st2, rfl, hp⟩ := list_use hx (head0 _ _) xs.xs hlen
    (fun i (_ : Unit) st => rdT st.tm 7 = .s (.int .i64 (i : Int)) ∧ rdT st.tm 6 = .s (.int .i64 (xs.xs.length : Int)) ∧ rdT st.tm 5 = xs.d ie)
    (fun _ l => okAllM l) (fun b x st2 => (x = .exit 0 ∧ b = true) ∨ (x = .ret ∧ rdT st2.tm 2 = .s (.bool false) ∧ b = false)) ()
    (by simp only [go_sem, ↓reduceIte, Nat.reduceAdd, Nat.reduceSub, Nat.reduceMul, Nat.reduceLeDiff, Nat.reduceLT, Nat.reduceEqDiff, Int.reduceLT, Int.reduceLE, Int.reduceEq, Int.reduceAdd, Int.reduceNeg, Int.reduceToNat, reduceCtorEq]) (by
      clear hx
      rintro i _ st a rest ha hd hlt hw ⟨h7, h6, h5⟩
      repeat (any_goals (first | (simp only [*, go_sem, ↓reduceIte, Nat.reduceAdd, Nat.reduceSub, Nat.reduceMul, Nat.reduceLeDiff, Nat.reduceLT, Nat.reduceEqDiff, Int.reduceLT, Int.reduceLE, Int.reduceEq, Int.reduceAdd, Int.reduceNeg, Int.reduceToNat, reduceCtorEq, ie, okAllM_bad, okAllM_ok]) | split)))
    (by
      clear hx
      rintro _ st ⟨h7, h6, h5⟩
      simp only [*, go_sem, ↓reduceIte, Nat.reduceAdd, Nat.reduceSub, Nat.reduceMul, Nat.reduceLeDiff, Nat.reduceLT, Nat.reduceEqDiff, Int.reduceLT, Int.reduceLE, Int.reduceEq, Int.reduceAdd, Int.reduceNeg, Int.reduceToNat, reduceCtorEq, Int.lt_irrefl, okAllM, List.all_nil])
  rcases hp with ⟨rfl, h⟩ | ⟨rfl, h2, h⟩ <;> simp only [*, go_sem, ↓reduceIte, Nat.reduceAdd, Nat.reduceSub, Nat.reduceMul, Nat.reduceLeDiff, Nat.reduceLT, Nat.reduceEqDiff, Int.reduceLT, Int.reduceLE, Int.reduceEq, Int.reduceAdd, Int.reduceNeg, Int.reduceToNat, reduceCtorEq]

@[go_sem] theorem right28_1 (x0 : Int) : callI Try.prog cfg 28 [.l (some 1) [[.s (.int .i64 x0)]]] [] = some ([.s (.bool (okAllM [x0]))], []) := right28 (.l (some 1) [x0]) (by simp [Sl.xs])
@[go_sem] theorem right28_2 (x0 x1 : Int) : callI Try.prog cfg 28 [.l (some 2) [[.s (.int .i64 x0)], [.s (.int .i64 x1)]]] [] = some ([.s (.bool (okAllM [x0, x1]))], []) := right28 (.l (some 2) [x0, x1]) (by simp [Sl.xs])
@[go_sem] theorem right28_3 (x0 x1 x2 : Int) : callI Try.prog cfg 28 [.l (some 3) [[.s (.int .i64 x0)], [.s (.int .i64 x1)], [.s (.int .i64 x2)]]] [] = some ([.s (.bool (okAllM [x0, x1, x2]))], []) := right28 (.l (some 3) [x0, x1, x2]) (by simp [Sl.xs])
@[go_sem] theorem right28_4 (x0 x1 x2 x3 : Int) : callI Try.prog cfg 28 [.l (some 4) [[.s (.int .i64 x0)], [.s (.int .i64 x1)], [.s (.int .i64 x2)], [.s (.int .i64 x3)]]] [] = some ([.s (.bool (okAllM [x0, x1, x2, x3]))], []) := right28 (.l (some 4) [x0, x1, x2, x3]) (by simp [Sl.xs])
@[go_sem] theorem right28_7 (x0 x1 x2 x3 x4 x5 x6 : Int) : callI Try.prog cfg 28 [.l (some 7) [[.s (.int .i64 x0)], [.s (.int .i64 x1)], [.s (.int .i64 x2)], [.s (.int .i64 x3)], [.s (.int .i64 x4)], [.s (.int .i64 x5)], [.s (.int .i64 x6)]]] [] = some ([.s (.bool (okAllM [x0, x1, x2, x3, x4, x5, x6]))], []) := right28 (.l (some 7) [x0, x1, x2, x3, x4, x5, x6]) (by simp [Sl.xs])
@[go_sem] theorem right30_1 (x0 : Int) : callI Try.prog cfg 30 [.l (some 1) [[.s (.int .i64 x0)]]] [] = some ([.s (.bool (okAllM [x0]))], []) := right30 (.l (some 1) [x0]) (by simp [Sl.xs])
@[go_sem] theorem right30_2 (x0 x1 : Int) : callI Try.prog cfg 30 [.l (some 2) [[.s (.int .i64 x0)], [.s (.int .i64 x1)]]] [] = some ([.s (.bool (okAllM [x0, x1]))], []) := right30 (.l (some 2) [x0, x1]) (by simp [Sl.xs])
@[go_sem] theorem right30_3 (x0 x1 x2 : Int) : callI Try.prog cfg 30 [.l (some 3) [[.s (.int .i64 x0)], [.s (.int .i64 x1)], [.s (.int .i64 x2)]]] [] = some ([.s (.bool (okAllM [x0, x1, x2]))], []) := right30 (.l (some 3) [x0, x1, x2]) (by simp [Sl.xs])
@[go_sem] theorem right30_4 (x0 x1 x2 x3 : Int) : callI Try.prog cfg 30 [.l (some 4) [[.s (.int .i64 x0)], [.s (.int .i64 x1)], [.s (.int .i64 x2)], [.s (.int .i64 x3)]]] [] = some ([.s (.bool (okAllM [x0, x1, x2, x3]))], []) := right30 (.l (some 4) [x0, x1, x2, x3]) (by simp [Sl.xs])
@[go_sem] theorem right30_7 (x0 x1 x2 x3 x4 x5 x6 : Int) : callI Try.prog cfg 30 [.l (some 7) [[.s (.int .i64 x0)], [.s (.int .i64 x1)], [.s (.int .i64 x2)], [.s (.int .i64 x3)], [.s (.int .i64 x4)], [.s (.int .i64 x5)], [.s (.int .i64 x6)]]] [] = some ([.s (.bool (okAllM [x0, x1, x2, x3, x4, x5, x6]))], []) := right30 (.l (some 7) [x0, x1, x2, x3, x4, x5, x6]) (by simp [Sl.xs])

/-- An amount, if it may be; else the error. -/
def chkV (x : Int) : Int := if okM x = true then x else 0
def chkE (x : Int) : Int := if okM x = true then 0 else 10
theorem okAllM_1 (x : Int) : okAllM [x] = okM x := by simp [okAllM]
theorem okAllM_2 (x y : Int) : okAllM [x, y] = (okM x && okM y) := by simp [okAllM]

@[go_sem] theorem check43 (x : Int) : callI Try.prog cfg 43 [.s (.int .i64 x)] [] = some ([.s (.int .i64 (chkV x)), .s (.int .i64 (chkE x))], []) := by
  rw [callI_eq Try.func43 rfl rfl]
  simp only [Try.f43, go_sem, ↓reduceIte, Nat.reduceAdd, Nat.reduceSub, Nat.reduceMul, Nat.reduceLeDiff, Nat.reduceLT, Nat.reduceEqDiff, Int.reduceLT, Int.reduceLE, Int.reduceEq, Int.reduceAdd, Int.reduceNeg, Int.reduceToNat, reduceCtorEq, okAllM_1]
  cases h : okM x <;> repeat (any_goals (first | (simp only [*, go_sem, ↓reduceIte, Nat.reduceAdd, Nat.reduceSub, Nat.reduceMul, Nat.reduceLeDiff, Nat.reduceLT, Nat.reduceEqDiff, Int.reduceLT, Int.reduceLE, Int.reduceEq, Int.reduceAdd, Int.reduceNeg, Int.reduceToNat, reduceCtorEq, chkV, chkE]) | split))

/-- Two amounts together. -/
def addV (x y : Int) : Int := if okM x = true ∧ okM y = true then chkV (x + y) else 0
def addE (x y : Int) : Int := if okM x = true ∧ okM y = true then chkE (x + y) else 10
theorem wrap_ok {x : Int} (h1 : -9223372036854775808 ≤ x) (h2 : x < 9223372036854775808) : IntKind.i64.wrap x = x := by
  rw [IntKind.wrap_i64]; omega
theorem okM_iff {x : Int} : okM x = true ↔ x ≤ 100000000000 ∧ -100000000000 ≤ x := by simp [okM]

@[go_sem] theorem add39 (x y : Int) : callI Try.prog cfg 39 [.s (.int .i64 x), .s (.int .i64 y)] [] = some ([.s (.int .i64 (addV x y)), .s (.int .i64 (addE x y))], []) := by
  rw [callI_eq Try.func39 rfl rfl]
  by_cases h : okM x = true ∧ okM y = true
  · have w : IntKind.i64.wrap (x + y) = x + y := wrap_ok (by simp [okM_iff] at h; omega) (by simp [okM_iff] at h; omega)
    obtain ⟨h1, h2⟩ := h
    simp only [Try.f39, *, go_sem, ↓reduceIte, Nat.reduceAdd, Nat.reduceSub, Nat.reduceMul, Nat.reduceLeDiff, Nat.reduceLT, Nat.reduceEqDiff, Int.reduceLT, Int.reduceLE, Int.reduceEq, Int.reduceAdd, Int.reduceNeg, Int.reduceToNat, reduceCtorEq, okAllM_2, addV, addE]
  · have h2 : (okM x && okM y) = false := by cases h3 : okM x <;> cases h4 : okM y <;> simp_all
    simp only [Try.f39, *, go_sem, ↓reduceIte, Nat.reduceAdd, Nat.reduceSub, Nat.reduceMul, Nat.reduceLeDiff, Nat.reduceLT, Nat.reduceEqDiff, Int.reduceLT, Int.reduceLE, Int.reduceEq, Int.reduceAdd, Int.reduceNeg, Int.reduceToNat, reduceCtorEq, okAllM_2, addV, addE]

end Go.Proofs.Ytjkojcnimnhclaa
end

section
/-
  What orders took together; what shares come to together; bases together.
-/
namespace Go.Proofs.Ytjkojcnimnhclaa
open Go Vm
set_option maxRecDepth 4000
set_option linter.unusedSimpArgs false

/-- A share: its two sides. -/
structure Sh where
  a : Int
  b : Int
  deriving DecidableEq
def she (s : Sh) : List D := [.s (.int .i64 s.a), .s (.int .i64 s.b)]
/-- What an order took, as it is told. -/
structure Tk where
  order : Int
  brought : Int
  ordered : Int
  due : Int
  taken : Int
  carried : Int
  deriving DecidableEq
def te (t : Tk) : List D := [.s (.int .i64 t.order), .s (.int .i64 t.brought), .s (.int .i64 t.ordered), .s (.int .i64 t.due), .s (.int .i64 t.taken), .s (.int .i64 t.carried)]

/-- What shares come to together: both sides, and the error. -/
def totF : Int × Int → List Sh → Int × Int × Int
  | (a, b), [] => (a, b, 0)
  | (a, b), s :: r => if addE a s.a = 0 then (if addE b s.b = 0 then totF (addV a s.a, addV b s.b) r else (0, 0, addE b s.b)) else (0, 0, addE a s.a)

def blk2 (a b : Int) : Blk := ⟨[[.s (.int .i64 a), .s (.int .i64 b)]], false, 0, true, none⟩

@[go_sem] theorem total40 (xs : Sl Sh) (hlen : xs.xs.length < 9223372036854775808) : callI Try.prog cfg 40 [xs.d she] [] = some ([.g [.s (.int .i64 (totF (0, 0) xs.xs).1), .s (.int .i64 (totF (0, 0) xs.xs).2.1)], .s (.int .i64 (totF (0, 0) xs.xs).2.2)], []) := by
  rw [callI_eq Try.func40 rfl rfl]
  simp only [Try.f40, go_sem, ↓reduceIte, Nat.reduceAdd, Nat.reduceSub, Nat.reduceMul, Nat.reduceLeDiff, Nat.reduceLT, Nat.reduceEqDiff, Int.reduceLT, Int.reduceLE, Int.reduceEq, Int.reduceAdd, Int.reduceNeg, Int.reduceToNat, reduceCtorEq]
  generalize hx : exe _ _ _ (.loop _) _ = r
  obtain ⟨x, st2, rfl, hp⟩ := list_use hx (head0 _ _) xs.xs hlen
    (fun i (ab : Int × Int) st => rdT st.tm 12 = .s (.int .i64 (i : Int)) ∧ rdT st.tm 11 = .s (.int .i64 (xs.xs.length : Int)) ∧ rdT st.tm 10 = xs.d she ∧ rdT st.tm 4 = .p 46 0 0 ∧ rdT st.tm 2 = .p 45 0 0 ∧ 46 < st.nx ∧ rdH st.hp 46 = blk2 ab.1 ab.2 ∧ rdH st.hp 45 = blk2 0 0)
    totF (fun r x st2 => (x = .exit 0 ∧ rdT st2.tm 4 = .p 46 0 0 ∧ rdT st2.tm 2 = .p 45 0 0 ∧ rdH st2.hp 46 = blk2 r.1 r.2.1 ∧ rdH st2.hp 45 = blk2 0 0 ∧ r.2.2 = 0) ∨ (x = .ret ∧ rdT st2.tm 2 = .p 45 0 0 ∧ rdH st2.hp 45 = blk2 r.1 r.2.1 ∧ rdT st2.tm 3 = .s (.int .i64 r.2.2))) (0, 0)
    (by simp only [go_sem, ↓reduceIte, Nat.reduceAdd, Nat.reduceSub, Nat.reduceMul, Nat.reduceLeDiff, Nat.reduceLT, Nat.reduceEqDiff, Int.reduceLT, Int.reduceLE, Int.reduceEq, Int.reduceAdd, Int.reduceNeg, Int.reduceToNat, reduceCtorEq, blk2]) (by
      clear hx
      rintro i ⟨a, b⟩ st s rest ha hd hlt hw ⟨h12, h11, h10, h4, h2, hnx, h46, h45⟩
      have n1 : ¬ st.nx = 46 := by omega
      have n2 : ¬ st.nx = 45 := by omega
      have n3 : 46 < st.nx + 1 := by omega
      repeat (any_goals (first | (simp only [*, go_sem, ↓reduceIte, Nat.reduceAdd, Nat.reduceSub, Nat.reduceMul, Nat.reduceLeDiff, Nat.reduceLT, Nat.reduceEqDiff, Int.reduceLT, Int.reduceLE, Int.reduceEq, Int.reduceAdd, Int.reduceNeg, Int.reduceToNat, reduceCtorEq, she, blk2, totF]) | split))
      exact ⟨(_, _), rfl, rfl⟩)
    (by
      clear hx
      rintro ⟨a, b⟩ st ⟨h12, h11, h10, h4, h2, hnx, h46, h45⟩
      repeat (any_goals (first | (simp only [*, go_sem, ↓reduceIte, Nat.reduceAdd, Nat.reduceSub, Nat.reduceMul, Nat.reduceLeDiff, Nat.reduceLT, Nat.reduceEqDiff, Int.reduceLT, Int.reduceLE, Int.reduceEq, Int.reduceAdd, Int.reduceNeg, Int.reduceToNat, reduceCtorEq, Int.lt_irrefl, totF, blk2]) | split)))
  rcases hp with ⟨rfl, h1, h2, h3, h4, h5⟩ | ⟨rfl, h1, h2, h3⟩ <;> simp only [*, go_sem, ↓reduceIte, Nat.reduceAdd, Nat.reduceSub, Nat.reduceMul, Nat.reduceLeDiff, Nat.reduceLT, Nat.reduceEqDiff, Int.reduceLT, Int.reduceLE, Int.reduceEq, Int.reduceAdd, Int.reduceNeg, Int.reduceToNat, reduceCtorEq, blk2]


theorem she_len (a : Sh) : (she a).length = 2 := (rfl)
theorem te_len (a : Tk) : (te a).length = 6 := (rfl)
attribute [go_sem] she_len te_len

@[go_sem] theorem total40_2 (a b c d : Int) : callI Try.prog cfg 40 [.l (some 2) [[.s (.int .i64 a), .s (.int .i64 b)], [.s (.int .i64 c), .s (.int .i64 d)]]] [] =
    some ([.g [.s (.int .i64 (totF (0, 0) [⟨a, b⟩, ⟨c, d⟩]).1), .s (.int .i64 (totF (0, 0) [⟨a, b⟩, ⟨c, d⟩]).2.1)], .s (.int .i64 (totF (0, 0) [⟨a, b⟩, ⟨c, d⟩]).2.2)], []) := total40 (.l (some 2) [⟨a, b⟩, ⟨c, d⟩]) (by simp [Sl.xs])
@[go_sem] theorem sides38 (xs : Sl Sh) (hlen : xs.xs.length < 9223372036854775808) : callI Try.prog cfg 38 [xs.d she] [] = some ([.g [.s (.int .i64 (totF (0, 0) xs.xs).1), .s (.int .i64 (totF (0, 0) xs.xs).2.1)], .s (.int .i64 (totF (0, 0) xs.xs).2.2)], []) := by
  rw [callI_eq Try.func38 rfl rfl]
  simp only [Try.f38, *, go_sem, ↓reduceIte, Nat.reduceAdd, Nat.reduceSub, Nat.reduceMul, Nat.reduceLeDiff, Nat.reduceLT, Nat.reduceEqDiff, Int.reduceLT, Int.reduceLE, Int.reduceEq, Int.reduceAdd, Int.reduceNeg, Int.reduceToNat, reduceCtorEq]
@[go_sem] theorem employee26 (xs : Sl Sh) (hlen : xs.xs.length < 9223372036854775808) : callI Try.prog cfg 26 [xs.d she] [] = some ([.s (.int .i64 (totF (0, 0) xs.xs).1), .s (.int .i64 (totF (0, 0) xs.xs).2.2)], []) := by
  rw [callI_eq Try.func26 rfl rfl]
  simp only [Try.f26, *, go_sem, ↓reduceIte, Nat.reduceAdd, Nat.reduceSub, Nat.reduceMul, Nat.reduceLeDiff, Nat.reduceLT, Nat.reduceEqDiff, Int.reduceLT, Int.reduceLE, Int.reduceEq, Int.reduceAdd, Int.reduceNeg, Int.reduceToNat, reduceCtorEq]
@[go_sem] theorem right27 (a b c : Int) : callI Try.prog cfg 27 [.g [.s (.int .i64 a), .s (.int .i64 b), .s (.int .i64 c)]] [] = some ([.s (.bool (okAllM [a, b, c]))], []) := by
  rw [callI_eq Try.func27 rfl rfl]
  simp only [Try.f27, *, go_sem, ↓reduceIte, Nat.reduceAdd, Nat.reduceSub, Nat.reduceMul, Nat.reduceLeDiff, Nat.reduceLT, Nat.reduceEqDiff, Int.reduceLT, Int.reduceLE, Int.reduceEq, Int.reduceAdd, Int.reduceNeg, Int.reduceToNat, reduceCtorEq]

/-- What orders took together: the sum, and the error. -/
def sumF : Int → List Int → Int × Int
  | s, [] => (s, 0)
  | s, x :: r => if addE s x = 0 then sumF (addV s x) r else (0, addE s x)
@[go_sem] theorem sum29 (xs : Sl Tk) (hlen : xs.xs.length < 9223372036854775808) : callI Try.prog cfg 29 [xs.d te] [] = some ([.s (.int .i64 (sumF 0 (xs.xs.map (·.taken))).1), .s (.int .i64 (sumF 0 (xs.xs.map (·.taken))).2)], []) := by
  rw [callI_eq Try.func29 rfl rfl]
  simp only [Try.f29, go_sem, ↓reduceIte, Nat.reduceAdd, Nat.reduceSub, Nat.reduceMul, Nat.reduceLeDiff, Nat.reduceLT, Nat.reduceEqDiff, Int.reduceLT, Int.reduceLE, Int.reduceEq, Int.reduceAdd, Int.reduceNeg, Int.reduceToNat, reduceCtorEq]
  generalize hx : exe _ _ _ (.loop _) _ = r
  obtain ⟨x, st2, rfl, hp⟩ := list_use hx (head0 _ _) xs.xs hlen
    (fun i (s : Int) st => rdT st.tm 11 = .s (.int .i64 (i : Int)) ∧ rdT st.tm 10 = .s (.int .i64 (xs.xs.length : Int)) ∧ rdT st.tm 9 = xs.d te ∧ rdT st.tm 4 = .s (.int .i64 s))
    (fun s l => sumF s (l.map (·.taken))) (fun r x st2 => (x = .exit 0 ∧ rdT st2.tm 4 = .s (.int .i64 r.1) ∧ r.2 = 0) ∨ (x = .ret ∧ rdT st2.tm 2 = .s (.int .i64 r.1) ∧ rdT st2.tm 3 = .s (.int .i64 r.2))) 0
    (by simp only [go_sem, ↓reduceIte, Nat.reduceAdd, Nat.reduceSub, Nat.reduceMul, Nat.reduceLeDiff, Nat.reduceLT, Nat.reduceEqDiff, Int.reduceLT, Int.reduceLE, Int.reduceEq, Int.reduceAdd, Int.reduceNeg, Int.reduceToNat, reduceCtorEq]) (by
      clear hx
      rintro i s st t rest ha hd hlt hw ⟨h11, h10, h9, h4⟩
      repeat (any_goals (first | (simp only [*, go_sem, ↓reduceIte, Nat.reduceAdd, Nat.reduceSub, Nat.reduceMul, Nat.reduceLeDiff, Nat.reduceLT, Nat.reduceEqDiff, Int.reduceLT, Int.reduceLE, Int.reduceEq, Int.reduceAdd, Int.reduceNeg, Int.reduceToNat, reduceCtorEq, te, sumF]) | split))
      exact ⟨_, rfl, rfl⟩)
    (by
      clear hx
      rintro s st ⟨h11, h10, h9, h4⟩
      repeat (any_goals (first | (simp only [*, go_sem, ↓reduceIte, Nat.reduceAdd, Nat.reduceSub, Nat.reduceMul, Nat.reduceLeDiff, Nat.reduceLT, Nat.reduceEqDiff, Int.reduceLT, Int.reduceLE, Int.reduceEq, Int.reduceAdd, Int.reduceNeg, Int.reduceToNat, reduceCtorEq, Int.lt_irrefl, sumF]) | split)))
  rcases hp with ⟨rfl, h1, h2⟩ | ⟨rfl, h1, h2⟩ <;> simp only [*, go_sem, ↓reduceIte, Nat.reduceAdd, Nat.reduceSub, Nat.reduceMul, Nat.reduceLeDiff, Nat.reduceLT, Nat.reduceEqDiff, Int.reduceLT, Int.reduceLE, Int.reduceEq, Int.reduceAdd, Int.reduceNeg, Int.reduceToNat, reduceCtorEq]

/-- Bases together, one by one. -/
def bs3 (a b c : Int) : List D := [.s (.int .i64 a), .s (.int .i64 b), .s (.int .i64 c)]
def basE (a b c d e f : Int) : Int := if addE a d = 0 then (if addE b e = 0 then addE c f else addE b e) else addE a d
def basV (a b c d e f : Int) : List D := if basE a b c d e f = 0 then bs3 (addV a d) (addV b e) (addV c f) else bs3 0 0 0
@[go_sem] theorem both44 (a b c d e f : Int) : callI Try.prog cfg 44 [.g [.s (.int .i64 a), .s (.int .i64 b), .s (.int .i64 c)], .g [.s (.int .i64 d), .s (.int .i64 e), .s (.int .i64 f)], .f (.func 39) [] []] [] =
    some ([.g (basV a b c d e f), .s (.int .i64 (basE a b c d e f))], []) := by
  rw [callI_eq Try.func44 rfl rfl]
  simp only [Try.f44, *, go_sem, ↓reduceIte, Nat.reduceAdd, Nat.reduceSub, Nat.reduceMul, Nat.reduceLeDiff, Nat.reduceLT, Nat.reduceEqDiff, Int.reduceLT, Int.reduceLE, Int.reduceEq, Int.reduceAdd, Int.reduceNeg, Int.reduceToNat, reduceCtorEq]
  have w1 : IntKind.i64.wrap 1 = 1 := by decide
  have w2 : IntKind.i64.wrap 2 = 2 := by decide
  have w3 : IntKind.i64.wrap 3 = 3 := by decide
  repeat (any_goals (first | (simp only [*, go_sem, ↓reduceIte, Nat.reduceAdd, Nat.reduceSub, Nat.reduceMul, Nat.reduceLeDiff, Nat.reduceLT, Nat.reduceEqDiff, Int.reduceLT, Int.reduceLE, Int.reduceEq, Int.reduceAdd, Int.reduceNeg, Int.reduceToNat, reduceCtorEq, e_loop, head0, basV, basE, bs3]) | split))

@[go_sem] theorem add41 (a b c d e f : Int) : callI Try.prog cfg 41 [.g [.s (.int .i64 a), .s (.int .i64 b), .s (.int .i64 c)], .g [.s (.int .i64 d), .s (.int .i64 e), .s (.int .i64 f)]] [] =
    some ([.g (basV a b c d e f), .s (.int .i64 (basE a b c d e f))], []) := by
  rw [callI_eq Try.func41 rfl rfl]
  by_cases h : basE a b c d e f = 0 <;> repeat (any_goals (first | (simp only [*, go_sem, ↓reduceIte, Nat.reduceAdd, Nat.reduceSub, Nat.reduceMul, Nat.reduceLeDiff, Nat.reduceLT, Nat.reduceEqDiff, Int.reduceLT, Int.reduceLE, Int.reduceEq, Int.reduceAdd, Int.reduceNeg, Int.reduceToNat, reduceCtorEq, Try.f41, basV, bs3]) | split))

/-! Copies -/
def cloneS {α : Type} : Sl α → Sl α
  | .nil => .nil
  | .l _ [] => .l (some 0) []
  | .l _ (x :: r) => .l none (x :: r)
@[go_sem] theorem cloneS_xs {α : Type} (x : Sl α) : (cloneS x).xs = x.xs := by
  cases x with
  | nil => rfl
  | l c xs => cases xs <;> rfl

theorem sl_l {α : Type} (f : α → List D) (c : Option Nat) (xs : List α) : (Sl.l c xs).d f = .l c (xs.map f) := rfl
theorem sl_nil {α : Type} (f : α → List D) : (Sl.nil : Sl α).d f = nilS := rfl
theorem take_map {α β : Type} (f : α → β) (xs : List α) : (xs.map f).take xs.length = xs.map f := by rw [← List.length_map (f := f), List.take_length]
theorem cloneS_ne {α : Type} {x : Sl α} (h : ¬ x.xs.isEmpty = true) (f : α → List D) : (cloneS x).d f = .l none (x.xs.map f) := by
  cases x with
  | nil => simp [Sl.xs] at h
  | l c xs => cases xs with
    | nil => simp [Sl.xs] at h
    | cons a r => rfl
theorem cloneS_e {α : Type} {x : Sl α} (h : x.xs.isEmpty = true) (hn : ¬ x.isNil = true) (f : α → List D) : (cloneS x).d f = .l (some 0) [] := by
  cases x with
  | nil => simp [Sl.isNil] at hn
  | l c xs => cases xs with
    | nil => rfl
    | cons a r => simp [Sl.xs] at h
theorem cloneS_n {α : Type} {x : Sl α} (hn : x.isNil = true) (f : α → List D) : (cloneS x).d f = nilS := by
  cases x with
  | nil => rfl
  | l c xs => simp [Sl.isNil] at hn

@[go_sem] theorem clone22 (x : Sl Sh) (hlen : x.xs.length ≤ 1000000) : callI Try.prog cfg 22 [x.d she] [] = some ([(cloneS x).d she], []) := by
  rw [callI_eq Try.func22 rfl rfl]
  have happ := app_clone (bytes := 16) x she_len (by omega) (by omega)
  repeat (any_goals (first | (simp only [*, go_sem, ↓reduceIte, Nat.reduceAdd, Nat.reduceSub, Nat.reduceMul, Nat.reduceLeDiff, Nat.reduceLT, Nat.reduceEqDiff, Int.reduceLT, Int.reduceLE, Int.reduceEq, Int.reduceAdd, Int.reduceNeg, Int.reduceToNat, reduceCtorEq, Try.f22, cloneS_n, cloneS_e, cloneS_ne, take_map]) | split))

end Go.Proofs.Ytjkojcnimnhclaa
end

section
/-
  Lists of shares, and of what orders took: copies; when they are the same.
-/
namespace Go.Proofs.Ytjkojcnimnhclaa
open Go Vm
set_option maxRecDepth 4000
set_option linter.unusedSimpArgs false
set_option linter.unusedVariables false

@[go_sem] theorem sh_eq (a c : Sh) : (decide (a.a = c.a) && decide (a.b = c.b)) = decide (a = c) := by
  obtain ⟨a1, a2⟩ := a; obtain ⟨c1, c2⟩ := c
  rw [Bool.eq_iff_iff]; simp
@[go_sem] theorem te_eq (a c : Tk) : (decide (a.order = c.order) && (decide (a.brought = c.brought) && (decide (a.ordered = c.ordered) && (decide (a.due = c.due) && (decide (a.taken = c.taken) && decide (a.carried = c.carried)))))) = decide (a = c) := by
  obtain ⟨a1, a2, a3, a4, a5, a6⟩ := a; obtain ⟨c1, c2, c3, c4, c5, c6⟩ := c
  rw [Bool.eq_iff_iff]; simp
theorem cons_dec_ne {α : Type} [DecidableEq α] {a c : α} {r q : List α} (h : ¬ a = c) : decide (a :: r = c :: q) = false := by simp [h]
theorem cons_dec_eq {α : Type} [DecidableEq α] {a : α} {r q : List α} : decide (a :: r = a :: q) = decide (r = q) := by simp
theorem len_ne {α : Type} [DecidableEq α] {x y : List α} (h : ¬ (x.length : Int) = (y.length : Int)) : decide (x = y) = false := by
  simp; intro e; exact h (by rw [e])

@[go_sem] theorem clone23 (x : Sl Tk) (hlen : x.xs.length ≤ 1000000) : callI Try.prog cfg 23 [x.d te] [] = some ([(cloneS x).d te], []) := by
  rw [callI_eq Try.func23 rfl rfl]
  have happ := app_clone (bytes := 48) x te_len (by omega) (by omega)
  repeat (any_goals (first | (simp only [*, go_sem, ↓reduceIte, Nat.reduceAdd, Nat.reduceSub, Nat.reduceMul, Nat.reduceLeDiff, Nat.reduceLT, Nat.reduceEqDiff, Int.reduceLT, Int.reduceLE, Int.reduceEq, Int.reduceAdd, Int.reduceNeg, Int.reduceToNat, reduceCtorEq, Try.f23, cloneS_n, cloneS_e, cloneS_ne, take_map]) | split))

@[go_sem] theorem clone37 (x : Sl Sh) (hlen : x.xs.length ≤ 1000000) : callI Try.prog cfg 37 [x.d she] [] = some ([(cloneS x).d she], []) := by
  rw [callI_eq Try.func37 rfl rfl]
  have happ := app_clone (bytes := 16) x she_len (by omega) (by omega)
  repeat (any_goals (first | (simp only [*, go_sem, ↓reduceIte, Nat.reduceAdd, Nat.reduceSub, Nat.reduceMul, Nat.reduceLeDiff, Nat.reduceLT, Nat.reduceEqDiff, Int.reduceLT, Int.reduceLE, Int.reduceEq, Int.reduceAdd, Int.reduceNeg, Int.reduceToNat, reduceCtorEq, Try.f37, cloneS_n, cloneS_e, cloneS_ne, take_map]) | split))

@[go_sem] theorem equal33 (x y : Sl Sh) (hlen : x.xs.length < 9223372036854775808) : callI Try.prog cfg 33 [x.d she, y.d she] [] = some ([.s (.bool (decide (x.xs = y.xs)))], []) := by
  rw [callI_eq Try.func33 rfl rfl]
  by_cases hn : (x.xs.length : Int) = (y.xs.length : Int)
  case neg => repeat (any_goals (first | (simp only [*, go_sem, ↓reduceIte, Nat.reduceAdd, Nat.reduceSub, Nat.reduceMul, Nat.reduceLeDiff, Nat.reduceLT, Nat.reduceEqDiff, Int.reduceLT, Int.reduceLE, Int.reduceEq, Int.reduceAdd, Int.reduceNeg, Int.reduceToNat, reduceCtorEq, Try.f33, len_ne hn]) | split))
  simp only [Try.f33, *, go_sem, ↓reduceIte, Nat.reduceAdd, Nat.reduceSub, Nat.reduceMul, Nat.reduceLeDiff, Nat.reduceLT, Nat.reduceEqDiff, Int.reduceLT, Int.reduceLE, Int.reduceEq, Int.reduceAdd, Int.reduceNeg, Int.reduceToNat, reduceCtorEq]
  generalize hx : exe _ _ _ (.loop _) _ = r
  obtain ⟨z, st2, rfl, hp⟩ := list_use hx (head0 _ _) x.xs hlen
    (fun i (b : List Sh) st => rdT st.tm 13 = .s (.int .i64 (i : Int)) ∧ rdT st.tm 12 = .s (.int .i64 (y.xs.length : Int)) ∧ rdT st.tm 0 = x.d she ∧ rdT st.tm 1 = y.d she ∧ b = y.xs.drop i)
    (fun b l => decide (l = b)) (fun r x st2 => (x = .exit 0 ∧ r = true) ∨ (x = .ret ∧ rdT st2.tm 4 = .s (.bool false) ∧ r = false)) y.xs
    (by simp only [*, go_sem, ↓reduceIte, Nat.reduceAdd, Nat.reduceSub, Nat.reduceMul, Nat.reduceLeDiff, Nat.reduceLT, Nat.reduceEqDiff, Int.reduceLT, Int.reduceLE, Int.reduceEq, Int.reduceAdd, Int.reduceNeg, Int.reduceToNat, reduceCtorEq]) (by
      clear hx
      rintro i b st a rest ha hd hlt hw ⟨h13, h12, h0, h1, rfl⟩
      have hiy : i < y.xs.length := by omega
      have hc : y.xs[i]? = some y.xs[i] := by simp [hiy]
      have hdy : y.xs.drop i = y.xs[i] :: y.xs.drop (i + 1) := List.drop_eq_getElem_cons hiy
      have hlt2 : (i : Int) < (y.xs.length : Int) := by omega
      generalize y.xs[i] = c at hc hdy
      by_cases hac : a = c
      · subst hac
        simp only [*, go_sem, ↓reduceIte, Nat.reduceAdd, Nat.reduceSub, Nat.reduceMul, Nat.reduceLeDiff, Nat.reduceLT, Nat.reduceEqDiff, Int.reduceLT, Int.reduceLE, Int.reduceEq, Int.reduceAdd, Int.reduceNeg, Int.reduceToNat, reduceCtorEq, she, cons_dec_eq]
      · simp only [*, go_sem, ↓reduceIte, Nat.reduceAdd, Nat.reduceSub, Nat.reduceMul, Nat.reduceLeDiff, Nat.reduceLT, Nat.reduceEqDiff, Int.reduceLT, Int.reduceLE, Int.reduceEq, Int.reduceAdd, Int.reduceNeg, Int.reduceToNat, reduceCtorEq, she, cons_dec_ne hac])
    (by
      clear hx
      rintro b st ⟨h13, h12, h0, h1, rfl⟩
      have : x.xs.length = y.xs.length := by omega
      simp only [*, go_sem, ↓reduceIte, Nat.reduceAdd, Nat.reduceSub, Nat.reduceMul, Nat.reduceLeDiff, Nat.reduceLT, Nat.reduceEqDiff, Int.reduceLT, Int.reduceLE, Int.reduceEq, Int.reduceAdd, Int.reduceNeg, Int.reduceToNat, reduceCtorEq, Int.lt_irrefl, List.drop_length])
  rcases hp with ⟨rfl, h⟩ | ⟨rfl, h2, h⟩ <;> simp only [*, go_sem, ↓reduceIte, Nat.reduceAdd, Nat.reduceSub, Nat.reduceMul, Nat.reduceLeDiff, Nat.reduceLT, Nat.reduceEqDiff, Int.reduceLT, Int.reduceLE, Int.reduceEq, Int.reduceAdd, Int.reduceNeg, Int.reduceToNat, reduceCtorEq]

@[go_sem] theorem equal35 (x y : Sl Sh) (hlen : x.xs.length < 9223372036854775808) : callI Try.prog cfg 35 [x.d she, y.d she] [] = some ([.s (.bool (decide (x.xs = y.xs)))], []) := by
  rw [callI_eq Try.func35 rfl rfl]
  by_cases hn : (x.xs.length : Int) = (y.xs.length : Int)
  case neg => repeat (any_goals (first | (simp only [*, go_sem, ↓reduceIte, Nat.reduceAdd, Nat.reduceSub, Nat.reduceMul, Nat.reduceLeDiff, Nat.reduceLT, Nat.reduceEqDiff, Int.reduceLT, Int.reduceLE, Int.reduceEq, Int.reduceAdd, Int.reduceNeg, Int.reduceToNat, reduceCtorEq, Try.f35, len_ne hn]) | split))
  simp only [Try.f35, *, go_sem, ↓reduceIte, Nat.reduceAdd, Nat.reduceSub, Nat.reduceMul, Nat.reduceLeDiff, Nat.reduceLT, Nat.reduceEqDiff, Int.reduceLT, Int.reduceLE, Int.reduceEq, Int.reduceAdd, Int.reduceNeg, Int.reduceToNat, reduceCtorEq]
  generalize hx : exe _ _ _ (.loop _) _ = r
  obtain ⟨z, st2, rfl, hp⟩ := list_use hx (head0 _ _) x.xs hlen
    (fun i (b : List Sh) st => rdT st.tm 13 = .s (.int .i64 (i : Int)) ∧ rdT st.tm 12 = .s (.int .i64 (y.xs.length : Int)) ∧ rdT st.tm 0 = x.d she ∧ rdT st.tm 1 = y.d she ∧ b = y.xs.drop i)
    (fun b l => decide (l = b)) (fun r x st2 => (x = .exit 0 ∧ r = true) ∨ (x = .ret ∧ rdT st2.tm 4 = .s (.bool false) ∧ r = false)) y.xs
    (by simp only [*, go_sem, ↓reduceIte, Nat.reduceAdd, Nat.reduceSub, Nat.reduceMul, Nat.reduceLeDiff, Nat.reduceLT, Nat.reduceEqDiff, Int.reduceLT, Int.reduceLE, Int.reduceEq, Int.reduceAdd, Int.reduceNeg, Int.reduceToNat, reduceCtorEq]) (by
      clear hx
      rintro i b st a rest ha hd hlt hw ⟨h13, h12, h0, h1, rfl⟩
      have hiy : i < y.xs.length := by omega
      have hc : y.xs[i]? = some y.xs[i] := by simp [hiy]
      have hdy : y.xs.drop i = y.xs[i] :: y.xs.drop (i + 1) := List.drop_eq_getElem_cons hiy
      have hlt2 : (i : Int) < (y.xs.length : Int) := by omega
      generalize y.xs[i] = c at hc hdy
      by_cases hac : a = c
      · subst hac
        simp only [*, go_sem, ↓reduceIte, Nat.reduceAdd, Nat.reduceSub, Nat.reduceMul, Nat.reduceLeDiff, Nat.reduceLT, Nat.reduceEqDiff, Int.reduceLT, Int.reduceLE, Int.reduceEq, Int.reduceAdd, Int.reduceNeg, Int.reduceToNat, reduceCtorEq, she, cons_dec_eq]
      · simp only [*, go_sem, ↓reduceIte, Nat.reduceAdd, Nat.reduceSub, Nat.reduceMul, Nat.reduceLeDiff, Nat.reduceLT, Nat.reduceEqDiff, Int.reduceLT, Int.reduceLE, Int.reduceEq, Int.reduceAdd, Int.reduceNeg, Int.reduceToNat, reduceCtorEq, she, cons_dec_ne hac])
    (by
      clear hx
      rintro b st ⟨h13, h12, h0, h1, rfl⟩
      have : x.xs.length = y.xs.length := by omega
      simp only [*, go_sem, ↓reduceIte, Nat.reduceAdd, Nat.reduceSub, Nat.reduceMul, Nat.reduceLeDiff, Nat.reduceLT, Nat.reduceEqDiff, Int.reduceLT, Int.reduceLE, Int.reduceEq, Int.reduceAdd, Int.reduceNeg, Int.reduceToNat, reduceCtorEq, Int.lt_irrefl, List.drop_length])
  rcases hp with ⟨rfl, h⟩ | ⟨rfl, h2, h⟩ <;> simp only [*, go_sem, ↓reduceIte, Nat.reduceAdd, Nat.reduceSub, Nat.reduceMul, Nat.reduceLeDiff, Nat.reduceLT, Nat.reduceEqDiff, Int.reduceLT, Int.reduceLE, Int.reduceEq, Int.reduceAdd, Int.reduceNeg, Int.reduceToNat, reduceCtorEq]

@[go_sem] theorem equal36 (x y : Sl Tk) (hlen : x.xs.length < 9223372036854775808) : callI Try.prog cfg 36 [x.d te, y.d te] [] = some ([.s (.bool (decide (x.xs = y.xs)))], []) := by
  rw [callI_eq Try.func36 rfl rfl]
  by_cases hn : (x.xs.length : Int) = (y.xs.length : Int)
  case neg => repeat (any_goals (first | (simp only [*, go_sem, ↓reduceIte, Nat.reduceAdd, Nat.reduceSub, Nat.reduceMul, Nat.reduceLeDiff, Nat.reduceLT, Nat.reduceEqDiff, Int.reduceLT, Int.reduceLE, Int.reduceEq, Int.reduceAdd, Int.reduceNeg, Int.reduceToNat, reduceCtorEq, Try.f36, len_ne hn]) | split))
  simp only [Try.f36, *, go_sem, ↓reduceIte, Nat.reduceAdd, Nat.reduceSub, Nat.reduceMul, Nat.reduceLeDiff, Nat.reduceLT, Nat.reduceEqDiff, Int.reduceLT, Int.reduceLE, Int.reduceEq, Int.reduceAdd, Int.reduceNeg, Int.reduceToNat, reduceCtorEq]
  generalize hx : exe _ _ _ (.loop _) _ = r
  obtain ⟨z, st2, rfl, hp⟩ := list_use hx (head0 _ _) x.xs hlen
    (fun i (b : List Tk) st => rdT st.tm 13 = .s (.int .i64 (i : Int)) ∧ rdT st.tm 12 = .s (.int .i64 (y.xs.length : Int)) ∧ rdT st.tm 0 = x.d te ∧ rdT st.tm 1 = y.d te ∧ b = y.xs.drop i)
    (fun b l => decide (l = b)) (fun r x st2 => (x = .exit 0 ∧ r = true) ∨ (x = .ret ∧ rdT st2.tm 4 = .s (.bool false) ∧ r = false)) y.xs
    (by simp only [*, go_sem, ↓reduceIte, Nat.reduceAdd, Nat.reduceSub, Nat.reduceMul, Nat.reduceLeDiff, Nat.reduceLT, Nat.reduceEqDiff, Int.reduceLT, Int.reduceLE, Int.reduceEq, Int.reduceAdd, Int.reduceNeg, Int.reduceToNat, reduceCtorEq]) (by
      clear hx
      rintro i b st a rest ha hd hlt hw ⟨h13, h12, h0, h1, rfl⟩
      have hiy : i < y.xs.length := by omega
      have hc : y.xs[i]? = some y.xs[i] := by simp [hiy]
      have hdy : y.xs.drop i = y.xs[i] :: y.xs.drop (i + 1) := List.drop_eq_getElem_cons hiy
      have hlt2 : (i : Int) < (y.xs.length : Int) := by omega
      generalize y.xs[i] = c at hc hdy
      by_cases hac : a = c
      · subst hac
        simp only [*, go_sem, ↓reduceIte, Nat.reduceAdd, Nat.reduceSub, Nat.reduceMul, Nat.reduceLeDiff, Nat.reduceLT, Nat.reduceEqDiff, Int.reduceLT, Int.reduceLE, Int.reduceEq, Int.reduceAdd, Int.reduceNeg, Int.reduceToNat, reduceCtorEq, te, cons_dec_eq]
      · simp only [*, go_sem, ↓reduceIte, Nat.reduceAdd, Nat.reduceSub, Nat.reduceMul, Nat.reduceLeDiff, Nat.reduceLT, Nat.reduceEqDiff, Int.reduceLT, Int.reduceLE, Int.reduceEq, Int.reduceAdd, Int.reduceNeg, Int.reduceToNat, reduceCtorEq, te, cons_dec_ne hac])
    (by
      clear hx
      rintro b st ⟨h13, h12, h0, h1, rfl⟩
      have : x.xs.length = y.xs.length := by omega
      simp only [*, go_sem, ↓reduceIte, Nat.reduceAdd, Nat.reduceSub, Nat.reduceMul, Nat.reduceLeDiff, Nat.reduceLT, Nat.reduceEqDiff, Int.reduceLT, Int.reduceLE, Int.reduceEq, Int.reduceAdd, Int.reduceNeg, Int.reduceToNat, reduceCtorEq, Int.lt_irrefl, List.drop_length])
  rcases hp with ⟨rfl, h⟩ | ⟨rfl, h2, h⟩ <;> simp only [*, go_sem, ↓reduceIte, Nat.reduceAdd, Nat.reduceSub, Nat.reduceMul, Nat.reduceLeDiff, Nat.reduceLT, Nat.reduceEqDiff, Int.reduceLT, Int.reduceLE, Int.reduceEq, Int.reduceAdd, Int.reduceNeg, Int.reduceToNat, reduceCtorEq]

end Go.Proofs.Ytjkojcnimnhclaa
end

section
/-
  Rows of shares together.
-/
namespace Go.Proofs.Ytjkojcnimnhclaa
open Go Vm
set_option maxRecDepth 4000
set_option linter.unusedSimpArgs false
set_option linter.unusedVariables false

/-- A row and another one, share by share; the error. -/
def rowF : List Sh → List Sh → List Sh × Int
  | c :: cs, a :: ds => if (totF (0, 0) [c, a]).2.2 = 0 then (⟨(totF (0, 0) [c, a]).1, (totF (0, 0) [c, a]).2.1⟩ :: (rowF cs ds).1, (rowF cs ds).2) else ([], (totF (0, 0) [c, a]).2.2)
  | cs, _ => (cs, 0)
theorem rowF_len : ∀ (c a : List Sh), (rowF c a).2 = 0 → (rowF c a).1.length = c.length
  | [], _, _ => by simp [rowF]
  | _ :: _, [], _ => by simp [rowF]
  | c :: cs, a :: ds, h => by
    unfold rowF at h ⊢
    split
    · rename_i h1
      rw [if_pos h1] at h
      simp [rowF_len cs ds h]
    · rename_i h1
      rw [if_neg h1] at h
      exact (h1 h).elim
def zeroRow (n : Nat) : List Sh := List.replicate n ⟨0, 0⟩
theorem zeroRow_map (n : Nat) : List.replicate n [D.s (.int .i64 0), D.s (.int .i64 0)] = (zeroRow n).map she := by simp [zeroRow, she]
theorem zeroRow_len (n : Nat) : (zeroRow n).length = n := by simp [zeroRow]

theorem social31_nil (n : Int) : callI Try.prog cfg 31 [.s (.int .i64 n), nilS] [] = some (if n < 0 ∨ 64 < n then [nilS, .s (.int .i64 1)] else [(Sl.l none (zeroRow n.toNat)).d she, .s (.int .i64 0)], []) := by
  rw [callI_eq Try.func31 rfl rfl]
  by_cases h1 : n < 0
  · repeat (any_goals (first | (simp only [*, go_sem, ↓reduceIte, Nat.reduceAdd, Nat.reduceSub, Nat.reduceMul, Nat.reduceLeDiff, Nat.reduceLT, Nat.reduceEqDiff, Int.reduceLT, Int.reduceLE, Int.reduceEq, Int.reduceAdd, Int.reduceNeg, Int.reduceToNat, reduceCtorEq, Try.f31]) | split))
  by_cases h2 : 64 < n
  · repeat (any_goals (first | (simp only [*, go_sem, ↓reduceIte, Nat.reduceAdd, Nat.reduceSub, Nat.reduceMul, Nat.reduceLeDiff, Nat.reduceLT, Nat.reduceEqDiff, Int.reduceLT, Int.reduceLE, Int.reduceEq, Int.reduceAdd, Int.reduceNeg, Int.reduceToNat, reduceCtorEq, Try.f31]) | split))
  obtain ⟨m, rfl⟩ := Int.eq_ofNat_of_zero_le (by omega : 0 ≤ n)
  have h3 : m * 16 ≤ 140737488355328 := by omega
  have h4 : m ≤ 140737488355328 := by omega
  have e1 : List.take m ((zeroRow m).map she) = (zeroRow m).map she := by rw [List.take_of_length_le (by simp [zeroRow])]
  repeat (any_goals (first | (simp only [*, go_sem, ↓reduceIte, Nat.reduceAdd, Nat.reduceSub, Nat.reduceMul, Nat.reduceLeDiff, Nat.reduceLT, Nat.reduceEqDiff, Int.reduceLT, Int.reduceLE, Int.reduceEq, Int.reduceAdd, Int.reduceNeg, Int.reduceToNat, reduceCtorEq, Try.f31, zeroRow_map, e_loop, head0, Int.lt_irrefl, sl_l, zeroRow_len]) | split))

/-- Two rows together. -/
def postF (x y : List Sh) : List Sh × Int := if (rowF (zeroRow x.length) x).2 = 0 then rowF (rowF (zeroRow x.length) x).1 y else ([], (rowF (zeroRow x.length) x).2)
theorem social31_two (n : Nat) (x y : Sl Sh) (hn : n ≤ 64) (hx1 : x.xs.length = n) (hy1 : y.xs.length = n) : callI Try.prog cfg 31 [.s (.int .i64 (n : Int)), .l (some 2) [[x.d she], [y.d she]]] [] =
    some (if (postF x.xs y.xs).2 = 0 then [(Sl.l none (postF x.xs y.xs).1).d she, .s (.int .i64 0)] else [nilS, .s (.int .i64 (postF x.xs y.xs).2)], []) := by
  rw [callI_eq Try.func31 rfl rfl]
  have g1 : ¬ (n : Int) < 0 := by omega
  have g2 : ¬ 64 < (n : Int) := by omega
  have h3 : n * 16 ≤ 140737488355328 := by omega
  have h4 : n ≤ 140737488355328 := by omega
  have w1 : IntKind.i64.wrap 1 = 1 := by decide
  have w2 : IntKind.i64.wrap 2 = 2 := by decide
  simp only [Try.f31, *, go_sem, ↓reduceIte, Nat.reduceAdd, Nat.reduceSub, Nat.reduceMul, Nat.reduceLeDiff, Nat.reduceLT, Nat.reduceEqDiff, Int.reduceLT, Int.reduceLE, Int.reduceEq, Int.reduceAdd, Int.reduceNeg, Int.reduceToNat, reduceCtorEq]
  rw [e_loop]
  simp only [head0, *, go_sem, ↓reduceIte, Nat.reduceAdd, Nat.reduceSub, Nat.reduceMul, Nat.reduceLeDiff, Nat.reduceLT, Nat.reduceEqDiff, Int.reduceLT, Int.reduceLE, Int.reduceEq, Int.reduceAdd, Int.reduceNeg, Int.reduceToNat, reduceCtorEq, zeroRow_map]
  generalize hx : exe _ _ _ (.loop _) _ = r
  obtain ⟨z, s1, rfl, hp⟩ := list_use hx (head0 _ _) x.xs (by omega)
    (fun i (b : List Sh × List Sh) st => rdT st.tm 32 = .s (.int .i64 (i : Int)) ∧ rdT st.tm 31 = .s (.int .i64 (n : Int)) ∧ rdT st.tm 8 = x.d she ∧ rdT st.tm 6 = .a 58 0 n 2 ∧ rdT st.tm 20 = .l (some 2) [[x.d she], [y.d she]] ∧ rdT st.tm 21 = .s (.int .i64 2) ∧ rdT st.tm 22 = .s (.int .i64 0) ∧ rdT st.tm 0 = .s (.int .i64 (n : Int)) ∧
      rdH st.hp 58 = ⟨(b.1 ++ b.2).map she, true, 0, true, some n⟩ ∧ b.1.length = i ∧ (b.1 ++ b.2).length = n ∧ 58 < st.nx)
    (fun b l => (b.1 ++ (rowF b.2 l).1, (rowF b.2 l).2))
    (fun r ex st2 => (ex = .exit 2 ∧ r.2 = 0 ∧ rdH st2.hp 58 = ⟨r.1.map she, true, 0, true, some n⟩ ∧ rdT st2.tm 6 = .a 58 0 n 2 ∧ rdT st2.tm 20 = .l (some 2) [[x.d she], [y.d she]] ∧ rdT st2.tm 21 = .s (.int .i64 2) ∧ rdT st2.tm 22 = .s (.int .i64 0) ∧ rdT st2.tm 0 = .s (.int .i64 (n : Int)) ∧ r.1.length = n ∧ 58 < st2.nx) ∨ (ex = .ret ∧ rdT st2.tm 4 = nilS ∧ rdT st2.tm 5 = .s (.int .i64 r.2) ∧ ¬ r.2 = 0)) ([], zeroRow n)
    (by simp only [*, go_sem, ↓reduceIte, Nat.reduceAdd, Nat.reduceSub, Nat.reduceMul, Nat.reduceLeDiff, Nat.reduceLT, Nat.reduceEqDiff, Int.reduceLT, Int.reduceLE, Int.reduceEq, Int.reduceAdd, Int.reduceNeg, Int.reduceToNat, reduceCtorEq, zeroRow_len]) (by
      clear hx
      rintro i ⟨done, rest⟩ st a l ha hd hlt hw ⟨h32, h31, h8, h6, h20, h21, h22, h0, h58, hdl, hdn, hnx⟩
      dsimp only at hdl hdn h58 ⊢
      subst hdl
      obtain ⟨c, cs, rfl⟩ : ∃ c cs, rest = c :: cs := by
        cases rest with
        | nil => simp at hdn; omega
        | cons c cs => exact ⟨c, cs, rfl⟩
      have hlt2 : (done.length : Int) < (n : Int) := by omega
      have hlt3 : done.length < n := by omega
      have n1 : ¬ st.nx = 58 := by omega
      have n2 : 58 < st.nx + 1 := by omega
      have hget : ((done ++ c :: cs).map she)[done.length]? = some (she c) := by simp
      have hset : ∀ v w : Int, ((done ++ c :: cs).map she).set done.length [.s (.int .i64 v), .s (.int .i64 w)] = ((done ++ [(⟨v, w⟩ : Sh)]) ++ cs).map she := fun v w => by simp [she]
      have hc : she c = [.s (.int .i64 c.a), .s (.int .i64 c.b)] := rfl
      have haa : she a = [.s (.int .i64 a.a), .s (.int .i64 a.b)] := rfl
      have hlen : ∀ v : Sh, (done ++ [v] ++ cs).length = n := fun v => by simp at hdn ⊢; omega
      have e1 : ∀ v : Sh, (done ++ [v]).length = done.length + 1 := fun v => by simp
      by_cases ht : (totF (0, 0) [c, a]).2.2 = 0
      · simp only [*, go_sem, ↓reduceIte, Nat.reduceAdd, Nat.reduceSub, Nat.reduceMul, Nat.reduceLeDiff, Nat.reduceLT, Nat.reduceEqDiff, Int.reduceLT, Int.reduceLE, Int.reduceEq, Int.reduceAdd, Int.reduceNeg, Int.reduceToNat, reduceCtorEq, rowF]
        refine ⟨(done ++ [⟨(totF (0, 0) [c, a]).1, (totF (0, 0) [c, a]).2.1⟩], cs), ?_⟩
        simp only [*, go_sem, ↓reduceIte, Nat.reduceAdd, Nat.reduceSub, Nat.reduceMul, Nat.reduceLeDiff, Nat.reduceLT, Nat.reduceEqDiff, Int.reduceLT, Int.reduceLE, Int.reduceEq, Int.reduceAdd, Int.reduceNeg, Int.reduceToNat, reduceCtorEq]
        simp at hdn ⊢
        omega
      · simp only [*, go_sem, ↓reduceIte, Nat.reduceAdd, Nat.reduceSub, Nat.reduceMul, Nat.reduceLeDiff, Nat.reduceLT, Nat.reduceEqDiff, Int.reduceLT, Int.reduceLE, Int.reduceEq, Int.reduceAdd, Int.reduceNeg, Int.reduceToNat, reduceCtorEq, rowF])
    (by
      clear hx
      rintro ⟨done, rest⟩ st ⟨h32, h31, h8, h6, h20, h21, h22, h0, h58, hdl, hdn, hnx⟩
      dsimp only at hdl hdn h58 ⊢
      have hr : rest = [] := by
        simp at hdn
        cases rest with
        | nil => rfl
        | cons _ _ => simp at hdn; omega
      subst hr
      have hf : rowF [] [] = ([], 0) := rfl
      simp only [List.append_nil] at hdn
      simp only [*, go_sem, ↓reduceIte, Nat.reduceAdd, Nat.reduceSub, Nat.reduceMul, Nat.reduceLeDiff, Nat.reduceLT, Nat.reduceEqDiff, Int.reduceLT, Int.reduceLE, Int.reduceEq, Int.reduceAdd, Int.reduceNeg, Int.reduceToNat, reduceCtorEq, Int.lt_irrefl])
  clear hx
  have hz : (([], zeroRow n) : List Sh × List Sh).1 = [] := rfl
  rcases hp with ⟨rfl, p1, p2, p3, p4, p5, p6, p7, p8, p9⟩ | ⟨rfl, p1, p2, p3⟩
  case inr =>
    dsimp only at p2 p3
    have hpost : postF x.xs y.xs = ([], (rowF (zeroRow n) x.xs).2) := by unfold postF; rw [hx1, if_neg p3]
    simp only [*, go_sem, ↓reduceIte, Nat.reduceAdd, Nat.reduceSub, Nat.reduceMul, Nat.reduceLeDiff, Nat.reduceLT, Nat.reduceEqDiff, Int.reduceLT, Int.reduceLE, Int.reduceEq, Int.reduceAdd, Int.reduceNeg, Int.reduceToNat, reduceCtorEq]
  case inl =>
    dsimp only [List.nil_append] at p1 p2 p8
    have n58 : ¬ s1.nx = 58 := by omega
    simp only [*, go_sem, ↓reduceIte, Nat.reduceAdd, Nat.reduceSub, Nat.reduceMul, Nat.reduceLeDiff, Nat.reduceLT, Nat.reduceEqDiff, Int.reduceLT, Int.reduceLE, Int.reduceEq, Int.reduceAdd, Int.reduceNeg, Int.reduceToNat, reduceCtorEq]
    rw [e_loop]
    simp only [head0, *, go_sem, ↓reduceIte, Nat.reduceAdd, Nat.reduceSub, Nat.reduceMul, Nat.reduceLeDiff, Nat.reduceLT, Nat.reduceEqDiff, Int.reduceLT, Int.reduceLE, Int.reduceEq, Int.reduceAdd, Int.reduceNeg, Int.reduceToNat, reduceCtorEq]
    generalize hu : (rowF (zeroRow n) x.xs).1 = u at p2 p8
    generalize hx : exe _ _ _ (.loop _) _ = r
    obtain ⟨z, s2, rfl, hp⟩ := list_use hx (head0 _ _) y.xs (by omega)
      (fun i (b : List Sh × List Sh) st => rdT st.tm 32 = .s (.int .i64 (i : Int)) ∧ rdT st.tm 31 = .s (.int .i64 (n : Int)) ∧ rdT st.tm 8 = y.d she ∧ rdT st.tm 6 = .a 58 0 n 2 ∧ rdT st.tm 20 = .l (some 2) [[x.d she], [y.d she]] ∧ rdT st.tm 21 = .s (.int .i64 2) ∧ rdT st.tm 22 = .s (.int .i64 1) ∧ rdT st.tm 0 = .s (.int .i64 (n : Int)) ∧
        rdH st.hp 58 = ⟨(b.1 ++ b.2).map she, true, 0, true, some n⟩ ∧ b.1.length = i ∧ (b.1 ++ b.2).length = n ∧ 58 < st.nx)
      (fun b l => (b.1 ++ (rowF b.2 l).1, (rowF b.2 l).2))
      (fun r ex st2 => (ex = .exit 2 ∧ r.2 = 0 ∧ rdH st2.hp 58 = ⟨r.1.map she, true, 0, true, some n⟩ ∧ rdT st2.tm 6 = .a 58 0 n 2 ∧ rdT st2.tm 20 = .l (some 2) [[x.d she], [y.d she]] ∧ rdT st2.tm 21 = .s (.int .i64 2) ∧ rdT st2.tm 22 = .s (.int .i64 1) ∧ rdT st2.tm 0 = .s (.int .i64 (n : Int)) ∧ r.1.length = n ∧ 58 < st2.nx) ∨ (ex = .ret ∧ rdT st2.tm 4 = nilS ∧ rdT st2.tm 5 = .s (.int .i64 r.2) ∧ ¬ r.2 = 0)) ([], u)
      (by simp only [*, go_sem, ↓reduceIte, Nat.reduceAdd, Nat.reduceSub, Nat.reduceMul, Nat.reduceLeDiff, Nat.reduceLT, Nat.reduceEqDiff, Int.reduceLT, Int.reduceLE, Int.reduceEq, Int.reduceAdd, Int.reduceNeg, Int.reduceToNat, reduceCtorEq]) (by
        clear hx
        rintro i ⟨done, rest⟩ st a l ha hd hlt hw ⟨h32, h31, h8, h6, h20, h21, h22, h0, h58, hdl, hdn, hnx⟩
        dsimp only at hdl hdn h58 ⊢
        subst hdl
        obtain ⟨c, cs, rfl⟩ : ∃ c cs, rest = c :: cs := by
          cases rest with
          | nil => simp at hdn; omega
          | cons c cs => exact ⟨c, cs, rfl⟩
        have hlt2 : (done.length : Int) < (n : Int) := by omega
        have hlt3 : done.length < n := by omega
        have n1 : ¬ st.nx = 58 := by omega
        have n2 : 58 < st.nx + 1 := by omega
        have hget : ((done ++ c :: cs).map she)[done.length]? = some (she c) := by simp
        have hset : ∀ v w : Int, ((done ++ c :: cs).map she).set done.length [.s (.int .i64 v), .s (.int .i64 w)] = ((done ++ [(⟨v, w⟩ : Sh)]) ++ cs).map she := fun v w => by simp [she]
        have hc : she c = [.s (.int .i64 c.a), .s (.int .i64 c.b)] := rfl
        have haa : she a = [.s (.int .i64 a.a), .s (.int .i64 a.b)] := rfl
        have hlen : ∀ v : Sh, (done ++ [v] ++ cs).length = n := fun v => by simp at hdn ⊢; omega
        have e1 : ∀ v : Sh, (done ++ [v]).length = done.length + 1 := fun v => by simp
        by_cases ht : (totF (0, 0) [c, a]).2.2 = 0
        · simp only [*, go_sem, ↓reduceIte, Nat.reduceAdd, Nat.reduceSub, Nat.reduceMul, Nat.reduceLeDiff, Nat.reduceLT, Nat.reduceEqDiff, Int.reduceLT, Int.reduceLE, Int.reduceEq, Int.reduceAdd, Int.reduceNeg, Int.reduceToNat, reduceCtorEq, rowF]
          refine ⟨(done ++ [⟨(totF (0, 0) [c, a]).1, (totF (0, 0) [c, a]).2.1⟩], cs), ?_⟩
          simp only [*, go_sem, ↓reduceIte, Nat.reduceAdd, Nat.reduceSub, Nat.reduceMul, Nat.reduceLeDiff, Nat.reduceLT, Nat.reduceEqDiff, Int.reduceLT, Int.reduceLE, Int.reduceEq, Int.reduceAdd, Int.reduceNeg, Int.reduceToNat, reduceCtorEq]
          simp at hdn ⊢
          omega
        · simp only [*, go_sem, ↓reduceIte, Nat.reduceAdd, Nat.reduceSub, Nat.reduceMul, Nat.reduceLeDiff, Nat.reduceLT, Nat.reduceEqDiff, Int.reduceLT, Int.reduceLE, Int.reduceEq, Int.reduceAdd, Int.reduceNeg, Int.reduceToNat, reduceCtorEq, rowF])
      (by
        clear hx
        rintro ⟨done, rest⟩ st ⟨h32, h31, h8, h6, h20, h21, h22, h0, h58, hdl, hdn, hnx⟩
        dsimp only at hdl hdn h58 ⊢
        have hr : rest = [] := by
          simp at hdn
          cases rest with
          | nil => rfl
          | cons _ _ => simp at hdn; omega
        subst hr
        have hf : rowF [] [] = ([], 0) := rfl
        simp only [List.append_nil] at hdn
        simp only [*, go_sem, ↓reduceIte, Nat.reduceAdd, Nat.reduceSub, Nat.reduceMul, Nat.reduceLeDiff, Nat.reduceLT, Nat.reduceEqDiff, Int.reduceLT, Int.reduceLE, Int.reduceEq, Int.reduceAdd, Int.reduceNeg, Int.reduceToNat, reduceCtorEq, Int.lt_irrefl])
    clear hx
    have hpost : postF x.xs y.xs = rowF u y.xs := by unfold postF; rw [hx1, if_pos p1, hu]
    rcases hp with ⟨rfl, q1, q2, q3, q4, q5, q6, q7, q8, q9⟩ | ⟨rfl, q1, q2, q3⟩
    · dsimp only [List.nil_append] at q1 q2 q8
      have e1 : List.take n (List.map she (rowF u y.xs).1) = List.map she (rowF u y.xs).1 := by rw [List.take_of_length_le (by simp; omega)]
      simp only [*, go_sem, ↓reduceIte, Nat.reduceAdd, Nat.reduceSub, Nat.reduceMul, Nat.reduceLeDiff, Nat.reduceLT, Nat.reduceEqDiff, Int.reduceLT, Int.reduceLE, Int.reduceEq, Int.reduceAdd, Int.reduceNeg, Int.reduceToNat, reduceCtorEq]
      rw [e_loop]
      simp only [head0, *, go_sem, ↓reduceIte, Nat.reduceAdd, Nat.reduceSub, Nat.reduceMul, Nat.reduceLeDiff, Nat.reduceLT, Nat.reduceEqDiff, Int.reduceLT, Int.reduceLE, Int.reduceEq, Int.reduceAdd, Int.reduceNeg, Int.reduceToNat, reduceCtorEq, sl_l]
    · dsimp only at q2 q3
      simp only [*, go_sem, ↓reduceIte, Nat.reduceAdd, Nat.reduceSub, Nat.reduceMul, Nat.reduceLeDiff, Nat.reduceLT, Nat.reduceEqDiff, Int.reduceLT, Int.reduceLE, Int.reduceEq, Int.reduceAdd, Int.reduceNeg, Int.reduceToNat, reduceCtorEq]

end Go.Proofs.Ytjkojcnimnhclaa
end

section
/-
  Payslips and totals; whether a payslip hangs together: the program's answer, and the statement's.
-/
namespace Go.Proofs.Ytjkojcnimnhclaa
open Go Vm
set_option maxRecDepth 4000
set_option linter.unusedSimpArgs false
set_option linter.unusedVariables false

structure Slip where
  period : Int
  cash : Int
  taxable : Int
  social : Int
  tax : Int
  shortfall : Int
  shares : Sl Sh
  net : Int
  taken : Sl Tk
  pay : Int
def slipE (s : Slip) : List D := [.s (.int .i64 s.period), .s (.int .i64 s.cash), .s (.int .i64 s.taxable), .s (.int .i64 s.social), .s (.int .i64 s.tax), .s (.int .i64 s.shortfall), s.shares.d she, .s (.int .i64 s.net), s.taken.d te, .s (.int .i64 s.pay)]
structure Tot where
  cash : Int
  taxable : Int
  social : Int
  tax : Int
  shortfall : Int
  shares : Sl Sh
  net : Int
  taken : Int
  pay : Int
def totE (t : Tot) : List D := [.s (.int .i64 t.cash), .s (.int .i64 t.taxable), .s (.int .i64 t.social), .s (.int .i64 t.tax), .s (.int .i64 t.shortfall), t.shares.d she, .s (.int .i64 t.net), .s (.int .i64 t.taken), .s (.int .i64 t.pay)]
@[go_sem] theorem slipE_len (s : Slip) : (slipE s).length = 10 := (rfl)
@[go_sem] theorem totE_len (t : Tot) : (totE t).length = 9 := (rfl)

/-- Two rows of shares together, as they are posted. -/
def postS (x y : Sl Sh) : Sl Sh × Int := if (x.xs.length : Int) = (y.xs.length : Int) then (if (postF x.xs y.xs).2 = 0 then (.l none (postF x.xs y.xs).1, 0) else (.nil, (postF x.xs y.xs).2)) else (.nil, 3)
@[go_sem] theorem post42 (x y : Sl Sh) (hx : x.xs.length ≤ 64) : callI Try.prog cfg 42 [x.d she, y.d she] [] = some ([(postS x y).1.d she, .s (.int .i64 (postS x y).2)], []) := by
  rw [callI_eq Try.func42 rfl rfl]
  by_cases hn : (x.xs.length : Int) = (y.xs.length : Int)
  · have hs := social31_two x.xs.length x y hx rfl (by omega)
    by_cases h : (postF x.xs y.xs).2 = 0
    · simp only [h, if_true] at hs
      simp only [hn] at hs
      simp only [Try.f42, *, go_sem, ↓reduceIte, Nat.reduceAdd, Nat.reduceSub, Nat.reduceMul, Nat.reduceLeDiff, Nat.reduceLT, Nat.reduceEqDiff, Int.reduceLT, Int.reduceLE, Int.reduceEq, Int.reduceAdd, Int.reduceNeg, Int.reduceToNat, reduceCtorEq, postS]
    · simp only [h, if_false] at hs
      simp only [hn] at hs
      simp only [Try.f42, *, go_sem, ↓reduceIte, Nat.reduceAdd, Nat.reduceSub, Nat.reduceMul, Nat.reduceLeDiff, Nat.reduceLT, Nat.reduceEqDiff, Int.reduceLT, Int.reduceLE, Int.reduceEq, Int.reduceAdd, Int.reduceNeg, Int.reduceToNat, reduceCtorEq, postS, sl_nil]
  · simp only [Try.f42, *, go_sem, ↓reduceIte, Nat.reduceAdd, Nat.reduceSub, Nat.reduceMul, Nat.reduceLeDiff, Nat.reduceLT, Nat.reduceEqDiff, Int.reduceLT, Int.reduceLE, Int.reduceEq, Int.reduceAdd, Int.reduceNeg, Int.reduceToNat, reduceCtorEq, postS, sl_nil]

def copyS (s : Slip) : Slip := { s with shares := cloneS s.shares, taken := cloneS s.taken }
@[go_sem] theorem copied34 (s : Slip) (h1 : s.shares.xs.length ≤ 1000000) (h2 : s.taken.xs.length ≤ 1000000) : callI Try.prog cfg 34 [.g (slipE s)] [] = some ([.g (slipE (copyS s))], []) := by
  rw [callI_eq Try.func34 rfl rfl]
  simp only [Try.f34, *, go_sem, ↓reduceIte, Nat.reduceAdd, Nat.reduceSub, Nat.reduceMul, Nat.reduceLeDiff, Nat.reduceLT, Nat.reduceEqDiff, Int.reduceLT, Int.reduceLE, Int.reduceEq, Int.reduceAdd, Int.reduceNeg, Int.reduceToNat, reduceCtorEq, slipE, copyS]

/-- Whether a payslip hangs together: the error. -/
def checkF (s : Slip) (n : Int) : Int :=
  if s.period < 1 ∨ 53 < s.period then 1
  else if ¬ (s.shares.xs.length : Int) = n then 3
  else if ¬ (totF (0, 0) s.shares.xs).2.2 = 0 then (totF (0, 0) s.shares.xs).2.2
  else if okAllM [s.cash, s.taxable, s.social] = false ∨ okAllM [s.tax, s.shortfall, s.net, s.pay] = false then 10
  else if ¬ (sumF 0 (s.taken.xs.map (·.taken))).2 = 0 then (sumF 0 (s.taken.xs.map (·.taken))).2
  else if ¬ s.cash - s.tax - (totF (0, 0) s.shares.xs).1 = s.net ∨ ¬ s.net - (sumF 0 (s.taken.xs.map (·.taken))).1 = s.pay then 5 else 0

theorem addE_0 {x y : Int} (h : addE x y = 0) : okM x = true ∧ okM y = true ∧ okM (x + y) = true ∧ addV x y = x + y := by
  unfold addE at h
  split at h
  · rename_i h1
    unfold chkE at h
    split at h
    · rename_i h2
      refine ⟨h1.1, h1.2, h2, ?_⟩
      simp only [addV, h1, and_self, if_true, chkV, h2]
    · omega
  · omega
theorem addE_10 {x y : Int} (h : ¬ addE x y = 0) : addE x y = 10 := by
  unfold addE at h ⊢
  split
  · rename_i h1
    rw [if_pos h1] at h
    unfold chkE at h ⊢
    split
    · rename_i h2; rw [if_pos h2] at h; exact absurd rfl h
    · rfl
  · rfl
theorem addE_ok {x y : Int} (h1 : okM x = true) (h2 : okM y = true) (h3 : okM (x + y) = true) : addE x y = 0 := by simp only [addE, h1, h2, and_self, if_true, chkE, h3]
theorem totF_ok : ∀ (l : List Sh) (a b : Int), okM a = true → okM b = true → (totF (a, b) l).2.2 = 0 → okM (totF (a, b) l).1 = true ∧ okM (totF (a, b) l).2.1 = true
  | [], a, b, ha, hb, _ => ⟨ha, hb⟩
  | s :: r, a, b, ha, hb, h => by
    unfold totF at h ⊢
    by_cases h1 : addE a s.a = 0
    · by_cases h2 : addE b s.b = 0
      · simp only [h1, h2, if_true] at h ⊢
        have e1 := addE_0 h1
        have e2 := addE_0 h2
        exact totF_ok r _ _ (by rw [e1.2.2.2]; exact e1.2.2.1) (by rw [e2.2.2.2]; exact e2.2.2.1) h
      · simp only [h1, h2, if_true, if_false] at h
    · simp only [h1, if_false] at h
theorem sumF_ok : ∀ (l : List Int) (a : Int), okM a = true → (sumF a l).2 = 0 → okM (sumF a l).1 = true
  | [], a, ha, _ => ha
  | s :: r, a, ha, h => by
    unfold sumF at h ⊢
    by_cases h1 : addE a s = 0
    · simp only [h1, if_true] at h ⊢
      have e1 := addE_0 h1
      exact sumF_ok r _ (by rw [e1.2.2.2]; exact e1.2.2.1) h
    · simp only [h1, if_false] at h
theorem ok0 : okM 0 = true := by decide
theorem wrap2 {x y : Int} (h1 : -300000000000 ≤ x) (h2 : x ≤ 300000000000) (h3 : -300000000000 ≤ y) (h4 : y ≤ 300000000000) : IntKind.i64.wrap (x + y) = x + y ∧ IntKind.i64.wrap (x - y) = x - y := ⟨wrap_ok (by omega) (by omega), wrap_ok (by omega) (by omega)⟩

@[go_sem] theorem check9 (s : Slip) (n : Int) (hl1 : s.shares.xs.length < 9223372036854775808) (hl2 : s.taken.xs.length < 9223372036854775808) : callI Try.prog cfg 9 [.g (slipE s), .s (.int .i64 n)] [] = some ([.s (.int .i64 (checkF s n))], []) := by
  rw [callI_eq Try.func9 rfl rfl]
  by_cases c1 : s.period < 1
  · simp only [Try.f9, *, go_sem, ↓reduceIte, Nat.reduceAdd, Nat.reduceSub, Nat.reduceMul, Nat.reduceLeDiff, Nat.reduceLT, Nat.reduceEqDiff, Int.reduceLT, Int.reduceLE, Int.reduceEq, Int.reduceAdd, Int.reduceNeg, Int.reduceToNat, reduceCtorEq, slipE, checkF]
  by_cases c2 : 53 < s.period
  · simp only [Try.f9, *, go_sem, ↓reduceIte, Nat.reduceAdd, Nat.reduceSub, Nat.reduceMul, Nat.reduceLeDiff, Nat.reduceLT, Nat.reduceEqDiff, Int.reduceLT, Int.reduceLE, Int.reduceEq, Int.reduceAdd, Int.reduceNeg, Int.reduceToNat, reduceCtorEq, slipE, checkF]
  by_cases c3 : (s.shares.xs.length : Int) = n
  case neg => simp only [Try.f9, *, go_sem, ↓reduceIte, Nat.reduceAdd, Nat.reduceSub, Nat.reduceMul, Nat.reduceLeDiff, Nat.reduceLT, Nat.reduceEqDiff, Int.reduceLT, Int.reduceLE, Int.reduceEq, Int.reduceAdd, Int.reduceNeg, Int.reduceToNat, reduceCtorEq, slipE, checkF]
  by_cases c4 : (totF (0, 0) s.shares.xs).2.2 = 0
  case neg => simp only [Try.f9, *, go_sem, ↓reduceIte, Nat.reduceAdd, Nat.reduceSub, Nat.reduceMul, Nat.reduceLeDiff, Nat.reduceLT, Nat.reduceEqDiff, Int.reduceLT, Int.reduceLE, Int.reduceEq, Int.reduceAdd, Int.reduceNeg, Int.reduceToNat, reduceCtorEq, slipE, checkF]
  cases c5 : okAllM [s.cash, s.taxable, s.social]
  case false => simp only [Try.f9, *, go_sem, ↓reduceIte, Nat.reduceAdd, Nat.reduceSub, Nat.reduceMul, Nat.reduceLeDiff, Nat.reduceLT, Nat.reduceEqDiff, Int.reduceLT, Int.reduceLE, Int.reduceEq, Int.reduceAdd, Int.reduceNeg, Int.reduceToNat, reduceCtorEq, slipE, checkF]
  cases c6 : okAllM [s.tax, s.shortfall, s.net, s.pay]
  case false => simp only [Try.f9, *, go_sem, ↓reduceIte, Nat.reduceAdd, Nat.reduceSub, Nat.reduceMul, Nat.reduceLeDiff, Nat.reduceLT, Nat.reduceEqDiff, Int.reduceLT, Int.reduceLE, Int.reduceEq, Int.reduceAdd, Int.reduceNeg, Int.reduceToNat, reduceCtorEq, slipE, checkF]
  by_cases c7 : (sumF 0 (s.taken.xs.map (·.taken))).2 = 0
  case neg => simp only [Try.f9, *, go_sem, ↓reduceIte, Nat.reduceAdd, Nat.reduceSub, Nat.reduceMul, Nat.reduceLeDiff, Nat.reduceLT, Nat.reduceEqDiff, Int.reduceLT, Int.reduceLE, Int.reduceEq, Int.reduceAdd, Int.reduceNeg, Int.reduceToNat, reduceCtorEq, slipE, checkF]
  have k1 := (totF_ok _ _ _ ok0 ok0 c4).1
  have k2 := sumF_ok _ _ ok0 c7
  have c5' := c5
  have c6' := c6
  simp only [okAllM, okM_iff, List.all_cons, List.all_nil, Bool.and_eq_true] at c5' c6' k1 k2
  have w1 : IntKind.i64.wrap (s.cash - s.tax) = s.cash - s.tax := wrap_ok (by omega) (by omega)
  have w2 : IntKind.i64.wrap (s.cash - s.tax - (totF (0, 0) s.shares.xs).1) = s.cash - s.tax - (totF (0, 0) s.shares.xs).1 := wrap_ok (by omega) (by omega)
  have w3 : IntKind.i64.wrap (s.net - (sumF 0 (s.taken.xs.map (·.taken))).1) = s.net - (sumF 0 (s.taken.xs.map (·.taken))).1 := wrap_ok (by omega) (by omega)
  have w4 : IntKind.i64.wrap s.net = s.net := wrap_ok (by omega) (by omega)
  have w5 : IntKind.i64.wrap s.pay = s.pay := wrap_ok (by omega) (by omega)
  clear c5' c6' k1 k2
  by_cases c8 : s.cash - s.tax - (totF (0, 0) s.shares.xs).1 = s.net
  case neg => simp only [Try.f9, *, go_sem, ↓reduceIte, Nat.reduceAdd, Nat.reduceSub, Nat.reduceMul, Nat.reduceLeDiff, Nat.reduceLT, Nat.reduceEqDiff, Int.reduceLT, Int.reduceLE, Int.reduceEq, Int.reduceAdd, Int.reduceNeg, Int.reduceToNat, reduceCtorEq, slipE, checkF]
  by_cases c9 : s.net - (sumF 0 (s.taken.xs.map (·.taken))).1 = s.pay
  case neg => simp only [Try.f9, *, go_sem, ↓reduceIte, Nat.reduceAdd, Nat.reduceSub, Nat.reduceMul, Nat.reduceLeDiff, Nat.reduceLT, Nat.reduceEqDiff, Int.reduceLT, Int.reduceLE, Int.reduceEq, Int.reduceAdd, Int.reduceNeg, Int.reduceToNat, reduceCtorEq, slipE, checkF]
  simp only [Try.f9, *, go_sem, ↓reduceIte, Nat.reduceAdd, Nat.reduceSub, Nat.reduceMul, Nat.reduceLeDiff, Nat.reduceLT, Nat.reduceEqDiff, Int.reduceLT, Int.reduceLE, Int.reduceEq, Int.reduceAdd, Int.reduceNeg, Int.reduceToNat, reduceCtorEq, slipE, checkF]


theorem okAll7 (a b c d e f g : Int) : okAllM [a, b, c, d, e, f, g] = (okAllM [a, b, c] && okAllM [d, e, f, g]) := by simp [okAllM, Bool.and_assoc]
theorem totF_bad1 {a b : Int} {s : Sh} {r : List Sh} (h : ¬ (okM s.a = true ∧ okM s.b = true ∧ okM (a + s.a) = true ∧ okM (b + s.b) = true)) (ha : okM a = true) (hb : okM b = true) : (totF (a, b) (s :: r)).2.2 = 10 := by
  unfold totF
  by_cases h1 : addE a s.a = 0
  · by_cases h2 : addE b s.b = 0
    · have e1 := addE_0 h1
      have e2 := addE_0 h2
      exact absurd ⟨e1.2.1, e2.2.1, e1.2.2.1, e2.2.2.1⟩ h
    · simp only [h1, h2, if_true, if_false]; exact addE_10 h2
  · simp only [h1, if_false]; exact addE_10 h1
theorem totF_good {a b : Int} {s : Sh} {r : List Sh} (h1 : okM s.a = true) (h2 : okM s.b = true) (h3 : okM (a + s.a) = true) (h4 : okM (b + s.b) = true) (ha : okM a = true) (hb : okM b = true) : totF (a, b) (s :: r) = totF (a + s.a, b + s.b) r := by
  have e1 := addE_ok ha h1 h3
  have e2 := addE_ok hb h2 h4
  simp only [totF, e1, e2, if_true, (addE_0 e1).2.2.2, (addE_0 e2).2.2.2]
theorem sumF_bad1 {a x : Int} {r : List Int} (h : ¬ (okM x = true ∧ okM (a + x) = true)) : (sumF a (x :: r)).2 = 10 := by
  unfold sumF
  by_cases h1 : addE a x = 0
  · have e1 := addE_0 h1
    exact absurd ⟨e1.2.1, e1.2.2.1⟩ h
  · simp only [h1, if_false]; exact addE_10 h1
theorem sumF_good {a x : Int} {r : List Int} (ha : okM a = true) (h1 : okM x = true) (h3 : okM (a + x) = true) : sumF a (x :: r) = sumF (a + x) r := by
  have e1 := addE_ok ha h1 h3
  simp only [sumF, e1, if_true, (addE_0 e1).2.2.2]

def slipB (s : Slip) : Blk := ⟨[slipE s], false, 0, true, none⟩
@[go_sem] theorem wrong10 (s : Slip) (n : Int) (hl1 : s.shares.xs.length < 9223372036854775808) (hl2 : s.taken.xs.length < 9223372036854775808) : callI Try.prog cfg 10 [.g (slipE s), .s (.int .i64 n)] [] = some ([.s (.int .i64 (checkF s n))], []) := by
  rw [callI_eq Try.func10 rfl rfl]
  by_cases c1 : s.period < 1
  · simp only [Try.f10, *, go_sem, ↓reduceIte, Nat.reduceAdd, Nat.reduceSub, Nat.reduceMul, Nat.reduceLeDiff, Nat.reduceLT, Nat.reduceEqDiff, Int.reduceLT, Int.reduceLE, Int.reduceEq, Int.reduceAdd, Int.reduceNeg, Int.reduceToNat, reduceCtorEq, slipE, checkF]
  by_cases c2 : 53 < s.period
  · simp only [Try.f10, *, go_sem, ↓reduceIte, Nat.reduceAdd, Nat.reduceSub, Nat.reduceMul, Nat.reduceLeDiff, Nat.reduceLT, Nat.reduceEqDiff, Int.reduceLT, Int.reduceLE, Int.reduceEq, Int.reduceAdd, Int.reduceNeg, Int.reduceToNat, reduceCtorEq, slipE, checkF]
  by_cases c3 : (s.shares.xs.length : Int) = n
  case neg => simp only [Try.f10, *, go_sem, ↓reduceIte, Nat.reduceAdd, Nat.reduceSub, Nat.reduceMul, Nat.reduceLeDiff, Nat.reduceLT, Nat.reduceEqDiff, Int.reduceLT, Int.reduceLE, Int.reduceEq, Int.reduceAdd, Int.reduceNeg, Int.reduceToNat, reduceCtorEq, slipE, checkF]
  subst c3
  simp only [Try.f10, *, go_sem, ↓reduceIte, Nat.reduceAdd, Nat.reduceSub, Nat.reduceMul, Nat.reduceLeDiff, Nat.reduceLT, Nat.reduceEqDiff, Int.reduceLT, Int.reduceLE, Int.reduceEq, Int.reduceAdd, Int.reduceNeg, Int.reduceToNat, reduceCtorEq, slipE]
  generalize hx : exe _ _ _ (.loop _) _ = r
  obtain ⟨z, s1, rfl, hp⟩ := list_use hx (head0 _ _) s.shares.xs hl1
    (fun i (b : Int × Int) st => rdT st.tm 28 = .s (.int .i64 (i : Int)) ∧ rdT st.tm 27 = .s (.int .i64 (s.shares.xs.length : Int)) ∧ rdT st.tm 26 = s.shares.d she ∧ rdT st.tm 5 = .s (.int .i64 b.1) ∧ rdT st.tm 6 = .s (.int .i64 b.2) ∧ rdT st.tm 2 = .p 127 0 0 ∧ rdH st.hp 127 = slipB s ∧ 127 < st.nx ∧ okM b.1 = true ∧ okM b.2 = true)
    totF
    (fun r ex st2 => (ex = .exit 0 ∧ r.2.2 = 0 ∧ rdT st2.tm 5 = .s (.int .i64 r.1) ∧ rdT st2.tm 2 = .p 127 0 0 ∧ rdH st2.hp 127 = slipB s ∧ 127 < st2.nx) ∨ (ex = .ret ∧ rdT st2.tm 4 = .s (.int .i64 r.2.2) ∧ ¬ r.2.2 = 0)) (0, 0)
    (by simp only [*, go_sem, ↓reduceIte, Nat.reduceAdd, Nat.reduceSub, Nat.reduceMul, Nat.reduceLeDiff, Nat.reduceLT, Nat.reduceEqDiff, Int.reduceLT, Int.reduceLE, Int.reduceEq, Int.reduceAdd, Int.reduceNeg, Int.reduceToNat, reduceCtorEq, slipB, slipE, ok0]) (by
      clear hx
      rintro i ⟨a, b⟩ st x l ha hd hlt hw ⟨h28, h27, h26, h5, h6, h2, h127, hnx, ka, kb⟩
      dsimp only at h5 h6 ka kb ⊢
      have n1 : ¬ st.nx = 127 := by omega
      have n2 : 127 < st.nx + 1 := by omega
      cases k1 : okM x.a with
      | false =>
        have e : (totF (a, b) (x :: l)).2.2 = 10 := totF_bad1 (by simp [k1]) ka kb
        simp only [*, go_sem, ↓reduceIte, Nat.reduceAdd, Nat.reduceSub, Nat.reduceMul, Nat.reduceLeDiff, Nat.reduceLT, Nat.reduceEqDiff, Int.reduceLT, Int.reduceLE, Int.reduceEq, Int.reduceAdd, Int.reduceNeg, Int.reduceToNat, reduceCtorEq, she, okAllM_2]
      | true =>
      cases k2 : okM x.b with
      | false =>
        have e : (totF (a, b) (x :: l)).2.2 = 10 := totF_bad1 (by simp [k2]) ka kb
        simp only [*, go_sem, ↓reduceIte, Nat.reduceAdd, Nat.reduceSub, Nat.reduceMul, Nat.reduceLeDiff, Nat.reduceLT, Nat.reduceEqDiff, Int.reduceLT, Int.reduceLE, Int.reduceEq, Int.reduceAdd, Int.reduceNeg, Int.reduceToNat, reduceCtorEq, she, okAllM_2]
      | true =>
      have k1' := okM_iff.1 k1
      have k2' := okM_iff.1 k2
      have ka' := okM_iff.1 ka
      have kb' := okM_iff.1 kb
      have w1 : IntKind.i64.wrap (a + x.a) = a + x.a := wrap_ok (by omega) (by omega)
      have w2 : IntKind.i64.wrap (b + x.b) = b + x.b := wrap_ok (by omega) (by omega)
      clear k1' k2' ka' kb'
      cases k3 : okM (a + x.a) with
      | false =>
        have e : (totF (a, b) (x :: l)).2.2 = 10 := totF_bad1 (by simp [k3]) ka kb
        simp only [*, go_sem, ↓reduceIte, Nat.reduceAdd, Nat.reduceSub, Nat.reduceMul, Nat.reduceLeDiff, Nat.reduceLT, Nat.reduceEqDiff, Int.reduceLT, Int.reduceLE, Int.reduceEq, Int.reduceAdd, Int.reduceNeg, Int.reduceToNat, reduceCtorEq, she, okAllM_2]
      | true =>
      cases k4 : okM (b + x.b) with
      | false =>
        have e : (totF (a, b) (x :: l)).2.2 = 10 := totF_bad1 (by simp [k4]) ka kb
        simp only [*, go_sem, ↓reduceIte, Nat.reduceAdd, Nat.reduceSub, Nat.reduceMul, Nat.reduceLeDiff, Nat.reduceLT, Nat.reduceEqDiff, Int.reduceLT, Int.reduceLE, Int.reduceEq, Int.reduceAdd, Int.reduceNeg, Int.reduceToNat, reduceCtorEq, she, okAllM_2]
      | true =>
      have e : totF (a, b) (x :: l) = totF (a + x.a, b + x.b) l := totF_good k1 k2 k3 k4 ka kb
      simp only [*, go_sem, ↓reduceIte, Nat.reduceAdd, Nat.reduceSub, Nat.reduceMul, Nat.reduceLeDiff, Nat.reduceLT, Nat.reduceEqDiff, Int.reduceLT, Int.reduceLE, Int.reduceEq, Int.reduceAdd, Int.reduceNeg, Int.reduceToNat, reduceCtorEq, she, okAllM_2]
      exact ⟨(a + x.a, b + x.b), by simp only [*, go_sem, ↓reduceIte, Nat.reduceAdd, Nat.reduceSub, Nat.reduceMul, Nat.reduceLeDiff, Nat.reduceLT, Nat.reduceEqDiff, Int.reduceLT, Int.reduceLE, Int.reduceEq, Int.reduceAdd, Int.reduceNeg, Int.reduceToNat, reduceCtorEq]⟩)
    (by
      clear hx
      rintro ⟨a, b⟩ st ⟨h28, h27, h26, h5, h6, h2, h127, hnx, ka, kb⟩
      simp only [*, go_sem, ↓reduceIte, Nat.reduceAdd, Nat.reduceSub, Nat.reduceMul, Nat.reduceLeDiff, Nat.reduceLT, Nat.reduceEqDiff, Int.reduceLT, Int.reduceLE, Int.reduceEq, Int.reduceAdd, Int.reduceNeg, Int.reduceToNat, reduceCtorEq, Int.lt_irrefl, totF])
  clear hx
  rcases hp with ⟨rfl, p1, p2, p3, p4, p5⟩ | ⟨rfl, p1, p2⟩
  case inr => simp only [*, go_sem, ↓reduceIte, Nat.reduceAdd, Nat.reduceSub, Nat.reduceMul, Nat.reduceLeDiff, Nat.reduceLT, Nat.reduceEqDiff, Int.reduceLT, Int.reduceLE, Int.reduceEq, Int.reduceAdd, Int.reduceNeg, Int.reduceToNat, reduceCtorEq, checkF]
  cases c5 : okAllM [s.cash, s.taxable, s.social]
  case false => simp only [*, go_sem, ↓reduceIte, Nat.reduceAdd, Nat.reduceSub, Nat.reduceMul, Nat.reduceLeDiff, Nat.reduceLT, Nat.reduceEqDiff, Int.reduceLT, Int.reduceLE, Int.reduceEq, Int.reduceAdd, Int.reduceNeg, Int.reduceToNat, reduceCtorEq, slipB, slipE, checkF, okAll7]
  cases c6 : okAllM [s.tax, s.shortfall, s.net, s.pay]
  case false => simp only [*, go_sem, ↓reduceIte, Nat.reduceAdd, Nat.reduceSub, Nat.reduceMul, Nat.reduceLeDiff, Nat.reduceLT, Nat.reduceEqDiff, Int.reduceLT, Int.reduceLE, Int.reduceEq, Int.reduceAdd, Int.reduceNeg, Int.reduceToNat, reduceCtorEq, slipB, slipE, checkF, okAll7]
  simp only [*, go_sem, ↓reduceIte, Nat.reduceAdd, Nat.reduceSub, Nat.reduceMul, Nat.reduceLeDiff, Nat.reduceLT, Nat.reduceEqDiff, Int.reduceLT, Int.reduceLE, Int.reduceEq, Int.reduceAdd, Int.reduceNeg, Int.reduceToNat, reduceCtorEq, slipB, slipE, okAll7]
  generalize hx : exe _ _ _ (.loop _) _ = r
  obtain ⟨z, s2, rfl, hp⟩ := list_use hx (head0 _ _) s.taken.xs hl2
    (fun i (b : Int) st => rdT st.tm 84 = .s (.int .i64 (i : Int)) ∧ rdT st.tm 83 = .s (.int .i64 (s.taken.xs.length : Int)) ∧ rdT st.tm 82 = s.taken.d te ∧ rdT st.tm 9 = .s (.int .i64 b) ∧ rdT st.tm 5 = .s (.int .i64 (totF (0, 0) s.shares.xs).1) ∧ rdT st.tm 2 = .p 127 0 0 ∧ rdH st.hp 127 = slipB s ∧ 127 < st.nx ∧ okM b = true)
    (fun b l => sumF b (l.map (·.taken)))
    (fun r ex st2 => (ex = .exit 2 ∧ r.2 = 0 ∧ rdT st2.tm 9 = .s (.int .i64 r.1) ∧ rdT st2.tm 5 = .s (.int .i64 (totF (0, 0) s.shares.xs).1) ∧ rdT st2.tm 2 = .p 127 0 0 ∧ rdH st2.hp 127 = slipB s ∧ 127 < st2.nx) ∨ (ex = .ret ∧ rdT st2.tm 4 = .s (.int .i64 r.2) ∧ ¬ r.2 = 0)) 0
    (by simp only [*, go_sem, ↓reduceIte, Nat.reduceAdd, Nat.reduceSub, Nat.reduceMul, Nat.reduceLeDiff, Nat.reduceLT, Nat.reduceEqDiff, Int.reduceLT, Int.reduceLE, Int.reduceEq, Int.reduceAdd, Int.reduceNeg, Int.reduceToNat, reduceCtorEq, slipB, slipE, ok0]) (by
      clear hx
      rintro i a st x l ha hd hlt hw ⟨h84, h83, h82, h9, h5, h2, h127, hnx, ka⟩
      have n1 : ¬ st.nx = 127 := by omega
      have n2 : 127 < st.nx + 1 := by omega
      clear p2 p3 p4 p5
      cases k1 : okM x.taken with
      | false =>
        have e : (sumF a ((x :: l).map (·.taken))).2 = 10 := sumF_bad1 (by simp [k1])
        simp only [List.map_cons] at e
        simp only [*, go_sem, ↓reduceIte, Nat.reduceAdd, Nat.reduceSub, Nat.reduceMul, Nat.reduceLeDiff, Nat.reduceLT, Nat.reduceEqDiff, Int.reduceLT, Int.reduceLE, Int.reduceEq, Int.reduceAdd, Int.reduceNeg, Int.reduceToNat, reduceCtorEq, te, okAllM_1]
      | true =>
      have k1' := okM_iff.1 k1
      have ka' := okM_iff.1 ka
      have w1 : IntKind.i64.wrap (a + x.taken) = a + x.taken := wrap_ok (by omega) (by omega)
      clear k1' ka'
      cases k3 : okM (a + x.taken) with
      | false =>
        have e : (sumF a ((x :: l).map (·.taken))).2 = 10 := sumF_bad1 (by simp [k3])
        simp only [List.map_cons] at e
        simp only [*, go_sem, ↓reduceIte, Nat.reduceAdd, Nat.reduceSub, Nat.reduceMul, Nat.reduceLeDiff, Nat.reduceLT, Nat.reduceEqDiff, Int.reduceLT, Int.reduceLE, Int.reduceEq, Int.reduceAdd, Int.reduceNeg, Int.reduceToNat, reduceCtorEq, te, okAllM_1]
      | true =>
      have e : sumF a ((x :: l).map (·.taken)) = sumF (a + x.taken) (l.map (·.taken)) := sumF_good ka k1 k3
      simp only [List.map_cons] at e
      simp only [*, go_sem, ↓reduceIte, Nat.reduceAdd, Nat.reduceSub, Nat.reduceMul, Nat.reduceLeDiff, Nat.reduceLT, Nat.reduceEqDiff, Int.reduceLT, Int.reduceLE, Int.reduceEq, Int.reduceAdd, Int.reduceNeg, Int.reduceToNat, reduceCtorEq, te, okAllM_1]
      exact ⟨a + x.taken, by simp only [*, go_sem, ↓reduceIte, Nat.reduceAdd, Nat.reduceSub, Nat.reduceMul, Nat.reduceLeDiff, Nat.reduceLT, Nat.reduceEqDiff, Int.reduceLT, Int.reduceLE, Int.reduceEq, Int.reduceAdd, Int.reduceNeg, Int.reduceToNat, reduceCtorEq]⟩)
    (by
      clear hx
      rintro a st ⟨h84, h83, h82, h9, h5, h2, h127, hnx, ka⟩
      simp only [*, go_sem, ↓reduceIte, Nat.reduceAdd, Nat.reduceSub, Nat.reduceMul, Nat.reduceLeDiff, Nat.reduceLT, Nat.reduceEqDiff, Int.reduceLT, Int.reduceLE, Int.reduceEq, Int.reduceAdd, Int.reduceNeg, Int.reduceToNat, reduceCtorEq, Int.lt_irrefl, sumF])
  clear hx p2 p3 p4 p5
  rcases hp with ⟨rfl, q1, q2, q3, q4, q5, q6⟩ | ⟨rfl, q1, q2⟩
  case inr => simp only [*, go_sem, ↓reduceIte, Nat.reduceAdd, Nat.reduceSub, Nat.reduceMul, Nat.reduceLeDiff, Nat.reduceLT, Nat.reduceEqDiff, Int.reduceLT, Int.reduceLE, Int.reduceEq, Int.reduceAdd, Int.reduceNeg, Int.reduceToNat, reduceCtorEq, checkF]
  have k1 := (totF_ok _ _ _ ok0 ok0 p1).1
  have k2 := sumF_ok _ _ ok0 q1
  have c5' := c5
  have c6' := c6
  simp only [okAllM, okM_iff, List.all_cons, List.all_nil, Bool.and_eq_true] at c5' c6' k1 k2
  have w1 : IntKind.i64.wrap (s.cash - s.tax) = s.cash - s.tax := wrap_ok (by omega) (by omega)
  have w2 : IntKind.i64.wrap (s.cash - s.tax - (totF (0, 0) s.shares.xs).1) = s.cash - s.tax - (totF (0, 0) s.shares.xs).1 := wrap_ok (by omega) (by omega)
  have w3 : IntKind.i64.wrap (s.net - (sumF 0 (s.taken.xs.map (·.taken))).1) = s.net - (sumF 0 (s.taken.xs.map (·.taken))).1 := wrap_ok (by omega) (by omega)
  have w4 : IntKind.i64.wrap s.net = s.net := wrap_ok (by omega) (by omega)
  have w5 : IntKind.i64.wrap s.pay = s.pay := wrap_ok (by omega) (by omega)
  clear c5' c6' k1 k2
  by_cases c8 : s.cash - s.tax - (totF (0, 0) s.shares.xs).1 = s.net
  case neg => simp only [*, go_sem, ↓reduceIte, Nat.reduceAdd, Nat.reduceSub, Nat.reduceMul, Nat.reduceLeDiff, Nat.reduceLT, Nat.reduceEqDiff, Int.reduceLT, Int.reduceLE, Int.reduceEq, Int.reduceAdd, Int.reduceNeg, Int.reduceToNat, reduceCtorEq, slipB, slipE, checkF]
  by_cases c9 : s.net - (sumF 0 (s.taken.xs.map (·.taken))).1 = s.pay
  case neg => simp only [*, go_sem, ↓reduceIte, Nat.reduceAdd, Nat.reduceSub, Nat.reduceMul, Nat.reduceLeDiff, Nat.reduceLT, Nat.reduceEqDiff, Int.reduceLT, Int.reduceLE, Int.reduceEq, Int.reduceAdd, Int.reduceNeg, Int.reduceToNat, reduceCtorEq, slipB, slipE, checkF]
  simp only [*, go_sem, ↓reduceIte, Nat.reduceAdd, Nat.reduceSub, Nat.reduceMul, Nat.reduceLeDiff, Nat.reduceLT, Nat.reduceEqDiff, Int.reduceLT, Int.reduceLE, Int.reduceEq, Int.reduceAdd, Int.reduceNeg, Int.reduceToNat, reduceCtorEq, slipB, slipE, checkF]

end Go.Proofs.Ytjkojcnimnhclaa
end

section
/-
  The first statement's run: whether any payslip hangs together, by the program and by definition.
-/
namespace Go.Proofs.Ytjkojcnimnhclaa
open Go Vm
set_option maxRecDepth 4000
set_option linter.unusedSimpArgs false
set_option linter.unusedVariables false

@[go_sem] theorem keeps7 : callI Try.prog cfg 7 [] [] = some ([.s (.bool true)], []) := callI_iff.2 ⟨60, keeps_run⟩

def smallS (s : Slip) : Bool := decide (s.shares.xs.length ≤ 30) && decide (s.taken.xs.length ≤ 30)
def smallF (l : List Slip) : Bool := l.all smallS && decide (l.length ≤ 60)
@[go_sem] theorem small8 (xs : Sl Slip) (hlen : xs.xs.length < 9223372036854775808) : callI Try.prog cfg 8 [xs.d slipE] [] = some ([.s (.bool (smallF xs.xs))], []) := by
  rw [callI_eq Try.func8 rfl rfl]
  simp only [Try.f8, *, go_sem, ↓reduceIte, Nat.reduceAdd, Nat.reduceSub, Nat.reduceMul, Nat.reduceLeDiff, Nat.reduceLT, Nat.reduceEqDiff, Int.reduceLT, Int.reduceLE, Int.reduceEq, Int.reduceAdd, Int.reduceNeg, Int.reduceToNat, reduceCtorEq]
  generalize hx : exe _ _ _ (.loop _) _ = r
  obtain ⟨z, s1, rfl, hp⟩ := list_use hx (head0 _ _) xs.xs hlen
    (fun i (b : Unit) st => rdT st.tm 7 = .s (.int .i64 (i : Int)) ∧ rdT st.tm 6 = .s (.int .i64 (xs.xs.length : Int)) ∧ rdT st.tm 5 = xs.d slipE ∧ rdT st.tm 0 = xs.d slipE)
    (fun _ l => l.all smallS)
    (fun r ex st2 => (ex = .exit 0 ∧ r = true ∧ rdT st2.tm 0 = xs.d slipE) ∨ (ex = .ret ∧ rdT st2.tm 2 = .s (.bool false) ∧ r = false)) ()
    (by simp only [*, go_sem, ↓reduceIte, Nat.reduceAdd, Nat.reduceSub, Nat.reduceMul, Nat.reduceLeDiff, Nat.reduceLT, Nat.reduceEqDiff, Int.reduceLT, Int.reduceLE, Int.reduceEq, Int.reduceAdd, Int.reduceNeg, Int.reduceToNat, reduceCtorEq]) (by
      clear hx
      rintro i _ st x l ha hd hlt hw ⟨h7, h6, h5, h0⟩
      by_cases c1 : 30 < (x.shares.xs.length : Int)
      · have e : ¬ x.shares.xs.length ≤ 30 := by omega
        simp only [*, go_sem, ↓reduceIte, Nat.reduceAdd, Nat.reduceSub, Nat.reduceMul, Nat.reduceLeDiff, Nat.reduceLT, Nat.reduceEqDiff, Int.reduceLT, Int.reduceLE, Int.reduceEq, Int.reduceAdd, Int.reduceNeg, Int.reduceToNat, reduceCtorEq, slipE, List.all_cons, smallS]
      by_cases c2 : 30 < (x.taken.xs.length : Int)
      · have e : ¬ x.taken.xs.length ≤ 30 := by omega
        simp only [*, go_sem, ↓reduceIte, Nat.reduceAdd, Nat.reduceSub, Nat.reduceMul, Nat.reduceLeDiff, Nat.reduceLT, Nat.reduceEqDiff, Int.reduceLT, Int.reduceLE, Int.reduceEq, Int.reduceAdd, Int.reduceNeg, Int.reduceToNat, reduceCtorEq, slipE, List.all_cons, smallS]
      have e1 : x.shares.xs.length ≤ 30 := by omega
      have e2 : x.taken.xs.length ≤ 30 := by omega
      simp only [*, go_sem, ↓reduceIte, Nat.reduceAdd, Nat.reduceSub, Nat.reduceMul, Nat.reduceLeDiff, Nat.reduceLT, Nat.reduceEqDiff, Int.reduceLT, Int.reduceLE, Int.reduceEq, Int.reduceAdd, Int.reduceNeg, Int.reduceToNat, reduceCtorEq, slipE, List.all_cons, smallS])
    (by
      clear hx
      rintro _ st ⟨h7, h6, h5, h0⟩
      simp only [*, go_sem, ↓reduceIte, Nat.reduceAdd, Nat.reduceSub, Nat.reduceMul, Nat.reduceLeDiff, Nat.reduceLT, Nat.reduceEqDiff, Int.reduceLT, Int.reduceLE, Int.reduceEq, Int.reduceAdd, Int.reduceNeg, Int.reduceToNat, reduceCtorEq, Int.lt_irrefl, List.all_nil])
  clear hx
  rcases hp with ⟨rfl, p1, p2⟩ | ⟨rfl, p1, p2⟩
  · have e : decide ((xs.xs.length : Int) ≤ 60) = decide (xs.xs.length ≤ 60) := by rw [decide_eq_decide]; omega
    simp only [*, go_sem, ↓reduceIte, Nat.reduceAdd, Nat.reduceSub, Nat.reduceMul, Nat.reduceLeDiff, Nat.reduceLT, Nat.reduceEqDiff, Int.reduceLT, Int.reduceLE, Int.reduceEq, Int.reduceAdd, Int.reduceNeg, Int.reduceToNat, reduceCtorEq, smallF]
  · simp only [*, go_sem, ↓reduceIte, Nat.reduceAdd, Nat.reduceSub, Nat.reduceMul, Nat.reduceLeDiff, Nat.reduceLT, Nat.reduceEqDiff, Int.reduceLT, Int.reduceLE, Int.reduceEq, Int.reduceAdd, Int.reduceNeg, Int.reduceToNat, reduceCtorEq, smallF]
@[go_sem] theorem small8_1 (s : Slip) : callI Try.prog cfg 8 [.l (some 1) [slipE s]] [] = some ([.s (.bool (smallF [s]))], []) := small8 (.l (some 1) [s]) (by simp [Sl.xs])

theorem checks3 (s : Slip) (n : Int) (hl1 : s.shares.xs.length < 9223372036854775808) (hl2 : s.taken.xs.length < 9223372036854775808) : callI Try.prog cfg 3 [.g (slipE s), .s (.int .i64 n)] [] = some ([.s (.bool true)], []) := by
  rw [callI_eq Try.func3 rfl rfl]
  have h8 := small8_1 s
  have h9 := check9 s n hl1 hl2
  have h10 := wrong10 s n hl1 hl2
  simp only [slipE] at h8 h9 h10
  cases hs : smallF [s] <;> simp only [Try.f3, *, go_sem, ↓reduceIte, Nat.reduceAdd, Nat.reduceSub, Nat.reduceMul, Nat.reduceLeDiff, Nat.reduceLT, Nat.reduceEqDiff, Int.reduceLT, Int.reduceLE, Int.reduceEq, Int.reduceAdd, Int.reduceNeg, Int.reduceToNat, reduceCtorEq, slipE]

end Go.Proofs.Ytjkojcnimnhclaa
end

section
/-
  A year: totals with a payslip; trying one.
-/
namespace Go.Proofs.Ytjkojcnimnhclaa
open Go Vm
set_option maxRecDepth 4000
set_option linter.unusedSimpArgs false
set_option linter.unusedVariables false

/-- What orders took by a payslip, together: the sum, and the error. -/
def tookF (s : Slip) : Int × Int := sumF 0 (s.taken.xs.map (·.taken))
/-- Totals with a payslip; the error. -/
def addT (t : Tot) (s : Slip) : Tot × Int :=
  if ¬ basE t.cash t.taxable t.social s.cash s.taxable s.social = 0 then (t, basE t.cash t.taxable t.social s.cash s.taxable s.social)
  else if ¬ (tookF s).2 = 0 then (t, (tookF s).2)
  else if ¬ addE t.tax s.tax = 0 then (t, addE t.tax s.tax)
  else if ¬ addE t.net s.net = 0 then (t, addE t.net s.net)
  else if ¬ addE t.taken (tookF s).1 = 0 then (t, addE t.taken (tookF s).1)
  else if ¬ addE t.pay s.pay = 0 then (t, addE t.pay s.pay)
  else if ¬ (postS t.shares s.shares).2 = 0 then (t, (postS t.shares s.shares).2)
  else (⟨addV t.cash s.cash, addV t.taxable s.taxable, addV t.social s.social, addV t.tax s.tax, s.shortfall, (postS t.shares s.shares).1, addV t.net s.net, addV t.taken (tookF s).1, addV t.pay s.pay⟩, 0)

@[go_sem] theorem add32 (t : Tot) (s : Slip) (h1 : t.shares.xs.length ≤ 64) (h2 : s.taken.xs.length < 9223372036854775808) : callI Try.prog cfg 32 [.g (totE t), .g (slipE s)] [] = some ([.g (totE (addT t s).1), .s (.int .i64 (addT t s).2)], []) := by
  rw [callI_eq Try.func32 rfl rfl]
  have w1 : IntKind.i64.wrap 1 = 1 := by decide
  have w2 : IntKind.i64.wrap 2 = 2 := by decide
  have w3 : IntKind.i64.wrap 3 = 3 := by decide
  have w4 : IntKind.i64.wrap 4 = 4 := by decide
  by_cases c1 : basE t.cash t.taxable t.social s.cash s.taxable s.social = 0
  case neg =>
    have hv : basV t.cash t.taxable t.social s.cash s.taxable s.social = [.s (.int .i64 0), .s (.int .i64 0), .s (.int .i64 0)] := by simp [basV, c1, bs3]
    simp only [Try.f32, *, go_sem, ↓reduceIte, Nat.reduceAdd, Nat.reduceSub, Nat.reduceMul, Nat.reduceLeDiff, Nat.reduceLT, Nat.reduceEqDiff, Int.reduceLT, Int.reduceLE, Int.reduceEq, Int.reduceAdd, Int.reduceNeg, Int.reduceToNat, reduceCtorEq, totE, slipE, addT]
  have hv : basV t.cash t.taxable t.social s.cash s.taxable s.social = [.s (.int .i64 (addV t.cash s.cash)), .s (.int .i64 (addV t.taxable s.taxable)), .s (.int .i64 (addV t.social s.social))] := by simp [basV, c1, bs3]
  have htk : sumF 0 (s.taken.xs.map (·.taken)) = tookF s := rfl
  by_cases c2 : (tookF s).2 = 0
  case neg => simp only [Try.f32, *, go_sem, ↓reduceIte, Nat.reduceAdd, Nat.reduceSub, Nat.reduceMul, Nat.reduceLeDiff, Nat.reduceLT, Nat.reduceEqDiff, Int.reduceLT, Int.reduceLE, Int.reduceEq, Int.reduceAdd, Int.reduceNeg, Int.reduceToNat, reduceCtorEq, totE, slipE, addT]
  simp only [Try.f32, *, go_sem, ↓reduceIte, Nat.reduceAdd, Nat.reduceSub, Nat.reduceMul, Nat.reduceLeDiff, Nat.reduceLT, Nat.reduceEqDiff, Int.reduceLT, Int.reduceLE, Int.reduceEq, Int.reduceAdd, Int.reduceNeg, Int.reduceToNat, reduceCtorEq, totE, slipE, addT]
  repeat (any_goals (first | (simp only [*, go_sem, ↓reduceIte, Nat.reduceAdd, Nat.reduceSub, Nat.reduceMul, Nat.reduceLeDiff, Nat.reduceLT, Nat.reduceEqDiff, Int.reduceLT, Int.reduceLE, Int.reduceEq, Int.reduceAdd, Int.reduceNeg, Int.reduceToNat, reduceCtorEq, e_loop, head0]) | split))


/-! What totals and payslips say -/
structure TotV where
  cash : Int
  taxable : Int
  social : Int
  tax : Int
  shortfall : Int
  shares : List Sh
  net : Int
  taken : Int
  pay : Int
  deriving DecidableEq
def Tot.v (t : Tot) : TotV := ⟨t.cash, t.taxable, t.social, t.tax, t.shortfall, t.shares.xs, t.net, t.taken, t.pay⟩
structure SlipV where
  period : Int
  cash : Int
  taxable : Int
  social : Int
  tax : Int
  shortfall : Int
  shares : List Sh
  net : Int
  taken : List Tk
  pay : Int
  deriving DecidableEq
def Slip.v (t : Slip) : SlipV := ⟨t.period, t.cash, t.taxable, t.social, t.tax, t.shortfall, t.shares.xs, t.net, t.taken.xs, t.pay⟩

theorem tv_iff (a b : Tot) : decide (a.v = b.v) = ((decide (a.cash = b.cash) && (decide (a.taxable = b.taxable) && decide (a.social = b.social))) && (decide (a.tax = b.tax) && (decide (a.shortfall = b.shortfall) && (decide (a.shares.xs = b.shares.xs) && (decide (a.net = b.net) && (decide (a.taken = b.taken) && decide (a.pay = b.pay))))))) := by
  rw [Bool.eq_iff_iff]; simp [Tot.v, and_assoc]
theorem sv_iff (a b : Slip) : decide (a.v = b.v) = (decide (a.period = b.period) && ((decide (a.cash = b.cash) && (decide (a.taxable = b.taxable) && decide (a.social = b.social))) && (decide (a.tax = b.tax) && (decide (a.shortfall = b.shortfall) && (decide (a.shares.xs = b.shares.xs) && (decide (a.net = b.net) && (decide (a.taken.xs = b.taken.xs) && decide (a.pay = b.pay)))))))) := by
  rw [Bool.eq_iff_iff]; simp [Slip.v, and_assoc]

@[go_sem] theorem same14 (a b : Tot) (h1 : a.shares.xs.length < 9223372036854775808) : callI Try.prog cfg 14 [.g (totE a), .g (totE b)] [] = some ([.s (.bool (decide (a.v = b.v)))], []) := by
  rw [callI_eq Try.func14 rfl rfl, tv_iff]
  simp only [Try.f14, *, go_sem, ↓reduceIte, Nat.reduceAdd, Nat.reduceSub, Nat.reduceMul, Nat.reduceLeDiff, Nat.reduceLT, Nat.reduceEqDiff, Int.reduceLT, Int.reduceLE, Int.reduceEq, Int.reduceAdd, Int.reduceNeg, Int.reduceToNat, reduceCtorEq, totE]
  cases c0 : (decide (a.cash = b.cash) && (decide (a.taxable = b.taxable) && decide (a.social = b.social)))
  case false => simp only [*, go_sem, ↓reduceIte, Nat.reduceAdd, Nat.reduceSub, Nat.reduceMul, Nat.reduceLeDiff, Nat.reduceLT, Nat.reduceEqDiff, Int.reduceLT, Int.reduceLE, Int.reduceEq, Int.reduceAdd, Int.reduceNeg, Int.reduceToNat, reduceCtorEq]
  by_cases c1 : a.tax = b.tax
  case neg => simp only [*, go_sem, ↓reduceIte, Nat.reduceAdd, Nat.reduceSub, Nat.reduceMul, Nat.reduceLeDiff, Nat.reduceLT, Nat.reduceEqDiff, Int.reduceLT, Int.reduceLE, Int.reduceEq, Int.reduceAdd, Int.reduceNeg, Int.reduceToNat, reduceCtorEq]
  by_cases c2 : a.shortfall = b.shortfall
  case neg => simp only [*, go_sem, ↓reduceIte, Nat.reduceAdd, Nat.reduceSub, Nat.reduceMul, Nat.reduceLeDiff, Nat.reduceLT, Nat.reduceEqDiff, Int.reduceLT, Int.reduceLE, Int.reduceEq, Int.reduceAdd, Int.reduceNeg, Int.reduceToNat, reduceCtorEq]
  by_cases c3 : a.shares.xs = b.shares.xs
  case neg => simp only [*, go_sem, ↓reduceIte, Nat.reduceAdd, Nat.reduceSub, Nat.reduceMul, Nat.reduceLeDiff, Nat.reduceLT, Nat.reduceEqDiff, Int.reduceLT, Int.reduceLE, Int.reduceEq, Int.reduceAdd, Int.reduceNeg, Int.reduceToNat, reduceCtorEq]
  have g1 : b.shares.xs.length < 9223372036854775808 := by simpa [*] using h1
  by_cases c4 : a.net = b.net
  case neg => simp only [*, go_sem, ↓reduceIte, Nat.reduceAdd, Nat.reduceSub, Nat.reduceMul, Nat.reduceLeDiff, Nat.reduceLT, Nat.reduceEqDiff, Int.reduceLT, Int.reduceLE, Int.reduceEq, Int.reduceAdd, Int.reduceNeg, Int.reduceToNat, reduceCtorEq]
  by_cases c5 : a.taken = b.taken
  case neg => simp only [*, go_sem, ↓reduceIte, Nat.reduceAdd, Nat.reduceSub, Nat.reduceMul, Nat.reduceLeDiff, Nat.reduceLT, Nat.reduceEqDiff, Int.reduceLT, Int.reduceLE, Int.reduceEq, Int.reduceAdd, Int.reduceNeg, Int.reduceToNat, reduceCtorEq]
  by_cases c6 : a.pay = b.pay
  case neg => simp only [*, go_sem, ↓reduceIte, Nat.reduceAdd, Nat.reduceSub, Nat.reduceMul, Nat.reduceLeDiff, Nat.reduceLT, Nat.reduceEqDiff, Int.reduceLT, Int.reduceLE, Int.reduceEq, Int.reduceAdd, Int.reduceNeg, Int.reduceToNat, reduceCtorEq]
  simp only [*, go_sem, ↓reduceIte, Nat.reduceAdd, Nat.reduceSub, Nat.reduceMul, Nat.reduceLeDiff, Nat.reduceLT, Nat.reduceEqDiff, Int.reduceLT, Int.reduceLE, Int.reduceEq, Int.reduceAdd, Int.reduceNeg, Int.reduceToNat, reduceCtorEq]

@[go_sem] theorem same17 (a b : Slip) (h1 : a.shares.xs.length < 9223372036854775808) (h2 : a.taken.xs.length < 9223372036854775808) : callI Try.prog cfg 17 [.g (slipE a), .g (slipE b)] [] = some ([.s (.bool (decide (a.v = b.v)))], []) := by
  rw [callI_eq Try.func17 rfl rfl, sv_iff]
  simp only [Try.f17, *, go_sem, ↓reduceIte, Nat.reduceAdd, Nat.reduceSub, Nat.reduceMul, Nat.reduceLeDiff, Nat.reduceLT, Nat.reduceEqDiff, Int.reduceLT, Int.reduceLE, Int.reduceEq, Int.reduceAdd, Int.reduceNeg, Int.reduceToNat, reduceCtorEq, slipE]
  by_cases c0 : a.period = b.period
  case neg => simp only [*, go_sem, ↓reduceIte, Nat.reduceAdd, Nat.reduceSub, Nat.reduceMul, Nat.reduceLeDiff, Nat.reduceLT, Nat.reduceEqDiff, Int.reduceLT, Int.reduceLE, Int.reduceEq, Int.reduceAdd, Int.reduceNeg, Int.reduceToNat, reduceCtorEq]
  cases c1 : (decide (a.cash = b.cash) && (decide (a.taxable = b.taxable) && decide (a.social = b.social)))
  case false => simp only [*, go_sem, ↓reduceIte, Nat.reduceAdd, Nat.reduceSub, Nat.reduceMul, Nat.reduceLeDiff, Nat.reduceLT, Nat.reduceEqDiff, Int.reduceLT, Int.reduceLE, Int.reduceEq, Int.reduceAdd, Int.reduceNeg, Int.reduceToNat, reduceCtorEq]
  by_cases c2 : a.tax = b.tax
  case neg => simp only [*, go_sem, ↓reduceIte, Nat.reduceAdd, Nat.reduceSub, Nat.reduceMul, Nat.reduceLeDiff, Nat.reduceLT, Nat.reduceEqDiff, Int.reduceLT, Int.reduceLE, Int.reduceEq, Int.reduceAdd, Int.reduceNeg, Int.reduceToNat, reduceCtorEq]
  by_cases c3 : a.shortfall = b.shortfall
  case neg => simp only [*, go_sem, ↓reduceIte, Nat.reduceAdd, Nat.reduceSub, Nat.reduceMul, Nat.reduceLeDiff, Nat.reduceLT, Nat.reduceEqDiff, Int.reduceLT, Int.reduceLE, Int.reduceEq, Int.reduceAdd, Int.reduceNeg, Int.reduceToNat, reduceCtorEq]
  by_cases c4 : a.shares.xs = b.shares.xs
  case neg => simp only [*, go_sem, ↓reduceIte, Nat.reduceAdd, Nat.reduceSub, Nat.reduceMul, Nat.reduceLeDiff, Nat.reduceLT, Nat.reduceEqDiff, Int.reduceLT, Int.reduceLE, Int.reduceEq, Int.reduceAdd, Int.reduceNeg, Int.reduceToNat, reduceCtorEq]
  have g1 : b.shares.xs.length < 9223372036854775808 := by simpa [*] using h1
  by_cases c5 : a.net = b.net
  case neg => simp only [*, go_sem, ↓reduceIte, Nat.reduceAdd, Nat.reduceSub, Nat.reduceMul, Nat.reduceLeDiff, Nat.reduceLT, Nat.reduceEqDiff, Int.reduceLT, Int.reduceLE, Int.reduceEq, Int.reduceAdd, Int.reduceNeg, Int.reduceToNat, reduceCtorEq]
  by_cases c6 : a.taken.xs = b.taken.xs
  case neg => simp only [*, go_sem, ↓reduceIte, Nat.reduceAdd, Nat.reduceSub, Nat.reduceMul, Nat.reduceLeDiff, Nat.reduceLT, Nat.reduceEqDiff, Int.reduceLT, Int.reduceLE, Int.reduceEq, Int.reduceAdd, Int.reduceNeg, Int.reduceToNat, reduceCtorEq]
  have g2 : b.taken.xs.length < 9223372036854775808 := by simpa [*] using h2
  by_cases c7 : a.pay = b.pay
  case neg => simp only [*, go_sem, ↓reduceIte, Nat.reduceAdd, Nat.reduceSub, Nat.reduceMul, Nat.reduceLeDiff, Nat.reduceLT, Nat.reduceEqDiff, Int.reduceLT, Int.reduceLE, Int.reduceEq, Int.reduceAdd, Int.reduceNeg, Int.reduceToNat, reduceCtorEq]
  simp only [*, go_sem, ↓reduceIte, Nat.reduceAdd, Nat.reduceSub, Nat.reduceMul, Nat.reduceLeDiff, Nat.reduceLT, Nat.reduceEqDiff, Int.reduceLT, Int.reduceLE, Int.reduceEq, Int.reduceAdd, Int.reduceNeg, Int.reduceToNat, reduceCtorEq]

end Go.Proofs.Ytjkojcnimnhclaa
end

section
/-
  A year: what its functions give.
-/
namespace Go.Proofs.Ytjkojcnimnhclaa
open Go Vm
set_option maxRecDepth 4000
set_option linter.unusedSimpArgs false
set_option linter.unusedVariables false

structure Yr where
  n : Int
  slips : Sl Slip
  tot : Tot
def yE (y : Yr) : List D := .s (.int .i64 y.n) :: y.slips.d slipE :: totE y.tot
def yB (u : Bool) (y : Yr) : Blk := ⟨[yE y], false, 0, u, none⟩
def tot0 : Tot := ⟨0, 0, 0, 0, 0, .nil, 0, 0, 0⟩
def slip0 : Slip := ⟨0, 0, 0, 0, 0, 0, .nil, 0, .nil, 0⟩

@[go_sem] theorem count19 (y : Yr) (u : Bool) : callI Try.prog cfg 19 [.p 0 0 0] [yB u y] = some ([.s (.int .i64 (y.slips.xs.length : Int))], [yB u y]) := by
  rw [callI_eq Try.func19 rfl rfl]
  simp only [Try.f19, *, go_sem, ↓reduceIte, Nat.reduceAdd, Nat.reduceSub, Nat.reduceMul, Nat.reduceLeDiff, Nat.reduceLT, Nat.reduceEqDiff, Int.reduceLT, Int.reduceLE, Int.reduceEq, Int.reduceAdd, Int.reduceNeg, Int.reduceToNat, reduceCtorEq, yB, yE, totE]
def ownT (t : Tot) : Tot := { t with shares := cloneS t.shares }
@[go_sem] theorem totals18 (y : Yr) (u : Bool) (h : y.tot.shares.xs.length ≤ 1000000) : callI Try.prog cfg 18 [.p 0 0 0] [yB u y] = some ([.g (totE (ownT y.tot))], [yB u y]) := by
  rw [callI_eq Try.func18 rfl rfl]
  simp only [Try.f18, *, go_sem, ↓reduceIte, Nat.reduceAdd, Nat.reduceSub, Nat.reduceMul, Nat.reduceLeDiff, Nat.reduceLT, Nat.reduceEqDiff, Int.reduceLT, Int.reduceLE, Int.reduceEq, Int.reduceAdd, Int.reduceNeg, Int.reduceToNat, reduceCtorEq, yB, yE, totE, ownT]
/-- May each of a year's payslips be copied? -/
def lensOk (l : List Slip) : Prop := ∀ s ∈ l, s.shares.xs.length ≤ 1000000 ∧ s.taken.xs.length ≤ 1000000
theorem slip16_bad (y : Yr) (u : Bool) (k : Int) (h : k < 1 ∨ (y.slips.xs.length : Int) < k) : callI Try.prog cfg 16 [.p 0 0 0, .s (.int .i64 k)] [yB u y] = some ([.g (slipE slip0), .s (.int .i64 3)], [yB u y]) := by
  rw [callI_eq Try.func16 rfl rfl]
  by_cases h1 : k < 1
  · simp only [Try.f16, *, go_sem, ↓reduceIte, Nat.reduceAdd, Nat.reduceSub, Nat.reduceMul, Nat.reduceLeDiff, Nat.reduceLT, Nat.reduceEqDiff, Int.reduceLT, Int.reduceLE, Int.reduceEq, Int.reduceAdd, Int.reduceNeg, Int.reduceToNat, reduceCtorEq, yB, yE, totE, slipE, slip0, sl_nil]
  · have h2 : (y.slips.xs.length : Int) < k := by omega
    simp only [Try.f16, *, go_sem, ↓reduceIte, Nat.reduceAdd, Nat.reduceSub, Nat.reduceMul, Nat.reduceLeDiff, Nat.reduceLT, Nat.reduceEqDiff, Int.reduceLT, Int.reduceLE, Int.reduceEq, Int.reduceAdd, Int.reduceNeg, Int.reduceToNat, reduceCtorEq, yB, yE, totE, slipE, slip0, sl_nil]
theorem slip16_good (y : Yr) (u : Bool) (k : Nat) (s : Slip) (hs : y.slips.xs[k]? = some s) (hn : y.slips.xs.length ≤ 1000000) (hl : lensOk y.slips.xs) : callI Try.prog cfg 16 [.p 0 0 0, .s (.int .i64 ((k + 1 : Nat) : Int))] [yB u y] = some ([.g (slipE (copyS s)), .s (.int .i64 0)], [yB u y]) := by
  rw [callI_eq Try.func16 rfl rfl]
  have hk := (List.getElem?_eq_some_iff.1 hs).1
  have h1 : ¬ ((k + 1 : Nat) : Int) < 1 := by omega
  have h2 : ¬ (y.slips.xs.length : Int) < ((k + 1 : Nat) : Int) := by omega
  have h3 : IntKind.i64.wrap (((k + 1 : Nat) : Int) - 1) = (k : Int) := by
    rw [show ((k + 1 : Nat) : Int) - 1 = (k : Int) by omega]
    exact wrap_ok (by omega) (by omega)
  have h4 := hl s (List.mem_of_getElem? hs)
  have h5 := copied34 s h4.1 h4.2
  simp only [slipE] at h5
  simp only [Try.f16, *, go_sem, ↓reduceIte, Nat.reduceAdd, Nat.reduceSub, Nat.reduceMul, Nat.reduceLeDiff, Nat.reduceLT, Nat.reduceEqDiff, Int.reduceLT, Int.reduceLE, Int.reduceEq, Int.reduceAdd, Int.reduceNeg, Int.reduceToNat, reduceCtorEq, yB, yE, totE, slipE, slip0, sl_nil]

@[go_sem] theorem slips21 (y : Yr) (u : Bool) (hl : lensOk y.slips.xs) (hn : y.slips.xs.length ≤ 1000000) : callI Try.prog cfg 21 [.p 0 0 0] [yB u y] = some ([(accS (y.slips.xs.map copyS)).d slipE], [yB u y]) := by
  rw [callI_eq Try.func21 rfl rfl]
  simp only [Try.f21, *, go_sem, ↓reduceIte, Nat.reduceAdd, Nat.reduceSub, Nat.reduceMul, Nat.reduceLeDiff, Nat.reduceLT, Nat.reduceEqDiff, Int.reduceLT, Int.reduceLE, Int.reduceEq, Int.reduceAdd, Int.reduceNeg, Int.reduceToNat, reduceCtorEq, yB, yE, totE]
  generalize hx : exe _ _ _ (.loop _) _ = r
  obtain ⟨z, s1, rfl, hp⟩ := list_use hx (head0 _ _) y.slips.xs (by omega)
    (fun i (b : List Slip) st => rdT st.tm 11 = .s (.int .i64 (i : Int)) ∧ rdT st.tm 10 = .s (.int .i64 (y.slips.xs.length : Int)) ∧ rdT st.tm 9 = y.slips.d slipE ∧ rdH st.hp 0 = yB u y ∧ 1 ≤ st.nx ∧ b.length = i ∧ Acc st.hp 1 st.nx 10 (b.map slipE) (rdT st.tm 3))
    (fun b l => b ++ l.map copyS)
    (fun r ex st2 => ex = .exit 0 ∧ rdH st2.hp 0 = yB u y ∧ Acc st2.hp 1 st2.nx 10 (r.map slipE) (rdT st2.tm 3)) []
    (by simp only [*, go_sem, ↓reduceIte, Nat.reduceAdd, Nat.reduceSub, Nat.reduceMul, Nat.reduceLeDiff, Nat.reduceLT, Nat.reduceEqDiff, Int.reduceLT, Int.reduceLE, Int.reduceEq, Int.reduceAdd, Int.reduceNeg, Int.reduceToNat, reduceCtorEq, yB, yE, totE]; exact acc_nil _ _ _ _) (by
      clear hx
      rintro i b st x l ha hd hlt hw ⟨h11, h10, h9, h0, hnx, hbl, hacc⟩
      generalize h3 : rdT st.tm 3 = d at hacc
      have hx := hl x (List.mem_of_getElem? ha)
      have hc := copied34 x hx.1 hx.2
      have hil := (List.getElem?_eq_some_iff.1 ha).1
      have n0 : ¬ st.nx = 0 := by omega
      have n1 : ¬ st.nx + 1 = 0 := by omega
      have happ := app_one (α := Slip) (f := slipE) (k := 1) (nt := 22) (fn := 21) (ro := true) (K := 1) (N := st.nx) (bytes := 112) (xs := b) (d := d) (copyS x) slipE_len (Nat.le_refl _) (by omega) (by omega)
      have hh := fun hp' (h : Vm.Acc hp' 1 st.nx 10 (b.map slipE) d) => rdH_accH h (j := 0) (by omega)
      simp only [slipE] at hc happ
      simp only [*, go_sem, ↓reduceIte, Nat.reduceAdd, Nat.reduceSub, Nat.reduceMul, Nat.reduceLeDiff, Nat.reduceLT, Nat.reduceEqDiff, Int.reduceLT, Int.reduceLE, Int.reduceEq, Int.reduceAdd, Int.reduceNeg, Int.reduceToNat, reduceCtorEq, slipE]
      refine ⟨b ++ [copyS x], ?_⟩
      simp only [List.length_append, List.length_cons, List.length_nil, List.append_assoc, List.cons_append, List.nil_append, hbl, and_true, true_and]
      exact acc_new (by omega) (by omega) (by simp; omega) (by simp))
    (by
      clear hx
      rintro b st ⟨h11, h10, h9, h0, hnx, hbl, hacc⟩
      simp only [*, go_sem, ↓reduceIte, Nat.reduceAdd, Nat.reduceSub, Nat.reduceMul, Nat.reduceLeDiff, Nat.reduceLT, Nat.reduceEqDiff, Int.reduceLT, Int.reduceLE, Int.reduceEq, Int.reduceAdd, Int.reduceNeg, Int.reduceToNat, reduceCtorEq, Int.lt_irrefl])
  clear hx
  obtain ⟨rfl, p1, p2⟩ := hp
  generalize hd3 : rdT s1.tm 3 = d at p2
  simp only [List.nil_append] at p2
  have f1 := frzG_acc p2
  have f2 := acc_sl p2
  have f3 := rdH_accF p2 (j := 0) (by omega)
  simp only [*, go_sem, ↓reduceIte, Nat.reduceAdd, Nat.reduceSub, Nat.reduceMul, Nat.reduceLeDiff, Nat.reduceLT, Nat.reduceEqDiff, Int.reduceLT, Int.reduceLE, Int.reduceEq, Int.reduceAdd, Int.reduceNeg, Int.reduceToNat, reduceCtorEq, yB, yE, totE]


/-- What payslips come to, one by one, from totals on; the error. -/
def uptoF : Tot → List Slip → Tot × Int
  | t, [] => (t, 0)
  | t, s :: r => if (addT t s).2 = 0 then uptoF (addT t s).1 r else (tot0, (addT t s).2)
def totN (n : Int) : Tot := { tot0 with shares := .l none (zeroRow n.toNat) }
def shOk (t : Tot) : Prop := t.shares.xs.length ≤ 64
theorem postF_len {x y : List Sh} (h : (postF x y).2 = 0) : (postF x y).1.length = x.length := by
  unfold postF at h ⊢
  by_cases h3 : (rowF (zeroRow x.length) x).2 = 0
  · simp only [if_pos h3] at h ⊢
    rw [rowF_len _ _ h, rowF_len _ _ h3, zeroRow_len]
  · simp only [if_neg h3] at h; exact absurd h h3
theorem postS_len {x y : Sl Sh} (h : x.xs.length ≤ 64) : (postS x y).1.xs.length ≤ 64 := by
  unfold postS
  by_cases h1 : (x.xs.length : Int) = (y.xs.length : Int)
  · by_cases h2 : (postF x.xs y.xs).2 = 0
    · simp only [if_pos h1, if_pos h2, Sl.xs_l, postF_len h2]; exact h
    · simp only [if_pos h1, if_neg h2, Sl.xs_nil, List.length_nil, Nat.zero_le]
  · simp only [if_neg h1, Sl.xs_nil, List.length_nil, Nat.zero_le]
theorem addT_ok {t : Tot} {s : Slip} (h : shOk t) : shOk (addT t s).1 := by
  unfold addT
  repeat' split
  all_goals first | exact h | exact postS_len h
theorem totN_ok {n : Int} (h : n ≤ 64) : shOk (totN n) := by
  simp only [shOk, totN, Sl.xs, zeroRow_len]; omega

theorem upto20_bad (y : Yr) (u : Bool) (k : Int) (h : k < 0 ∨ (y.slips.xs.length : Int) < k) : callI Try.prog cfg 20 [.p 0 0 0, .s (.int .i64 k)] [yB u y] = some ([.g (totE tot0), .s (.int .i64 3)], [yB u y]) := by
  rw [callI_eq Try.func20 rfl rfl]
  by_cases h1 : k < 0
  · simp only [Try.f20, *, go_sem, ↓reduceIte, Nat.reduceAdd, Nat.reduceSub, Nat.reduceMul, Nat.reduceLeDiff, Nat.reduceLT, Nat.reduceEqDiff, Int.reduceLT, Int.reduceLE, Int.reduceEq, Int.reduceAdd, Int.reduceNeg, Int.reduceToNat, reduceCtorEq, yB, yE, totE, tot0, sl_nil]
  · have h2 : (y.slips.xs.length : Int) < k := by omega
    simp only [Try.f20, *, go_sem, ↓reduceIte, Nat.reduceAdd, Nat.reduceSub, Nat.reduceMul, Nat.reduceLeDiff, Nat.reduceLT, Nat.reduceEqDiff, Int.reduceLT, Int.reduceLE, Int.reduceEq, Int.reduceAdd, Int.reduceNeg, Int.reduceToNat, reduceCtorEq, yB, yE, totE, tot0, sl_nil]

def totB (t : Tot) : Blk := ⟨[totE t], false, 0, true, none⟩
theorem upto20 (y : Yr) (u : Bool) (k : Nat) (h0 : 0 ≤ y.n) (h64 : y.n ≤ 64) (hk : k ≤ y.slips.xs.length) (hn : y.slips.xs.length ≤ 1000000) (hl : lensOk y.slips.xs) : callI Try.prog cfg 20 [.p 0 0 0, .s (.int .i64 (k : Int))] [yB u y] = some ([.g (totE (uptoF (totN y.n) (y.slips.xs.take k)).1), .s (.int .i64 (uptoF (totN y.n) (y.slips.xs.take k)).2)], [yB u y]) := by
  rw [callI_eq Try.func20 rfl rfl]
  have h1 : ¬ (k : Int) < 0 := by omega
  have h2 : ¬ (y.slips.xs.length : Int) < (k : Int) := by omega
  have h3 : ¬ (y.n < 0 ∨ 64 < y.n) := by omega
  have hs := social31_nil y.n
  rw [if_neg h3] at hs
  have hcut := fun dr hp => cut_hi (P := Try.prog) (t := 30) (dr := dr) (by kernel_rfl) slipE_len hp y.slips .i64 k hk
  have hcx : (y.slips.cut 0 k).xs = y.slips.xs.take k := by rw [Sl.cut_xs]; rfl
  have hlk : (y.slips.xs.take k).length = k := by simp; omega
  simp only [Try.f20, *, go_sem, ↓reduceIte, Nat.reduceAdd, Nat.reduceSub, Nat.reduceMul, Nat.reduceLeDiff, Nat.reduceLT, Nat.reduceEqDiff, Int.reduceLT, Int.reduceLE, Int.reduceEq, Int.reduceAdd, Int.reduceNeg, Int.reduceToNat, reduceCtorEq, yB, yE, totE]
  generalize hx : exe _ _ _ (.loop _) _ = r
  obtain ⟨z, s1, rfl, hp⟩ := list_use hx (head0 _ _) (y.slips.xs.take k) (by simp; omega)
    (fun i (t : Tot) st => rdT st.tm 44 = .s (.int .i64 (i : Int)) ∧ rdT st.tm 43 = .s (.int .i64 (k : Int)) ∧ rdT st.tm 42 = (y.slips.cut 0 k).d slipE ∧ rdT st.tm 8 = .p 62 0 0 ∧ rdT st.tm 4 = .p 61 0 0 ∧ rdH st.hp 62 = totB t ∧ rdH st.hp 61 = totB tot0 ∧ rdH st.hp 0 = yB u y ∧ 62 < st.nx ∧ shOk t)
    uptoF
    (fun r ex st2 => (ex = .exit 0 ∧ r.2 = 0 ∧ rdT st2.tm 8 = .p 62 0 0 ∧ rdT st2.tm 4 = .p 61 0 0 ∧ rdH st2.hp 62 = totB r.1 ∧ rdH st2.hp 61 = totB tot0 ∧ rdH st2.hp 0 = yB u y) ∨ (ex = .ret ∧ rdT st2.tm 4 = .p 61 0 0 ∧ rdH st2.hp 61 = totB r.1 ∧ rdT st2.tm 5 = .s (.int .i64 r.2) ∧ rdH st2.hp 0 = yB u y)) (totN y.n)
    (by simp only [*, go_sem, ↓reduceIte, Nat.reduceAdd, Nat.reduceSub, Nat.reduceMul, Nat.reduceLeDiff, Nat.reduceLT, Nat.reduceEqDiff, Int.reduceLT, Int.reduceLE, Int.reduceEq, Int.reduceAdd, Int.reduceNeg, Int.reduceToNat, reduceCtorEq, yB, yE, totE, totB, totN, tot0, sl_nil]; exact totN_ok h64) (by
      clear hx
      rintro i t st x l ha hd hlt hw ⟨h44, h43, h42, h8, h4, h62, h61, hh0, hnx, hsh⟩
      have hx := hl x (List.mem_of_mem_take (List.mem_of_getElem? ha))
      have hsh2 := addT_ok (s := x) hsh
      have ha2 := add32 t x hsh (by omega)
      simp only [slipE, totE] at ha2
      have n62 : ¬ st.nx = 62 := by omega
      have n61 : ¬ st.nx = 61 := by omega
      have n0 : ¬ st.nx = 0 := by omega
      have n63 : 62 < st.nx + 1 := by omega
      have nk : 1 ≤ st.nx := by omega
      have hlt2 : (i : Int) < (k : Int) := by omega
      by_cases c : (addT t x).2 = 0
      · simp only [*, go_sem, ↓reduceIte, Nat.reduceAdd, Nat.reduceSub, Nat.reduceMul, Nat.reduceLeDiff, Nat.reduceLT, Nat.reduceEqDiff, Int.reduceLT, Int.reduceLE, Int.reduceEq, Int.reduceAdd, Int.reduceNeg, Int.reduceToNat, reduceCtorEq, slipE, totB, totE, uptoF]
        exact ⟨_, ⟨rfl, hsh2⟩, rfl⟩
      · simp only [*, go_sem, ↓reduceIte, Nat.reduceAdd, Nat.reduceSub, Nat.reduceMul, Nat.reduceLeDiff, Nat.reduceLT, Nat.reduceEqDiff, Int.reduceLT, Int.reduceLE, Int.reduceEq, Int.reduceAdd, Int.reduceNeg, Int.reduceToNat, reduceCtorEq, slipE, totB, totE, uptoF, tot0, sl_nil])
    (by
      clear hx
      rintro t st ⟨h44, h43, h42, h8, h4, h62, h61, hh0, hnx, hsh⟩
      simp only [*, go_sem, ↓reduceIte, Nat.reduceAdd, Nat.reduceSub, Nat.reduceMul, Nat.reduceLeDiff, Nat.reduceLT, Nat.reduceEqDiff, Int.reduceLT, Int.reduceLE, Int.reduceEq, Int.reduceAdd, Int.reduceNeg, Int.reduceToNat, reduceCtorEq, Int.lt_irrefl, uptoF])
  clear hx
  rcases hp with ⟨rfl, p1, p2, p3, p4, p5, p6⟩ | ⟨rfl, p1, p2, p3, p4⟩
  · simp only [*, go_sem, ↓reduceIte, Nat.reduceAdd, Nat.reduceSub, Nat.reduceMul, Nat.reduceLeDiff, Nat.reduceLT, Nat.reduceEqDiff, Int.reduceLT, Int.reduceLE, Int.reduceEq, Int.reduceAdd, Int.reduceNeg, Int.reduceToNat, reduceCtorEq, yB, yE, totE, totB]
  · simp only [*, go_sem, ↓reduceIte, Nat.reduceAdd, Nat.reduceSub, Nat.reduceMul, Nat.reduceLeDiff, Nat.reduceLT, Nat.reduceEqDiff, Int.reduceLT, Int.reduceLE, Int.reduceEq, Int.reduceAdd, Int.reduceNeg, Int.reduceToNat, reduceCtorEq, yB, yE, totE, totB]

def yrV (y : Yr) : Yr := ⟨y.n, accS (y.slips.xs.map copyS), ownT y.tot⟩
theorem clone24 (y : Yr) (u : Bool) (hl : lensOk y.slips.xs) (hn : y.slips.xs.length ≤ 1000000) (h : y.tot.shares.xs.length ≤ 1000000) : callI Try.prog cfg 24 [.p 0 0 0] [yB u y] = some ([.p 1 0 0], [yB u y, yB true (yrV y)]) := by
  rw [callI_eq Try.func24 rfl rfl]
  have h1 := slips21 y u hl hn
  have h2 := totals18 y u h
  simp only [yB, yE, totE] at h1 h2
  simp only [Try.f24, *, go_sem, ↓reduceIte, Nat.reduceAdd, Nat.reduceSub, Nat.reduceMul, Nat.reduceLeDiff, Nat.reduceLT, Nat.reduceEqDiff, Int.reduceLT, Int.reduceLE, Int.reduceEq, Int.reduceAdd, Int.reduceNeg, Int.reduceToNat, reduceCtorEq, yB, yE, totE, yrV]

theorem new11 (n : Int) : callI Try.prog cfg 11 [.s (.int .i64 n)] [] = if n < 0 ∨ 64 < n then some ([.s (.pointer none), .s (.int .i64 1)], []) else some ([.p 0 0 0, .s (.int .i64 0)], [yB true ⟨n, .nil, totN n⟩]) := by
  rw [callI_eq Try.func11 rfl rfl]
  have hs := social31_nil n
  by_cases h : n < 0 ∨ 64 < n
  · rw [if_pos h] at hs ⊢
    simp only [Try.f11, *, go_sem, ↓reduceIte, Nat.reduceAdd, Nat.reduceSub, Nat.reduceMul, Nat.reduceLeDiff, Nat.reduceLT, Nat.reduceEqDiff, Int.reduceLT, Int.reduceLE, Int.reduceEq, Int.reduceAdd, Int.reduceNeg, Int.reduceToNat, reduceCtorEq]
  · rw [if_neg h] at hs ⊢
    simp only [Try.f11, *, go_sem, ↓reduceIte, Nat.reduceAdd, Nat.reduceSub, Nat.reduceMul, Nat.reduceLeDiff, Nat.reduceLT, Nat.reduceEqDiff, Int.reduceLT, Int.reduceLE, Int.reduceEq, Int.reduceAdd, Int.reduceNeg, Int.reduceToNat, reduceCtorEq, yB, yE, totE, totN, tot0, sl_nil]

/-- What all come to with a payslip more; the error. -/
def tryF (y : Yr) (s : Slip) : Tot × Int :=
  if ¬ checkF s y.n = 0 then (tot0, checkF s y.n)
  else if ¬ s.period = (y.slips.xs.length : Int) + 1 then (tot0, 6)
  else if ¬ (addT y.tot s).2 = 0 then (tot0, (addT y.tot s).2) else ((addT y.tot s).1, 0)
theorem try13 (y : Yr) (u : Bool) (s : Slip) (hn : y.slips.xs.length ≤ 1000000) (hsh : shOk y.tot) (hl1 : s.shares.xs.length < 9223372036854775808) (hl2 : s.taken.xs.length < 9223372036854775808) : callI Try.prog cfg 13 [.p 0 0 0, .g (slipE s)] [yB u y] = some ([.g (totE (tryF y s).1), .s (.int .i64 (tryF y s).2)], [yB u y]) := by
  rw [callI_eq Try.func13 rfl rfl]
  have h1 := check9 s y.n hl1 hl2
  have h2 := add32 y.tot s hsh hl2
  have hw : IntKind.i64.wrap ((y.slips.xs.length : Int) + 1) = (y.slips.xs.length : Int) + 1 := wrap_ok (by omega) (by omega)
  simp only [slipE, totE] at h1 h2
  by_cases c1 : checkF s y.n = 0
  case neg => simp only [Try.f13, *, go_sem, ↓reduceIte, Nat.reduceAdd, Nat.reduceSub, Nat.reduceMul, Nat.reduceLeDiff, Nat.reduceLT, Nat.reduceEqDiff, Int.reduceLT, Int.reduceLE, Int.reduceEq, Int.reduceAdd, Int.reduceNeg, Int.reduceToNat, reduceCtorEq, yB, yE, totE, slipE, tryF, tot0, sl_nil]
  by_cases c2 : s.period = (y.slips.xs.length : Int) + 1
  case neg => simp only [Try.f13, *, go_sem, ↓reduceIte, Nat.reduceAdd, Nat.reduceSub, Nat.reduceMul, Nat.reduceLeDiff, Nat.reduceLT, Nat.reduceEqDiff, Int.reduceLT, Int.reduceLE, Int.reduceEq, Int.reduceAdd, Int.reduceNeg, Int.reduceToNat, reduceCtorEq, yB, yE, totE, slipE, tryF, tot0, sl_nil]
  replace c2 := eq_true c2
  by_cases c3 : (addT y.tot s).2 = 0
  case neg => simp only [Try.f13, *, go_sem, ↓reduceIte, Nat.reduceAdd, Nat.reduceSub, Nat.reduceMul, Nat.reduceLeDiff, Nat.reduceLT, Nat.reduceEqDiff, Int.reduceLT, Int.reduceLE, Int.reduceEq, Int.reduceAdd, Int.reduceNeg, Int.reduceToNat, reduceCtorEq, yB, yE, totE, slipE, tryF, tot0, sl_nil]
  simp only [Try.f13, *, go_sem, ↓reduceIte, Nat.reduceAdd, Nat.reduceSub, Nat.reduceMul, Nat.reduceLeDiff, Nat.reduceLT, Nat.reduceEqDiff, Int.reduceLT, Int.reduceLE, Int.reduceEq, Int.reduceAdd, Int.reduceNeg, Int.reduceToNat, reduceCtorEq, yB, yE, totE, slipE, tryF, tot0, sl_nil]

end Go.Proofs.Ytjkojcnimnhclaa
end

section
/-
  A year: posting a payslip; the statement's sum.
-/
namespace Go.Proofs.Ytjkojcnimnhclaa
open Go Vm
set_option maxRecDepth 4000
set_option linter.unusedSimpArgs false
set_option linter.unusedVariables false

/-- A year with a payslip more. -/
def postY (y : Yr) (s : Slip) : Yr := ⟨y.n, .l none (y.slips.xs ++ [copyS s]), (addT y.tot s).1⟩
/-- What stands beside a year behind a posting: the row of its payslips. -/
def postB (y : Yr) (s : Slip) : Blk := ⟨(y.slips.xs ++ [copyS s]).map slipE, true, 1, true, none⟩
theorem post15_bad (y : Yr) (u : Bool) (s : Slip) (hn : y.slips.xs.length ≤ 1000000) (hsh : shOk y.tot) (hl1 : s.shares.xs.length < 9223372036854775808) (hl2 : s.taken.xs.length < 9223372036854775808) (hb : ¬ (tryF y s).2 = 0) :
    callI Try.prog cfg 15 [.p 0 0 0, .g (slipE s)] [yB u y] = some ([.s (.int .i64 (tryF y s).2)], [yB u y]) := by
  rw [callI_eq Try.func15 rfl rfl]
  have h1 := try13 y u s hn hsh hl1 hl2
  simp only [slipE, yB, yE, totE] at h1
  simp only [Try.f15, *, go_sem, ↓reduceIte, Nat.reduceAdd, Nat.reduceSub, Nat.reduceMul, Nat.reduceLeDiff, Nat.reduceLT, Nat.reduceEqDiff, Int.reduceLT, Int.reduceLE, Int.reduceEq, Int.reduceAdd, Int.reduceNeg, Int.reduceToNat, reduceCtorEq, yB, yE, totE, slipE]
theorem tryF_ok {y : Yr} {s : Slip} (h : (tryF y s).2 = 0) : (tryF y s).1 = (addT y.tot s).1 ∧ checkF s y.n = 0 ∧ s.period = (y.slips.xs.length : Int) + 1 ∧ (addT y.tot s).2 = 0 := by
  unfold tryF at h ⊢
  by_cases c1 : checkF s y.n = 0
  · by_cases c2 : s.period = (y.slips.xs.length : Int) + 1
    · by_cases c3 : (addT y.tot s).2 = 0
      · simp only [c1, c2, c3, not_true_eq_false, if_false, and_self]
      · simp only [c1, c2, c3, not_true_eq_false, if_false, not_false_eq_true, if_true] at h
    · simp only [c1, c2, not_true_eq_false, if_false, not_false_eq_true, if_true] at h; omega
  · simp only [c1, not_false_eq_true, if_true] at h
theorem post15_good (y : Yr) (u : Bool) (s : Slip) (hn : y.slips.xs.length ≤ 1000000) (hsh : shOk y.tot) (hl1 : s.shares.xs.length ≤ 1000000) (hl2 : s.taken.xs.length ≤ 1000000) (hb : (tryF y s).2 = 0) :
    callI Try.prog cfg 15 [.p 0 0 0, .g (slipE s)] [yB u y] = some ([.s (.int .i64 0)], [yB false (postY y s), postB y s]) := by
  rw [callI_eq Try.func15 rfl rfl]
  have h1 := try13 y u s hn hsh (by omega) (by omega)
  rw [(tryF_ok hb).1] at h1
  have h2 := copied34 s hl1 hl2
  have hcut := fun dr hp => cut_hh (P := Try.prog) (t := 30) (dr := dr) (by kernel_rfl) slipE_len hp y.slips .i64 .i64 y.slips.xs.length (Nat.le_refl _)
  have hcx : (y.slips.cut3 y.slips.xs.length).xs = y.slips.xs := by rw [Sl.cut3_xs, List.take_length]
  have hcap : ∀ (c : Option Nat) (xs : List Slip), y.slips.cut3 y.slips.xs.length = .l c xs → c = some xs.length := by
    intro c xs h
    cases hy : y.slips with
    | nil => rw [hy] at h; cases h
    | l c2 xs2 => rw [hy] at h; simp only [Sl.cut3, Sl.xs, List.take_length, Sl.l.injEq] at h; rw [← h.1, ← h.2]
  have happ := fun fr st => app_full (fr := fr) (n := 10) (bytes := 112) (f := slipE) (x := y.slips.cut3 y.slips.xs.length) (new := [slipE (copyS s)]) (y := .l (some 1) [slipE (copyS s)]) st slipE_len hcap rfl rfl (by rw [hcx]; simp; omega) (by rw [hcx]; simp; omega) rfl
  rw [hcx] at happ
  simp only [slipE, yB, yE, totE] at h1 h2 happ
  simp only [Try.f15, *, go_sem, ↓reduceIte, Nat.reduceAdd, Nat.reduceSub, Nat.reduceMul, Nat.reduceLeDiff, Nat.reduceLT, Nat.reduceEqDiff, Int.reduceLT, Int.reduceLE, Int.reduceEq, Int.reduceAdd, Int.reduceNeg, Int.reduceToNat, reduceCtorEq, yB, yE, totE, slipE]
  unfold fbL
  refine (leave_p1 (c := cfg) (j := 45) (bj := postB y s) (cs := .s (.int .i64 y.n) :: .a 45 0 (y.slips.xs.length + 1) 10 :: totE (addT y.tot s).1) rfl rfl rfl ?_ (cs' := yE (postY y s)) ?_ ?_ ?_ (by decide) ?_ ?_ rfl).trans ?_
  · rfl
  · have e : List.take (y.slips.xs.length + 1) (List.map slipE y.slips.xs ++ [slipE (copyS s)]) = List.map slipE y.slips.xs ++ [slipE (copyS s)] := List.take_of_length_le (by simp)
    simp only [slipE] at e
    simp only [*, go_sem, ↓reduceIte, Nat.reduceAdd, Nat.reduceSub, Nat.reduceMul, Nat.reduceLeDiff, Nat.reduceLT, Nat.reduceEqDiff, Int.reduceLT, Int.reduceLE, Int.reduceEq, Int.reduceAdd, Int.reduceNeg, Int.reduceToNat, reduceCtorEq, yE, totE, postY, sl_l, List.map_append, slipE, postB]
  · simp only [go_sem, ↓reduceIte, Nat.reduceAdd, Nat.reduceSub, Nat.reduceMul, Nat.reduceLeDiff, Nat.reduceLT, Nat.reduceEqDiff, Int.reduceLT, Int.reduceLE, Int.reduceEq, Int.reduceAdd, Int.reduceNeg, Int.reduceToNat, reduceCtorEq, yE, totE, postY]
  · simp only [refsE, refsE.refsGLf, go_sem, ↓reduceIte, Nat.reduceAdd, Nat.reduceSub, Nat.reduceMul, Nat.reduceLeDiff, Nat.reduceLT, Nat.reduceEqDiff, Int.reduceLT, Int.reduceLE, Int.reduceEq, Int.reduceAdd, Int.reduceNeg, Int.reduceToNat, reduceCtorEq, totE]
  · rfl
  · exact (by decide : (0 : Nat) < 2)
  · simp only [yE, totE]


/-! The statement's sum -/
def okT (t : Tot) : Prop := okM t.cash = true ∧ okM t.taxable = true ∧ okM t.social = true ∧ okM t.tax = true ∧ okM t.net = true ∧ okM t.taken = true ∧ okM t.pay = true ∧ ∀ x ∈ t.shares.xs, okM x.a = true ∧ okM x.b = true
def okS (s : Slip) : Prop := okM s.cash = true ∧ okM s.taxable = true ∧ okM s.social = true ∧ okM s.tax = true ∧ okM s.net = true ∧ okM s.pay = true ∧ (∀ x ∈ s.shares.xs, okM x.a = true ∧ okM x.b = true) ∧ ∀ x ∈ s.taken.xs, okM x.taken = true
def addSh (c a : Sh) : Sh := ⟨c.a + a.a, c.b + a.b⟩
def tkSum (l : List Tk) : Int := (l.map (·.taken)).sum
def outT (t : Tot) (s : Slip) : Tot := ⟨t.cash + s.cash, t.taxable + s.taxable, t.social + s.social, t.tax + s.tax, s.shortfall, accS (List.zipWith addSh t.shares.xs s.shares.xs), t.net + s.net, t.taken + tkSum s.taken.xs, t.pay + s.pay⟩
def okSh (x : Sh) : Bool := okM x.a && okM x.b
def goodO (t : Tot) (s : Slip) : Bool := okAllM [t.cash + s.cash, t.taxable + s.taxable, t.social + s.social, t.tax + s.tax, t.net + s.net, t.taken + tkSum s.taken.xs, t.pay + s.pay] && (List.zipWith addSh t.shares.xs s.shares.xs).all okSh
def sumT (t : Tot) (s : Slip) : Tot × Int := if goodO t s = true then (outT t s, 0) else (t, 10)

def sB6 (t : Tot) (s : Slip) (u : Bool) (tk : Int) (d : D) : Blk := ⟨[[.s (.int .i64 (t.cash + s.cash)), .s (.int .i64 (t.taxable + s.taxable)), .s (.int .i64 (t.social + s.social)), .s (.int .i64 (t.tax + s.tax)), .s (.int .i64 s.shortfall), d, .s (.int .i64 (t.net + s.net)), .s (.int .i64 tk), .s (.int .i64 (t.pay + s.pay))]], false, 0, u, none⟩
/-- The row of shares that grows in the sum's block. -/
def accB6 (t : Tot) (s : Slip) (hp : List (Nat × Blk)) (nx : Nat) (acc : List Sh) : Prop := ∃ d u, rdH hp 138 = sB6 t s u (t.taken + tkSum s.taken.xs) d ∧ Vm.Acc hp 139 nx 2 (acc.map she) d
theorem sum12 (t : Tot) (s : Slip) (ht : okT t) (hs : okS s) (hl : s.shares.xs.length = t.shares.xs.length) (h64 : t.shares.xs.length ≤ 64) (h30 : s.taken.xs.length ≤ 30) : callI Try.prog cfg 12 [.g (totE t), .g (slipE s)] [] = some ([.g (totE (sumT t s).1), .s (.int .i64 (sumT t s).2)], []) := by
  rw [callI_eq Try.func12 rfl rfl]
  obtain ⟨t1, t2, t3, t4, t5, t6, t7, t8⟩ := ht
  obtain ⟨s1, s2, s3, s4, s5, s6, s7, s8⟩ := hs
  simp only [okM_iff] at t1 t2 t3 t4 t5 t6 t7 s1 s2 s3 s4 s5 s6
  have w1 : IntKind.i64.wrap (t.cash + s.cash) = t.cash + s.cash := wrap_ok (by omega) (by omega)
  have w2 : IntKind.i64.wrap (t.taxable + s.taxable) = t.taxable + s.taxable := wrap_ok (by omega) (by omega)
  have w3 : IntKind.i64.wrap (t.social + s.social) = t.social + s.social := wrap_ok (by omega) (by omega)
  have w4 : IntKind.i64.wrap (t.tax + s.tax) = t.tax + s.tax := wrap_ok (by omega) (by omega)
  have w5 : IntKind.i64.wrap (t.net + s.net) = t.net + s.net := wrap_ok (by omega) (by omega)
  have w6 : IntKind.i64.wrap (t.pay + s.pay) = t.pay + s.pay := wrap_ok (by omega) (by omega)
  clear s1 s2 s3 s4 s5 s6 t1 t2 t3 t4 t5 t7
  simp only [Try.f12, *, go_sem, ↓reduceIte, Nat.reduceAdd, Nat.reduceSub, Nat.reduceMul, Nat.reduceLeDiff, Nat.reduceLT, Nat.reduceEqDiff, Int.reduceLT, Int.reduceLE, Int.reduceEq, Int.reduceAdd, Int.reduceNeg, Int.reduceToNat, reduceCtorEq, totE, slipE]
  generalize hx : exe _ _ _ (.loop _) _ = r
  obtain ⟨z, s1, rfl, hp⟩ := list_use hx (head0 _ _) s.taken.xs (by omega)
    (fun i (b : Int) st => rdT st.tm 58 = .s (.int .i64 (i : Int)) ∧ rdT st.tm 57 = .s (.int .i64 (s.taken.xs.length : Int)) ∧ rdT st.tm 56 = s.taken.d te ∧ rdT st.tm 2 = .p 135 0 0 ∧ rdT st.tm 3 = .p 136 0 0 ∧ rdT st.tm 4 = .p 137 0 0 ∧ rdT st.tm 6 = .p 138 0 0 ∧
      rdH st.hp 135 = totB t ∧ rdH st.hp 136 = slipB s ∧ rdH st.hp 137 = totB tot0 ∧ rdH st.hp 138 = sB6 t s true b nilS ∧ 138 < st.nx ∧ b ≤ 100000000000 + 100000000000 * i ∧ -100000000000 - 100000000000 * i ≤ b)
    (fun b l => b + tkSum l)
    (fun r ex st2 => ex = .exit 0 ∧ rdT st2.tm 2 = .p 135 0 0 ∧ rdT st2.tm 3 = .p 136 0 0 ∧ rdT st2.tm 4 = .p 137 0 0 ∧ rdT st2.tm 6 = .p 138 0 0 ∧
      rdH st2.hp 135 = totB t ∧ rdH st2.hp 136 = slipB s ∧ rdH st2.hp 137 = totB tot0 ∧ rdH st2.hp 138 = sB6 t s true r nilS ∧ 138 < st2.nx) t.taken
    (by simp only [*, go_sem, ↓reduceIte, Nat.reduceAdd, Nat.reduceSub, Nat.reduceMul, Nat.reduceLeDiff, Nat.reduceLT, Nat.reduceEqDiff, Int.reduceLT, Int.reduceLE, Int.reduceEq, Int.reduceAdd, Int.reduceNeg, Int.reduceToNat, reduceCtorEq, totB, totE, slipB, slipE, sB6, tot0, sl_nil]; omega) (by
      clear hx
      rintro i b st x l ha hd hlt hw ⟨h58, h57, h56, h2, h3, h4, h6, h135, h136, h137, h138, hnx, hb1, hb2⟩
      have kx := okM_iff.1 (s8 x (List.mem_of_getElem? ha))
      have n1 : ¬ st.nx = 138 := by omega
      have n2 : ¬ st.nx = 137 := by omega
      have n3 : ¬ st.nx = 136 := by omega
      have n4 : ¬ st.nx = 135 := by omega
      have n5 : 138 < st.nx + 1 := by omega
      have w : IntKind.i64.wrap (b + x.taken) = b + x.taken := wrap_ok (by omega) (by omega)
      simp only [*, go_sem, ↓reduceIte, Nat.reduceAdd, Nat.reduceSub, Nat.reduceMul, Nat.reduceLeDiff, Nat.reduceLT, Nat.reduceEqDiff, Int.reduceLT, Int.reduceLE, Int.reduceEq, Int.reduceAdd, Int.reduceNeg, Int.reduceToNat, reduceCtorEq, te, sB6]
      refine ⟨b + x.taken, ?_⟩
      simp only [true_and]
      refine ⟨⟨by omega, by omega⟩, ?_⟩
      simp only [tkSum, List.map_cons, List.sum_cons]
      omega)
    (by
      clear hx
      rintro b st ⟨h58, h57, h56, h2, h3, h4, h6, h135, h136, h137, h138, hnx, hb1, hb2⟩
      have e : b + tkSum [] = b := by simp [tkSum]
      simp only [*, go_sem, ↓reduceIte, Nat.reduceAdd, Nat.reduceSub, Nat.reduceMul, Nat.reduceLeDiff, Nat.reduceLT, Nat.reduceEqDiff, Int.reduceLT, Int.reduceLE, Int.reduceEq, Int.reduceAdd, Int.reduceNeg, Int.reduceToNat, reduceCtorEq, Int.lt_irrefl])
  clear hx
  obtain ⟨rfl, p2, p3, p4, p6, p135, p136, p137, p138, pnx⟩ := hp
  simp only [*, go_sem, ↓reduceIte, Nat.reduceAdd, Nat.reduceSub, Nat.reduceMul, Nat.reduceLeDiff, Nat.reduceLT, Nat.reduceEqDiff, Int.reduceLT, Int.reduceLE, Int.reduceEq, Int.reduceAdd, Int.reduceNeg, Int.reduceToNat, reduceCtorEq, totB, totE, slipB, slipE, sB6]
  generalize hg : okAllM [t.cash + s.cash, t.taxable + s.taxable, t.social + s.social, t.tax + s.tax, t.net + s.net, t.taken + tkSum s.taken.xs, t.pay + s.pay] = g0
  generalize hx : exe _ _ _ (.loop _) _ = r
  obtain ⟨z, s2, rfl, hp⟩ := list_use hx (head0 _ _) s.shares.xs (by omega)
    (fun i (b : List Sh × Bool × List Sh) st => rdT st.tm 91 = .s (.int .i64 (i : Int)) ∧ rdT st.tm 90 = .s (.int .i64 (s.shares.xs.length : Int)) ∧ rdT st.tm 89 = s.shares.d she ∧ rdT st.tm 9 = .s (.bool b.2.1) ∧ rdT st.tm 2 = .p 135 0 0 ∧ rdT st.tm 4 = .p 137 0 0 ∧ rdT st.tm 6 = .p 138 0 0 ∧
      rdH st.hp 135 = totB t ∧ rdH st.hp 137 = totB tot0 ∧ 138 < st.nx ∧ b.1.length = i ∧ b.2.2 = t.shares.xs.drop i ∧ accB6 t s st.hp st.nx b.1)
    (fun b l => (b.1 ++ List.zipWith addSh b.2.2 l, b.2.1 && (List.zipWith addSh b.2.2 l).all okSh))
    (fun r ex st2 => ex = .exit 2 ∧ rdT st2.tm 9 = .s (.bool r.2) ∧ rdT st2.tm 2 = .p 135 0 0 ∧ rdT st2.tm 4 = .p 137 0 0 ∧ rdT st2.tm 6 = .p 138 0 0 ∧
      rdH st2.hp 135 = totB t ∧ rdH st2.hp 137 = totB tot0 ∧ accB6 t s st2.hp st2.nx r.1) ([], g0, t.shares.xs)
    (by
      simp only [*, go_sem, ↓reduceIte, Nat.reduceAdd, Nat.reduceSub, Nat.reduceMul, Nat.reduceLeDiff, Nat.reduceLT, Nat.reduceEqDiff, Int.reduceLT, Int.reduceLE, Int.reduceEq, Int.reduceAdd, Int.reduceNeg, Int.reduceToNat, reduceCtorEq]
      exact ⟨nilS, true, by simp only [sB6, p138], acc_nil _ _ _ _⟩) (by
      clear hx
      rintro i ⟨acc, g, ts⟩ st x l ha hd hlt hw ⟨h91, h90, h89, h9, h2, h4, h6, h135, h137, hnx, hal, hts, d, u, h138, hacc⟩
      dsimp only at h9 hal hts hacc ⊢
      have hit : i < t.shares.xs.length := by omega
      have hlt2 : (i : Int) < (t.shares.xs.length : Int) := by omega
      have hct : t.shares.xs[i]? = some t.shares.xs[i] := by simp [hit]
      have hdt : t.shares.xs.drop i = t.shares.xs[i] :: t.shares.xs.drop (i + 1) := List.drop_eq_getElem_cons hit
      generalize t.shares.xs[i] = c at hct hdt
      rw [hdt] at hts
      subst hts
      have kx := s7 x (List.mem_of_getElem? ha)
      have kc := t8 c (List.mem_of_getElem? hct)
      simp only [okM_iff] at kx kc
      have wa : IntKind.i64.wrap (c.a + x.a) = c.a + x.a := wrap_ok (by omega) (by omega)
      have wb : IntKind.i64.wrap (c.b + x.b) = c.b + x.b := wrap_ok (by omega) (by omega)
      have n1 : ¬ st.nx = 138 := by omega
      have n2 : ¬ st.nx = 137 := by omega
      have n4 : ¬ st.nx = 135 := by omega
      have m1 : ¬ st.nx + 1 = 138 := by omega
      have m2 : ¬ st.nx + 1 = 137 := by omega
      have m4 : ¬ st.nx + 1 = 135 := by omega
      have k1 : ¬ st.nx + 1 + 1 = 138 := by omega
      have k2 : ¬ st.nx + 1 + 1 = 137 := by omega
      have k4 : ¬ st.nx + 1 + 1 = 135 := by omega
      have q1 : ¬ 138 = st.nx := by omega
      have q2 : ¬ 138 = st.nx + 1 := by omega
      have e12 : ¬ st.nx + 1 = st.nx := by omega
      have e21 : ¬ st.nx + 1 + 1 = st.nx + 1 := by omega
      have e22 : ¬ st.nx + 1 + 1 = st.nx := by omega
      have e23 : ¬ st.nx = st.nx + 1 := by omega
      have happ := app_one (α := Sh) (f := she) (k := 0) (nt := 135) (fn := 12) (ro := true) (K := 139) (N := st.nx) (bytes := 16) (xs := acc) (d := d) (addSh c x) she_len (by omega) (by omega) (by omega)
      have hh := fun hp' j (h : Vm.Acc hp' 139 st.nx 2 (acc.map she) d) (hj : j < 139) => rdH_accH h hj
      have hh2 := fun hp' j (h : Vm.Acc hp' 139 st.nx 2 (acc.map she) d) (hj : st.nx ≤ j) => rdH_accH2 h hj
      simp only [she, addSh] at happ
      simp only [*, go_sem, ↓reduceIte, Nat.reduceAdd, Nat.reduceSub, Nat.reduceMul, Nat.reduceLeDiff, Nat.reduceLT, Nat.reduceEqDiff, Int.reduceLT, Int.reduceLE, Int.reduceEq, Int.reduceAdd, Int.reduceNeg, Int.reduceToNat, reduceCtorEq, she, totB, totE, sB6, okAllM_2]
      cases g <;> simp only [*, go_sem, ↓reduceIte, Nat.reduceAdd, Nat.reduceSub, Nat.reduceMul, Nat.reduceLeDiff, Nat.reduceLT, Nat.reduceEqDiff, Int.reduceLT, Int.reduceLE, Int.reduceEq, Int.reduceAdd, Int.reduceNeg, Int.reduceToNat, reduceCtorEq, she, totB, totE, sB6, okAllM_2]
      · refine ⟨(acc ++ [addSh c x], false, t.shares.xs.drop (i + 1)), ?_⟩
        simp only [*, go_sem, ↓reduceIte, Nat.reduceAdd, Nat.reduceSub, Nat.reduceMul, Nat.reduceLeDiff, Nat.reduceLT, Nat.reduceEqDiff, Int.reduceLT, Int.reduceLE, Int.reduceEq, Int.reduceAdd, Int.reduceNeg, Int.reduceToNat, reduceCtorEq, List.append_assoc, List.length_append, List.zipWith_cons_cons, List.all_cons]
        exact ⟨by omega, .a (st.nx + 1 + 1) 0 (i + 1) 2, false, rfl, acc_low (acc_new (by omega) (by omega) (by simp; omega) (by simp)) (by omega) _⟩
      · refine ⟨(acc ++ [addSh c x], okSh (addSh c x), t.shares.xs.drop (i + 1)), ?_⟩
        have eo : (okM (c.a + x.a) && okM (c.b + x.b)) = okSh (addSh c x) := rfl
        simp only [*, go_sem, ↓reduceIte, Nat.reduceAdd, Nat.reduceSub, Nat.reduceMul, Nat.reduceLeDiff, Nat.reduceLT, Nat.reduceEqDiff, Int.reduceLT, Int.reduceLE, Int.reduceEq, Int.reduceAdd, Int.reduceNeg, Int.reduceToNat, reduceCtorEq, List.append_assoc, List.length_append, List.zipWith_cons_cons, List.all_cons]
        exact ⟨by omega, .a (st.nx + 1 + 1) 0 (i + 1) 2, false, rfl, acc_low (acc_new (by omega) (by omega) (by simp; omega) (by simp)) (by omega) _⟩)
    (by
      clear hx
      rintro ⟨acc, g, ts⟩ st ⟨h91, h90, h89, h9, h2, h4, h6, h135, h137, hnx, hal, hts, d, u, h138, hacc⟩
      have e1 : List.zipWith addSh ts [] = [] := by cases ts <;> rfl
      simp only [*, go_sem, ↓reduceIte, Nat.reduceAdd, Nat.reduceSub, Nat.reduceMul, Nat.reduceLeDiff, Nat.reduceLT, Nat.reduceEqDiff, Int.reduceLT, Int.reduceLE, Int.reduceEq, Int.reduceAdd, Int.reduceNeg, Int.reduceToNat, reduceCtorEq, Int.lt_irrefl, List.all_nil]
      exact ⟨d, u, h138, hacc⟩)
  clear hx
  obtain ⟨rfl, q9, q2, q4, q6, q135, q137, d, u, q138, hacc⟩ := hp
  simp only [List.nil_append] at q9 hacc
  have f1 := fun b => frz_acc (acc_low hacc (j := 137) (by omega) b)
  have f2 := acc_sl hacc
  cases hz : (g0 && (List.zipWith addSh t.shares.xs s.shares.xs).all okSh) with
  | false =>
    have e : sumT t s = (t, 10) := by simp only [sumT, goodO, hg, hz, Bool.false_eq_true, if_false]
    simp only [*, go_sem, ↓reduceIte, Nat.reduceAdd, Nat.reduceSub, Nat.reduceMul, Nat.reduceLeDiff, Nat.reduceLT, Nat.reduceEqDiff, Int.reduceLT, Int.reduceLE, Int.reduceEq, Int.reduceAdd, Int.reduceNeg, Int.reduceToNat, reduceCtorEq, totB, totE, sB6]
  | true =>
    have e : sumT t s = (outT t s, 0) := by simp only [sumT, goodO, hg, hz, if_true]
    simp only [*, go_sem, ↓reduceIte, Nat.reduceAdd, Nat.reduceSub, Nat.reduceMul, Nat.reduceLeDiff, Nat.reduceLT, Nat.reduceEqDiff, Int.reduceLT, Int.reduceLE, Int.reduceEq, Int.reduceAdd, Int.reduceNeg, Int.reduceToNat, reduceCtorEq, totB, totE, sB6, outT]

end Go.Proofs.Ytjkojcnimnhclaa
end

/-
  The statement's sum and the program's are one, where payslips hang together.
-/
namespace Go.Proofs.Ytjkojcnimnhclaa
open Go Vm

theorem addE_if {x y : Int} (hx : okM x = true) (hy : okM y = true) : addE x y = if okM (x + y) = true then 0 else 10 := by
  simp only [addE, hx, hy, and_self, if_true, chkE]
theorem addV_if {x y : Int} (hx : okM x = true) (hy : okM y = true) (h : okM (x + y) = true) : addV x y = x + y := by
  simp only [addV, hx, hy, h, and_self, if_true, chkV]

theorem totF_one {a : Sh} (ha : okM a.a = true) (hb : okM a.b = true) : totF (0, 0) [⟨0, 0⟩, a] = (a.a, a.b, 0) := by
  rw [totF_good ok0 ok0 (by simpa using ok0) (by simpa using ok0) ok0 ok0]
  rw [totF_good ha hb (by simpa using ha) (by simpa using hb) (by simpa using ok0) (by simpa using ok0)]
  simp [totF]
theorem totF_two {c a : Sh} (hc1 : okM c.a = true) (hc2 : okM c.b = true) (ha : okM a.a = true) (hb : okM a.b = true) : totF (0, 0) [c, a] = if okM (c.a + a.a) = true then (if okM (c.b + a.b) = true then (c.a + a.a, c.b + a.b, 0) else (0, 0, 10)) else (0, 0, 10) := by
  rw [totF_good hc1 hc2 (by simpa using hc1) (by simpa using hc2) ok0 ok0]
  simp only [Int.zero_add, totF, addE_if hc1 ha, addE_if hc2 hb]
  by_cases h1 : okM (c.a + a.a) = true
  · by_cases h2 : okM (c.b + a.b) = true
    · simp only [h1, h2, if_true, addV_if hc1 ha h1, addV_if hc2 hb h2]
    · simp [h1, h2]
  · simp [h1]
def okShs (l : List Sh) : Prop := ∀ x ∈ l, okM x.a = true ∧ okM x.b = true
theorem rowF_zero : ∀ {x : List Sh}, okShs x → rowF (zeroRow x.length) x = (x, 0)
  | [], _ => rfl
  | a :: r, h => by
    have h1 := h a (by simp)
    have ih := rowF_zero (x := r) (fun y hy => h y (by simp [hy]))
    have e : zeroRow (a :: r).length = ⟨0, 0⟩ :: zeroRow r.length := by simp [zeroRow, List.replicate_succ]
    rw [e]
    simp only [rowF, totF_one h1.1 h1.2, if_true, ih]
theorem rowF_add : ∀ {x y : List Sh}, okShs x → okShs y → x.length = y.length → rowF x y = if (List.zipWith addSh x y).all okSh = true then (List.zipWith addSh x y, 0) else ((rowF x y).1, 10)
  | [], [], _, _, _ => rfl
  | c :: cs, a :: r, hx, hy, hl => by
    have h1 := hx c (by simp)
    have h2 := hy a (by simp)
    have ih := rowF_add (x := cs) (y := r) (fun z hz => hx z (by simp [hz])) (fun z hz => hy z (by simp [hz])) (by simpa using hl)
    simp only [rowF, totF_two h1.1 h1.2 h2.1 h2.2, List.zipWith_cons_cons, List.all_cons]
    by_cases k1 : okM (c.a + a.a) = true
    · by_cases k2 : okM (c.b + a.b) = true
      · have ks : okSh (addSh c a) = true := by simp [okSh, addSh, k1, k2]
        simp only [k1, k2, if_true, ks, Bool.true_and]
        rw [ih]
        by_cases h : (List.zipWith addSh cs r).all okSh = true
        · simp only [h, if_true]; rfl
        · simp only [h, if_false, Bool.false_eq_true]
      · have ks : okSh (addSh c a) = false := by simp [okSh, addSh, k2]
        simp [k1, k2, ks]
    · have ks : okSh (addSh c a) = false := by simp [okSh, addSh, k1]
      simp [k1, ks]
  | [], _ :: _, _, _, hl => by simp at hl
  | _ :: _, [], _, _, hl => by simp at hl
theorem postS_add {x y : Sl Sh} (hx : okShs x.xs) (hy : okShs y.xs) (hl : x.xs.length = y.xs.length) : (postS x y).2 = (if (List.zipWith addSh x.xs y.xs).all okSh = true then 0 else 10) ∧ ((List.zipWith addSh x.xs y.xs).all okSh = true → (postS x y).1.xs = List.zipWith addSh x.xs y.xs) := by
  have e : postF x.xs y.xs = rowF x.xs y.xs := by simp [postF, rowF_zero hx]
  have hl2 : (x.xs.length : Int) = (y.xs.length : Int) := by omega
  unfold postS
  rw [if_pos hl2, e]
  have h := rowF_add hx hy hl
  by_cases k : (List.zipWith addSh x.xs y.xs).all okSh = true
  · rw [if_pos k] at h
    simp only [h, k, if_true, and_self, true_and, true_imp_iff]
    rfl
  · rw [if_neg k] at h
    have h2 : (rowF x.xs y.xs).2 = 10 := by rw [h]
    simp [h2, k]

theorem sumF_add : ∀ (l : List Tk) (a : Int), okM a = true → (sumF a (l.map (·.taken))).2 = 0 → (sumF a (l.map (·.taken))).1 = a + tkSum l ∧ ∀ x ∈ l, okM x.taken = true
  | [], a, _, _ => ⟨by simp [sumF, tkSum], by simp⟩
  | x :: r, a, ha, h => by
    simp only [List.map_cons] at h ⊢
    unfold sumF at h ⊢
    by_cases h1 : addE a x.taken = 0
    · simp only [h1, if_true] at h ⊢
      have e1 := addE_0 h1
      rw [e1.2.2.2] at h ⊢
      have ih := sumF_add r (a + x.taken) e1.2.2.1 h
      refine ⟨?_, ?_⟩
      · rw [ih.1]; simp only [tkSum, List.map_cons, List.sum_cons]; omega
      · intro y hy
        rcases List.mem_cons.1 hy with rfl | hy
        · exact e1.2.1
        · exact ih.2 y hy
    · simp only [h1, if_false] at h
theorem totF_all : ∀ (l : List Sh) (a b : Int), (totF (a, b) l).2.2 = 0 → okShs l
  | [], _, _, _ => by simp [okShs]
  | x :: r, a, b, h => by
    unfold totF at h
    by_cases h1 : addE a x.a = 0
    · by_cases h2 : addE b x.b = 0
      · simp only [h1, h2, if_true] at h
        have ih := totF_all r _ _ h
        intro y hy
        rcases List.mem_cons.1 hy with rfl | hy
        · exact ⟨(addE_0 h1).2.1, (addE_0 h2).2.1⟩
        · exact ih y hy
      · simp only [h1, h2, if_true, if_false] at h
    · simp only [h1, if_false] at h

/-- A payslip that hangs together. -/
theorem checkF_ok {s : Slip} {n : Int} (h : checkF s n = 0) : okS s ∧ (s.shares.xs.length : Int) = n ∧ tookF s = (tkSum s.taken.xs, 0) ∧ okM (tkSum s.taken.xs) = true ∧ s.cash - s.tax - (totF (0, 0) s.shares.xs).1 = s.net ∧ s.net - tkSum s.taken.xs = s.pay ∧ (totF (0, 0) s.shares.xs).2.2 = 0 := by
  unfold checkF at h
  split at h
  · omega
  · split at h
    · omega
    · rename_i h2
      split at h
      · rename_i h3; exact absurd h h3
      · rename_i h3
        split at h
        · omega
        · rename_i h4
          split at h
          · rename_i h5; exact absurd h h5
          · rename_i h5
            split at h
            · omega
            · rename_i h6
              have h3 : (totF (0, 0) s.shares.xs).2.2 = 0 := by omega
              have h5 : (sumF 0 (s.taken.xs.map (·.taken))).2 = 0 := by omega
              have k := sumF_add s.taken.xs 0 ok0 h5
              have k2 := sumF_ok _ _ ok0 h5
              rw [k.1] at k2
              simp only [Int.zero_add] at k k2
              rw [k.1] at h6
              simp only [not_or, Bool.not_eq_false] at h4
              simp only [okAllM, List.all_cons, List.all_nil, Bool.and_true, Bool.and_eq_true] at h4
              refine ⟨⟨h4.1.1, h4.1.2.1, h4.1.2.2, h4.2.1, h4.2.2.2.1, h4.2.2.2.2, totF_all _ _ _ h3, k.2⟩, by omega, ?_, k2, by omega, by omega, h3⟩
              unfold tookF
              exact Prod.ext k.1 h5

/-- The statement's sum, by what totals say. -/
theorem sum_add {t w : Tot} {s : Slip} (hv : w.v = t.v) (ht : okT t) (hs : okS s) (htk : tookF s = (tkSum s.taken.xs, 0)) (hk : okM (tkSum s.taken.xs) = true) (hl : s.shares.xs.length = t.shares.xs.length) :
    (sumT w s).2 = (addT t s).2 ∧ ((addT t s).2 = 0 → (sumT w s).1.v = (addT t s).1.v ∧ okT (addT t s).1 ∧ (addT t s).1.shares.xs.length = t.shares.xs.length) := by
  obtain ⟨t1, t2, t3, t4, t5, t6, t7, t8⟩ := ht
  obtain ⟨s1, s2, s3, s4, s5, s6, s7, s8⟩ := hs
  simp only [Tot.v, TotV.mk.injEq] at hv
  obtain ⟨v1, v2, v3, v4, v5, v6, v7, v8, v9⟩ := hv
  have hp := postS_add (x := t.shares) (y := s.shares) t8 s7 hl.symm
  have hg : goodO w s = goodO t s := by simp only [goodO, v1, v2, v3, v4, v6, v7, v8, v9]
  have ho : (outT w s).v = (outT t s).v := by simp only [outT, Tot.v, v1, v2, v3, v4, v6, v7, v8, v9]
  have hb : basE t.cash t.taxable t.social s.cash s.taxable s.social = if okM (t.cash + s.cash) = true then (if okM (t.taxable + s.taxable) = true then (if okM (t.social + s.social) = true then 0 else 10) else 10) else 10 := by
    simp only [basE, addE_if t1 s1, addE_if t2 s2, addE_if t3 s3]
    by_cases k1 : okM (t.cash + s.cash) = true <;> by_cases k2 : okM (t.taxable + s.taxable) = true <;> simp [k1, k2]
  have hgood : goodO t s = true ↔ (okM (t.cash + s.cash) = true ∧ okM (t.taxable + s.taxable) = true ∧ okM (t.social + s.social) = true ∧ okM (t.tax + s.tax) = true ∧ okM (t.net + s.net) = true ∧ okM (t.taken + tkSum s.taken.xs) = true ∧ okM (t.pay + s.pay) = true) ∧ (List.zipWith addSh t.shares.xs s.shares.xs).all okSh = true := by
    simp only [goodO, okAllM, List.all_cons, List.all_nil, Bool.and_true, Bool.and_eq_true]
  unfold sumT
  rw [hg]
  by_cases k : goodO t s = true
  · obtain ⟨⟨k1, k2, k3, k4, k5, k6, k7⟩, k8⟩ := hgood.1 k
    have e : addT t s = (⟨t.cash + s.cash, t.taxable + s.taxable, t.social + s.social, t.tax + s.tax, s.shortfall, (postS t.shares s.shares).1, t.net + s.net, t.taken + tkSum s.taken.xs, t.pay + s.pay⟩, 0) := by
      unfold addT
      simp only [hb, htk, hp.1, addE_if t4 s4, addE_if t5 s5, addE_if t6 hk, addE_if t7 s6, k1, k2, k3, k4, k5, k6, k7, k8, if_true, not_true_eq_false, if_false, addV_if t1 s1 k1, addV_if t2 s2 k2, addV_if t3 s3 k3, addV_if t4 s4 k4, addV_if t5 s5 k5, addV_if t6 hk k6, addV_if t7 s6 k7]
    rw [if_pos k, e]
    refine ⟨rfl, fun _ => ⟨?_, ⟨k1, k2, k3, k4, k5, k6, k7, ?_⟩, ?_⟩⟩
    · simp only [ho]; simp only [outT, Tot.v, accS_xs, hp.2 k8]
    · simp only [hp.2 k8]
      intro x hx
      have := List.all_eq_true.1 k8 x hx
      simpa [okSh] using this
    · simp only [hp.2 k8, List.length_zipWith, hl, Nat.min_self]
  · rw [if_neg k]
    have e : (addT t s).2 = 10 := by
      unfold addT
      simp only [hb, htk, hp.1, addE_if t4 s4, addE_if t5 s5, addE_if t6 hk, addE_if t7 s6]
      by_cases k1 : okM (t.cash + s.cash) = true
      case neg => simp [k1]
      by_cases k2 : okM (t.taxable + s.taxable) = true
      case neg => simp [k1, k2]
      by_cases k3 : okM (t.social + s.social) = true
      case neg => simp [k1, k2, k3]
      by_cases k4 : okM (t.tax + s.tax) = true
      case neg => simp [k1, k2, k3, k4]
      by_cases k5 : okM (t.net + s.net) = true
      case neg => simp [k1, k2, k3, k4, k5]
      by_cases k6 : okM (t.taken + tkSum s.taken.xs) = true
      case neg => simp [k1, k2, k3, k4, k5, k6]
      by_cases k7 : okM (t.pay + s.pay) = true
      case neg => simp [k1, k2, k3, k4, k5, k6, k7]
      by_cases k8 : (List.zipWith addSh t.shares.xs s.shares.xs).all okSh = true
      · exact absurd (hgood.2 ⟨⟨k1, k2, k3, k4, k5, k6, k7⟩, k8⟩) k
      · simp only [k1, k2, k3, k4, k5, k6, k7, k8, if_true, not_true_eq_false, if_false]
        simp
    exact ⟨e.symm, fun h => by rw [e] at h; omega⟩

end Go.Proofs.Ytjkojcnimnhclaa
