/-
  Texts that the last one of this claim leans on (part 2).
-/
import Derived.Orders
import Derived.LoopN
import Derived.Scope
import Derived.ScopeJumps
import Derived.ProofKit
import Derived.Carry
import Derived.Below
import Derived.ChangeSame
import Derived.Sort.Grow
import Derived.Sort.Row
import Derived.Test.YtffgjmfkkfinlaaGreatJa
set_option linter.unusedSimpArgs false
set_option linter.unusedVariables false
set_option linter.unusedSectionVars false

/-
  What comes back from a call.
-/
namespace Go.Proofs.YtffgjmfkkfinlaaGreat
namespace Vm
open Go Go.RowKit

/-- Which blocks a function may write: those that came in, if it is told to be such a one; those that it made. -/
def WC (c : Cfg) (f k : Nat) : Nat → Prop := fun id => c.wr f = true ∨ k ≤ id

theorem nd_inj {l : List Nat} (h : l.Nodup) {i j x : Nat} (hi : l[i]? = some x) (hj : l[j]? = some x) : i = j := by
  have a := nm_pos_get (i := 0) h hi
  have b := nm_pos_get (i := 0) h hj
  rw [a] at b
  simpa using b

section
variable {P : Program} {W : Nat → Prop} {φ : Ph} {F : Fz} {w : World} {hp : List (Nat × Blk)} {nx : Nat}

theorem frz_live {dr : Bool} {hp hp' : List (Nat × Blk)} {d d' : D} (h : frz dr hp d = some (d', hp')) (id : Nat) : (rdH hp' id).md < 2 ↔ (rdH hp id).md < 2 := by
  cases d <;> try (simp [frz] at h; rw [← h.2]; done)
  rename_i i lo n z
  simp only [frz] at h
  split at h
  · rename_i hc
    split at h
    · split at h
      · cases h
      · rename_i hmd _
        simp at h; obtain ⟨_, rfl⟩ := h
        by_cases e : i = id
        · subst e; rw [rdH_cons_same]; simp [hmd]
        · rw [rdH_cons_other _ _ e]
    · simp at h; rw [← h.2]
    · cases h
  · cases h
theorem frzs_live {dr : Bool} : ∀ {ds ds' : List D} {hp hp' : List (Nat × Blk)} (_ : frzs dr hp ds = some (ds', hp')) (id : Nat), (rdH hp' id).md < 2 ↔ (rdH hp id).md < 2
  | [], ds', hp, hp', h, id => by simp [frzs] at h; rw [← h.2]
  | d :: ds, ds', hp, hp', h, id => by
    simp only [frzs] at h
    split at h
    · rename_i d1 hp1 h1
      split at h
      · rename_i ds1 hp2 h2
        simp at h; obtain ⟨_, rfl⟩ := h
        exact (frzs_live h2 id).trans (frz_live h1 id)
      · cases h
    · cases h
theorem frzG_live {dr : Bool} {hp hp' : List (Nat × Blk)} {d d' : D} (h : frzG dr hp d = some (d', hp')) (id : Nat) : (rdH hp' id).md < 2 ↔ (rdH hp id).md < 2 := by
  cases d with
  | g cs =>
    simp only [frzG] at h
    split at h
    · rename_i cs' hp1 h1
      simp at h; obtain ⟨_, rfl⟩ := h
      exact frzs_live h1 id
    · cases h
  | _ => simp only [frzG] at h; exact frz_live h id
theorem frzGs_live {dr : Bool} : ∀ {ds ds' : List D} {hp hp' : List (Nat × Blk)} (_ : frzGs dr hp ds = some (ds', hp')) (id : Nat), (rdH hp' id).md < 2 ↔ (rdH hp id).md < 2
  | [], ds', hp, hp', h, id => by simp [frzGs] at h; rw [← h.2]
  | d :: ds, ds', hp, hp', h, id => by
    simp only [frzGs] at h
    split at h
    · rename_i d1 hp1 h1
      split at h
      · rename_i ds1 hp2 h2
        simp at h; obtain ⟨_, rfl⟩ := h
        exact (frzGs_live h2 id).trans (frzG_live h1 id)
      · cases h
    · cases h
theorem frzBs_live {dr : Bool} : ∀ {ids : List Nat} {hp hp' : List (Nat × Blk)} (_ : callD.frzBs dr hp ids = some hp') (id : Nat), (rdH hp' id).md < 2 ↔ (rdH hp id).md < 2
  | [], hp, hp', h, id => by simp [callD.frzBs] at h; rw [h]
  | i :: r, hp, hp', h, id => by
    simp only [callD.frzBs] at h
    split at h
    · exact frzBs_live h id
    · split at h
      · exact frzBs_live h id
      · rename_i hpa
        simp only [Bool.or_eq_true, not_or, Bool.not_eq_true] at hpa
        split at h
        · split at h
          · rename_i cs' hp1 hf
            split at h
            · exact frzBs_live h id
            · rw [frzBs_live h id]
              by_cases e : i = id
              · subst e; rw [rdH_cons_same]
              · rw [rdH_cons_other _ _ e]; exact frzGs_live hf id
          · cases h
        · cases h

theorem mds_get {hp : List (Nat × Blk)} : ∀ {ids : List Nat} {bs : List Blk} (_ : callD.mds hp ids bs = false) (j id : Nat) (B : Blk), ids[j]? = some id → bs[j]? = some B → (rdH hp id).md = B.md
  | [], bs, _, j, id, B, h, _ => by simp at h
  | i :: r, [], _, j, id, B, _, h => by simp at h
  | i :: r, b :: s, h, j, id, B, hi, hb => by
    simp only [callD.mds, Bool.or_eq_false_iff] at h
    cases j with
    | zero => simp at hi hb; subst hi; subst hb; simpa using h.1
    | succ j => simp at hi hb; exact mds_get h.2 j id B hi hb
theorem anyArr_get {hp : List (Nat × Blk)} : ∀ {ids : List Nat} (_ : callD.anyArr hp ids = false) (id : Nat), id ∈ ids → (rdH hp id).arr = false
  | [], _, id, h => by simp at h
  | i :: r, h, id, hi => by
    simp only [callD.anyArr, Bool.or_eq_false_iff] at h
    rcases List.mem_cons.1 hi with rfl | hi
    · exact h.1
    · exact anyArr_get h.2 id hi

/-- The caller's names for what a call handed back. -/
def phB (φ φ' : Ph) (nx k n : Nat) : Ph := fun id => if id < nx then φ id else if id - nx < n - k then φ' (k + (id - nx)) else none

def phC (φ : Ph) (ids : List Nat) : Ph := fun j => match ids[j]? with
  | some id => φ id
  | none => none

theorem phC_lt {ids : List Nat} {j : Nat} {x : Nat × Nat × Nat} (h : phC φ ids j = some x) : ∃ id, ids[j]? = some id ∧ φ id = some x ∧ j < ids.length := by
  unfold phC at h
  cases hi : ids[j]? with
  | none => simp [hi] at h
  | some id =>
    simp [hi] at h
    refine ⟨id, rfl, h, ?_⟩
    rcases Nat.lt_or_ge j ids.length with h | h
    · exact h
    · simp [List.getElem?_eq_none h] at hi

theorem phC_get {ids : List Nat} {j id : Nat} (h : ids[j]? = some id) : phC φ ids j = φ id := by simp [phC, h]

/-- What is handed over: its memory. -/
theorem MR.over (hm : MR φ F w hp nx) {ids : List Nat} (hnd : ids.Nodup) : MR (phC φ ids) F w (initH 0 (ids.map fun id => renB (pos 0 ids) (rdH hp id))) ids.length := by
  have rd : ∀ j id, ids[j]? = some id → rdH (initH 0 (ids.map fun id => renB (pos 0 ids) (rdH hp id))) j = renB (pos 0 ids) (rdH hp id) := by
    intro j id h
    rw [rdH_initH, if_pos (Nat.zero_le _)]
    simp [h]
  have hA : Agree φ (pos 0 ids) (phC φ ids) := by
    intro id x y hx hy
    obtain ⟨m, rfl, hmm⟩ := nm_pos hy
    rw [Nat.zero_add, phC_get hmm]; exact hx
  refine ⟨?_, ?_, ?_, ?_, ?_, hm.Fb, ?_⟩
  · intro j b c z hj hl
    obtain ⟨id, hi, hid, _⟩ := phC_lt hj
    rw [rd j id hi] at hl ⊢
    rw [renB_md] at hl
    exact (hm.blk id b c z hid hl).ren hA
  · intro j b c z hj hl
    obtain ⟨id, hi, hid, _⟩ := phC_lt hj
    rw [rd j id hi, renB_md] at hl
    exact hm.rw id b c z hid hl
  · intro j b c z hj hl ha o ho
    obtain ⟨id, hi, hid, _⟩ := phC_lt hj
    rw [rd j id hi, renB_md] at hl
    rw [rd j id hi, renB_arr] at ha
    rw [rd j id hi, renB_len] at ho
    exact hm.tip id b c z hid hl ha o ho
  · intro j j' b c1 z1 c2 z2 h1 h2 l1 l2
    obtain ⟨id, hi, hid, hj⟩ := phC_lt h1
    obtain ⟨id', hi', hid', hj'⟩ := phC_lt h2
    rw [rd j id hi, renB_md] at l1
    rw [rd j' id' hi', renB_md] at l2
    have := hm.inj id id' b c1 z1 c2 z2 hid hid' l1 l2
    subst this
    exact nd_inj hnd hi hi'
  · intro j hj
    unfold phC
    rw [List.getElem?_eq_none hj]
  · intro j b c z hj
    obtain ⟨id, _, hid, _⟩ := phC_lt hj
    exact hm.pb id b c z hid

/-- What comes back: the caller's memory. -/
theorem import_sim {c : Cfg} {f : Nat} (hm : MR φ F w hp nx) {ids : List Nat} (hnd : ids.Nodup) (hlive : ∀ id ∈ ids, (rdH hp id).md < 2) (hknown : ∀ id ∈ ids, ∃ x, φ id = some x) {bs : List Blk} (hlen : ids.length ≤ bs.length)
    {φ' : Ph} {F' : Fz} {w' : World} (hext : Ext ids.length (WC c f ids.length) (phC φ ids) F w φ' F' w') (hm' : MR φ' F' w' (initH 0 bs) bs.length) {hp' : List (Nat × Blk)}
    (hmode : ((c.wr f = true ∨ c.keep f = true) ∧ hp' = callD.addB (backOf nx 0 bs.length ids) 0 bs hp) ∨
      (c.wr f = false ∧ callD.anyArr hp ids = false ∧ callD.mds hp ids bs = false ∧ hp' = callD.addB (backOf nx 0 bs.length ids) ids.length (bs.drop ids.length) hp))
    (hWr : c.wr f = true → ∀ id ∈ ids, W id) {k : Nat} (hk : k ≤ nx) :
    MR (phB φ φ' nx ids.length bs.length) F' w' hp' (nx + (bs.length - ids.length)) ∧ Ext k W φ F w (phB φ φ' nx ids.length bs.length) F' w' ∧ Agree φ' (backOf nx 0 bs.length ids) (phB φ φ' nx ids.length bs.length) := by
  have hidlt : ∀ id ∈ ids, id < nx := fun id h => by
    obtain ⟨x, hx⟩ := hknown id h
    rcases Nat.lt_or_ge id nx with h | h
    · exact h
    · rw [hm.fresh id h] at hx; cases hx
  have nmb : ∀ j x, nm (backOf nx 0 bs.length ids) j = some x → j < bs.length ∧ ((∃ id, ids[j]? = some id ∧ x = id) ∨ (ids.length ≤ j ∧ x = nx + (j - ids.length))) := by
    intro j x h
    rw [nm_backOf] at h
    split at h
    · rename_i hj
      refine ⟨by omega, ?_⟩
      rw [Nat.sub_zero] at h
      cases hi : ids[j]? with
      | some id => simp [hi] at h; exact .inl ⟨id, rfl, h.symm⟩
      | none =>
        simp [hi] at h
        have : ids.length ≤ j := by
          rcases Nat.lt_or_ge j ids.length with h' | h'
          · rw [List.getElem?_eq_getElem h'] at hi; cases hi
          · exact h'
        exact .inr ⟨this, h.symm⟩
    · cases h
  have nmOld : ∀ j id, ids[j]? = some id → j < bs.length → nm (backOf nx 0 bs.length ids) j = some id := by
    intro j id h hj
    rw [nm_backOf, if_pos (by omega)]
    simp [h]
  have nmNew : ∀ j, ids.length ≤ j → j < bs.length → nm (backOf nx 0 bs.length ids) j = some (nx + (j - ids.length)) := by
    intro j h hj
    rw [nm_backOf, if_pos (by omega)]
    simp [List.getElem?_eq_none h]
  have hinj : ∀ i j x, nm (backOf nx 0 bs.length ids) i = some x → nm (backOf nx 0 bs.length ids) j = some x → i = j := by
    intro i j x h1 h2
    obtain ⟨_, h1⟩ := nmb i x h1
    obtain ⟨_, h2⟩ := nmb j x h2
    rcases h1 with ⟨id, a1, rfl⟩ | ⟨a1, rfl⟩ <;> rcases h2 with ⟨id', a2, e⟩ | ⟨a2, e⟩
    · subst e
      exact nd_inj hnd a1 a2
    · have := hidlt x (List.mem_of_getElem? a1); omega
    · have := hidlt id' (List.mem_of_getElem? a2); omega
    · omega
  have rdN : ∀ j, rdH (initH 0 bs) j = match bs[j]? with | some B => B | none => noBlk := fun j => by
    rw [rdH_initH, if_pos (Nat.zero_le _), Nat.sub_zero]
    cases bs[j]? <;> rfl
  have phlt : ∀ j x, φ' j = some x → j < bs.length := fun j x h => by
    rcases Nat.lt_or_ge j bs.length with h' | h'
    · exact h'
    · rw [hm'.fresh j h'] at h; cases h
  have phold : ∀ j id, ids[j]? = some id → φ' j = φ id := fun j id h => by
    have hj : j < ids.length := by
      rcases Nat.lt_or_ge j ids.length with h' | h'
      · exact h'
      · simp [List.getElem?_eq_none h'] at h
    rw [hext.phi j hj, phC_get h]
  have hsub : ∀ id x, φ id = some x → phB φ φ' nx ids.length bs.length id = some x := fun id x h => by
    have : id < nx := by
      rcases Nat.lt_or_ge id nx with h' | h'
      · exact h'
      · rw [hm.fresh id h'] at h; cases h
    unfold phB; rw [if_pos this]; exact h
  have hAg : Agree φ' (backOf nx 0 bs.length ids) (phB φ φ' nx ids.length bs.length) := by
    intro j x y hx hy
    obtain ⟨hj, h⟩ := nmb j y hy
    rcases h with ⟨id, h1, rfl⟩ | ⟨h1, rfl⟩
    · rw [phold j y h1] at hx; exact hsub y x hx
    · unfold phB
      rw [if_neg (by omega), if_pos (by omega)]
      rw [← hx]; congr 1; omega
  -- how a name's block stands in the new memory
  have case_ : ∀ id b c' z, phB φ φ' nx ids.length bs.length id = some (b, c', z) →
      (id < nx ∧ φ id = some (b, c', z) ∧ ((∃ (j : Nat) (B : Blk), ids[j]? = some id ∧ bs[j]? = some B ∧ (c.wr f = true ∨ c.keep f = true) ∧ rdH hp' id = renB (backOf nx 0 bs.length ids) B) ∨
          (rdH hp' id = rdH hp id ∧ (id ∉ ids ∨ (c.wr f = false ∧ callD.anyArr hp ids = false ∧ callD.mds hp ids bs = false))))) ∨
      (∃ (j : Nat) (B : Blk), ids.length ≤ j ∧ id = nx + (j - ids.length) ∧ φ' j = some (b, c', z) ∧ bs[j]? = some B ∧ rdH hp' id = renB (backOf nx 0 bs.length ids) B) := by
    intro id b c' z h
    by_cases hlt : id < nx
    · have hφ : φ id = some (b, c', z) := by unfold phB at h; rw [if_pos hlt] at h; exact h
      refine .inl ⟨hlt, hφ, ?_⟩
      by_cases hin : id ∈ ids
      · obtain ⟨j, hj⟩ := List.getElem?_of_mem hin
        have hjl : j < ids.length := by
          rcases Nat.lt_or_ge j ids.length with h' | h'
          · exact h'
          · simp [List.getElem?_eq_none h'] at hj
        have hjb : j < bs.length := by omega
        rcases hmode with ⟨hf, rfl⟩ | ⟨h1, h2, h3, rfl⟩
        · exact .inl ⟨j, bs[j], hj, List.getElem?_eq_getElem hjb, hf, addB_hit hinj bs 0 hp id j bs[j] (Nat.zero_le _) (by simp [hjb]) (nmOld j id hj hjb)⟩
        · refine .inr ⟨addB_miss _ _ _ _ (fun i hi hi2 hn => ?_), .inr ⟨h1, h2, h3⟩⟩
          obtain ⟨_, hh⟩ := nmb i id hn
          rcases hh with ⟨id', a1, rfl⟩ | ⟨_, rfl⟩
          · simp [List.getElem?_eq_none hi] at a1
          · omega
      · refine .inr ⟨?_, .inl hin⟩
        have miss : ∀ i, nm (backOf nx 0 bs.length ids) i ≠ some id := fun i hn => by
          obtain ⟨_, hh⟩ := nmb i id hn
          rcases hh with ⟨id', a1, rfl⟩ | ⟨_, rfl⟩
          · exact hin (List.mem_of_getElem? a1)
          · omega
        rcases hmode with ⟨_, rfl⟩ | ⟨_, _, _, rfl⟩
        · exact addB_miss _ _ _ _ fun i _ _ => miss i
        · exact addB_miss _ _ _ _ fun i _ _ => miss i
    · right
      unfold phB at h
      rw [if_neg hlt] at h
      split at h
      · rename_i hl
        have hjb : ids.length + (id - nx) < bs.length := by omega
        refine ⟨ids.length + (id - nx), bs[ids.length + (id - nx)], by omega, by omega, h, List.getElem?_eq_getElem hjb, ?_⟩
        have hn := nmNew (ids.length + (id - nx)) (by omega) hjb
        have e : nx + (ids.length + (id - nx) - ids.length) = id := by omega
        rw [e] at hn
        rcases hmode with ⟨_, rfl⟩ | ⟨_, _, _, rfl⟩
        · exact addB_hit hinj bs 0 hp id _ _ (Nat.zero_le _) (by simp [hjb]) hn
        · exact addB_hit hinj (bs.drop ids.length) ids.length hp id _ _ (by omega) (by rw [List.getElem?_drop]; simp [hjb]) hn
      · cases h
  -- a block that wasn't handed over
  have other : ∀ id b c' z, φ id = some (b, c', z) → (rdH hp id).md < 2 → id ∉ ids → ∀ j c1 z1, phC φ ids j ≠ some (b, c1, z1) := by
    intro id b c' z hid hl hni j c1 z1 h
    obtain ⟨id', hi, hid', _⟩ := phC_lt h
    have hmem := List.mem_of_getElem? hi
    have := hm.inj id id' b _ _ _ _ hid hid' hl (hlive id' hmem)
    subst this
    exact hni hmem
  have keepB : ∀ id b c' z, φ id = some (b, c', z) → (rdH hp id).md < 2 → (id ∉ ids ∨ c.wr f = false) → w'.heap[b]? = w.heap[b]? := by
    intro id b c' z hid hl hor
    refine hext.other b (hm.pb id b c' z hid) fun j c1 z1 hj hW => ?_
    rcases hor with hni | hwr
    · exact other id b c' z hid hl hni j c1 z1 hj
    · obtain ⟨_, _, _, hjl⟩ := phC_lt hj
      rcases hW with h | h
      · rw [hwr] at h; cases h
      · omega
  have noF : ∀ id b c' z o, φ id = some (b, c', z) → (rdH hp id).md < 2 → id ∉ ids → ¬ F b o → ¬ F' b o := by
    intro id b c' z o hid hl hni hF hf
    rcases hext.Fnew b o hf with h | h | ⟨j, c1, z1, h⟩
    · exact hF h
    · have := hm.pb id b c' z hid; omega
    · exact other id b c' z hid hl hni j c1 z1 h
  refine ⟨⟨?_, ?_, ?_, ?_, ?_, hm'.Fb, ?_⟩, ⟨hext.os, hext.tape, hext.output, hext.size, ?_, ?_, hext.Fm, hext.cells, ?_, ?_⟩, hAg⟩
  · -- the blocks
    intro id b c' z h hl
    rcases case_ id b c' z h with ⟨hlt, hφ, h1 | ⟨h1, h2⟩⟩ | ⟨j, B, hj, rfl, hφ, hB, h1⟩
    · obtain ⟨j, B, hj, hB, _, hrd⟩ := h1
      rw [hrd] at hl ⊢
      rw [renB_md] at hl
      have hφ' : φ' j = some (b, c', z) := by rw [phold j id hj]; exact hφ
      have := hm'.blk j b c' z hφ' (by rw [rdN, hB]; exact hl)
      rw [rdN, hB] at this
      exact this.ren hAg
    · rw [h1] at hl ⊢
      exact (hm.blk id b c' z hφ hl).keep (keepB id b c' z hφ hl (h2.imp_right fun h => h.1)) hsub hext.Fm hext.cells
    · rw [h1] at hl ⊢
      rw [renB_md] at hl
      have := hm'.blk j b c' z hφ (by rw [rdN, hB]; exact hl)
      rw [rdN, hB] at this
      exact this.ren hAg
  · intro id b c' z h hl o
    rcases case_ id b c' z h with ⟨hlt, hφ, h1 | ⟨h1, h2⟩⟩ | ⟨j, B, hj, rfl, hφ, hB, h1⟩
    · obtain ⟨j, B, hj, hB, _, hrd⟩ := h1
      rw [hrd, renB_md] at hl
      have hφ' : φ' j = some (b, c', z) := by rw [phold j id hj]; exact hφ
      exact hm'.rw j b c' z hφ' (by rw [rdN, hB]; exact hl) o
    · rw [h1] at hl
      by_cases hin : id ∈ ids
      · rcases h2 with h2 | ⟨_, _, h2⟩
        · exact absurd hin h2
        · obtain ⟨j, hj⟩ := List.getElem?_of_mem hin
          have hjb : j < bs.length := by
            have : j < ids.length := by
              rcases Nat.lt_or_ge j ids.length with h' | h'
              · exact h'
              · simp [List.getElem?_eq_none h'] at hj
            omega
          have hφ' : φ' j = some (b, c', z) := by rw [phold j id hj]; exact hφ
          have hmd := mds_get h2 j id bs[j] hj (List.getElem?_eq_getElem hjb)
          exact hm'.rw j b c' z hφ' (by rw [rdN, List.getElem?_eq_getElem hjb]; rw [← hmd]; exact hl) o
      · exact noF id b c' z o hφ (by omega) hin (hm.rw id b c' z hφ hl o)
    · rw [h1, renB_md] at hl
      exact hm'.rw j b c' z hφ (by rw [rdN, hB]; exact hl) o
  · intro id b c' z h hl ha o ho
    rcases case_ id b c' z h with ⟨hlt, hφ, h1 | ⟨h1, h2⟩⟩ | ⟨j, B, hj, rfl, hφ, hB, h1⟩
    · obtain ⟨j, B, hj, hB, _, hrd⟩ := h1
      rw [hrd, renB_md] at hl
      rw [hrd, renB_arr] at ha
      rw [hrd, renB_len] at ho
      have hφ' : φ' j = some (b, c', z) := by rw [phold j id hj]; exact hφ
      exact hm'.tip j b c' z hφ' (by rw [rdN, hB]; exact hl) (by rw [rdN, hB]; exact ha) o (by rw [rdN, hB]; exact ho)
    · rw [h1] at hl ha ho
      by_cases hin : id ∈ ids
      · rcases h2 with h2 | ⟨_, h2, _⟩
        · exact absurd hin h2
        · rw [anyArr_get h2 id hin] at ha; cases ha
      · exact noF id b c' z o hφ hl hin (hm.tip id b c' z hφ hl ha o ho)
    · rw [h1, renB_md] at hl
      rw [h1, renB_arr] at ha
      rw [h1, renB_len] at ho
      exact hm'.tip j b c' z hφ (by rw [rdN, hB]; exact hl) (by rw [rdN, hB]; exact ha) o (by rw [rdN, hB]; exact ho)
  · -- no two for one
    have oldLive : ∀ id b c' z, id < nx → φ id = some (b, c', z) → ((∃ (j : Nat) (B : Blk), ids[j]? = some id ∧ bs[j]? = some B ∧ (c.wr f = true ∨ c.keep f = true) ∧ rdH hp' id = renB (backOf nx 0 bs.length ids) B) ∨
          (rdH hp' id = rdH hp id ∧ (id ∉ ids ∨ (c.wr f = false ∧ callD.anyArr hp ids = false ∧ callD.mds hp ids bs = false)))) → (rdH hp' id).md < 2 → (rdH hp id).md < 2 := by
      intro id b c' z _ _ h hl
      rcases h with ⟨j, B, hj, _⟩ | ⟨h1, _⟩
      · exact hlive id (List.mem_of_getElem? hj)
      · rw [h1] at hl; exact hl
    have mixed : ∀ (id b c' z c2 z2 j : Nat) (B : Blk), id < nx → φ id = some (b, c', z) → ((∃ (j : Nat) (B : Blk), ids[j]? = some id ∧ bs[j]? = some B ∧ (c.wr f = true ∨ c.keep f = true) ∧ rdH hp' id = renB (backOf nx 0 bs.length ids) B) ∨
          (rdH hp' id = rdH hp id ∧ (id ∉ ids ∨ (c.wr f = false ∧ callD.anyArr hp ids = false ∧ callD.mds hp ids bs = false)))) → (rdH hp' id).md < 2 →
          ids.length ≤ j → φ' j = some (b, c2, z2) → bs[j]? = some B → B.md < 2 → False := by
      intro id b c' z c2 z2 j B hlt hφ h hl hj hφj hB hBl
      have hlo := oldLive id b c' z hlt hφ h hl
      rcases hext.img j b c2 z2 hφj with h1 | ⟨j0, c0, z0, h1, _⟩
      · have := hm.pb id b c' z hφ; omega
      · obtain ⟨r, hr, hφr, hj0⟩ := phC_lt h1
        have hrm := List.mem_of_getElem? hr
        have := hm.inj id r b _ _ _ _ hφ hφr hlo (hlive r hrm)
        subst this
        have hjb : j0 < bs.length := by omega
        have hl0 : (rdH (initH 0 bs) j0).md < 2 := by
          rw [rdN, List.getElem?_eq_getElem hjb]
          rcases h with ⟨j1, B1, hj1, hB1, _, hrd⟩ | ⟨h2, h3⟩
          · have : j1 = j0 := nd_inj hnd hj1 hr
            subst this
            rw [List.getElem?_eq_getElem hjb] at hB1
            rw [hrd, renB_md] at hl
            rw [Option.some.inj hB1]; exact hl
          · rcases h3 with h3 | ⟨_, _, h3⟩
            · exact absurd hrm h3
            · have := mds_get h3 j0 id bs[j0] hr (List.getElem?_eq_getElem hjb)
              simp only
              omega
        have := hm'.inj j0 j b _ _ _ _ (by rw [hext.phi j0 hj0]; exact h1) hφj hl0 (by rw [rdN, hB]; exact hBl)
        omega
    intro id id' b c1 z1 c2 z2 h1 h2 l1 l2
    rcases case_ id b c1 z1 h1 with ⟨hlt, hφ, a1⟩ | ⟨j, B, hj, rfl, hφ, hB, a1⟩
    · rcases case_ id' b c2 z2 h2 with ⟨hlt', hφ', a2⟩ | ⟨j', B', hj', rfl, hφ', hB', a2⟩
      · exact hm.inj id id' b c1 z1 c2 z2 hφ hφ' (oldLive id b c1 z1 hlt hφ a1 l1) (oldLive id' b c2 z2 hlt' hφ' a2 l2)
      · rw [a2, renB_md] at l2
        exact (mixed id b c1 z1 c2 z2 j' B' hlt hφ a1 l1 hj' hφ' hB' l2).elim
    · rw [a1, renB_md] at l1
      rcases case_ id' b c2 z2 h2 with ⟨hlt', hφ', a2⟩ | ⟨j', B', hj', rfl, hφ', hB', a2⟩
      · exact (mixed id' b c2 z2 c1 z1 j B hlt' hφ' a2 l2 hj hφ hB l1).elim
      · rw [a2, renB_md] at l2
        have := hm'.inj j j' b c1 z1 c2 z2 hφ hφ' (by rw [rdN, hB]; exact l1) (by rw [rdN, hB']; exact l2)
        omega
  · intro id hid
    unfold phB
    rw [if_neg (by omega), if_neg (by omega)]
  · intro id b c' z h
    rcases case_ id b c' z h with ⟨hlt, hφ, _⟩ | ⟨j, B, hj, rfl, hφ, hB, _⟩
    · exact Nat.lt_of_lt_of_le (hm.pb id b c' z hφ) hext.size
    · exact hm'.pb j b c' z hφ
  · intro id hid
    unfold phB; rw [if_pos (by omega)]
  · intro id b c' z h
    rcases case_ id b c' z h with ⟨hlt, hφ, _⟩ | ⟨j, B, hj, rfl, hφ, hB, _⟩
    · exact .inr ⟨id, c', z, hφ, fun x => x⟩
    · rcases hext.img j b c' z hφ with h1 | ⟨j0, c0, z0, h1, h2⟩
      · exact .inl h1
      · obtain ⟨r, hr, hφr, hj0⟩ := phC_lt h1
        refine .inr ⟨r, c0, z0, hφr, fun _ => ?_⟩
        rcases h2 (.inr hj) with h3 | h3
        · exact hWr h3 r (List.mem_of_getElem? hr)
        · omega
  · intro b hb hn
    refine hext.other b hb fun j c1 z1 hj hW => ?_
    obtain ⟨r, hr, hφr, hjl⟩ := phC_lt hj
    rcases hW with h | h
    · exact hn r c1 z1 hφr (hWr h r (List.mem_of_getElem? hr))
    · omega
  · intro b o hf
    rcases hext.Fnew b o hf with h | h | ⟨j, c1, z1, h⟩
    · exact .inl h
    · exact .inr (.inl h)
    · obtain ⟨r, hr, hφr, _⟩ := phC_lt h
      exact .inr (.inr ⟨r, c1, z1, hφr⟩)

end
end Vm
end Go.Proofs.YtffgjmfkkfinlaaGreat

/-
  A call as an operation.
-/
namespace Go.Proofs.YtffgjmfkkfinlaaGreat
namespace Vm
open Go Go.RowKit

/-- What a function hands out, as one value. -/
def retV : List Value → Value
  | [v] => v
  | vs => .tuple vs.toArray

/-- What is known of a function's run: it goes as the machine of values tells. -/
def CallOk (P : Program) (c : Cfg) (call : Callee) : Prop :=
  ∀ f args bs res bs', call f args bs = some (res, bs') → ∀ φ F w vs, LRel (VRel φ F w) args vs → MR φ F w (initH 0 bs) bs.length → (∀ j, j < bs.length → ∃ x, φ j = some x) →
    Calls P f vs.toArray w fun e w' => ∃ φ' F' us, e = .returned (retV us) ∧ LRel (VRel φ' F' w') res us ∧ Ext bs.length (WC c f bs.length) φ F w φ' F' w' ∧ MR φ' F' w' (initH 0 bs') bs'.length ∧ bs.length ≤ bs'.length

section
variable {P : Program} {W : Nat → Prop} {φ : Ph} {F : Fz} {w : World}

theorem resD_rel {ds : List D} {us : List Value} (h : LRel (VRel φ F w) ds us) : VRel φ F w (callD.resD ds) (retV us) := by
  cases ds with
  | nil => rw [h.of_nil]; exact vrel_t LRel.nil
  | cons d ds =>
    obtain ⟨u, us', rfl, hd, ht⟩ := h.head
    cases ds with
    | nil => rw [ht.of_nil]; exact hd
    | cons d2 ds =>
      obtain ⟨u2, us2, rfl, hd2, ht2⟩ := ht.head
      exact vrel_t (.cons hd (.cons hd2 ht2))

theorem onlyS_rel {φ2 : Ph} {F2 : Fz} {w2 : World} : ∀ {ds : List D} {us : List Value} (_ : onlyS ds = true) (_ : LRel (VRel φ F w) ds us), LRel (VRel φ2 F2 w2) ds us
  | [], us, _, h => by rw [h.of_nil]; exact .nil
  | d :: ds, us, hs, h => by
    obtain ⟨u, us', rfl, hd, ht⟩ := h.head
    cases d with
    | s v =>
      simp only [onlyS] at hs
      have := vrel_s_inv hd
      subst this
      exact .cons (vrel_s u) (onlyS_rel hs ht)
    | g cs =>
      simp only [onlyS] at hs
      split at hs
      · rename_i vs hvs
        obtain ⟨us, rfl, h1, hl⟩ := vrel_g_inv hd
        refine .cons (vrel_g h1 ?_) (onlyS_rel hs ht)
        have e := toCells_rel hvs hl
        subst e
        clear h1
        have : ∀ {cs : List D} {us : List Value}, toCells cs = some us → LRel (VRel φ2 F2 w2) cs us := by
          intro cs
          induction cs with
          | nil => intro us h; simp [toCells] at h; subst h; exact .nil
          | cons c cs ih =>
            intro us h
            cases c <;> simp only [toCells] at h <;> try (cases h; done)
            rename_i x
            cases hc : toCells cs with
            | none => simp [hc] at h
            | some us' => simp [hc] at h; subst h; exact .cons (vrel_s x) (ih hc)
        exact this hvs
      · cases hs
    | _ => simp [onlyS] at hs

/-- Values that refer to nothing. -/
theorem norefs_rel {φ2 : Ph} {ds : List D} {us : List Value} (h : LRel (VRel φ F w) ds us) : LRel (VRel φ2 F w) (ds.map (ren [])) us :=
  h.map fun d v hd => ren_rel (φ := φ) (ρ := []) (φ2 := φ2) (fun id x y _ hy => by simp [nm] at hy) hd

theorem callD_sim {c : Cfg} {fr : Fr} {dr : Bool} {call : Callee} (hcall : CallOk P c call) (hW : ∀ id, W id ↔ (fr.ro = false ∨ fr.k ≤ id)) {st st' : St} (hm : MR φ F w st.hp st.nx) (hk : fr.k ≤ st.nx) {f : Nat} {args : List D} {vs : List Value} (hr : LRel (VRel φ F w) args vs) {d : D}
    (h : callD c fr dr call f args st = some (d, st')) :
    Calls P f vs.toArray w fun e w' => ∃ v φ' F', e = .returned v ∧ Post fr.k W φ F w st.nx d v st'.hp st'.nx φ' F' w' ∧ st'.tm = st.tm := by
  unfold callD at h
  split at h
  · cases h
  · rename_i args1 hp1 hf1
    obtain ⟨F1, hk1, hr1⟩ : ∃ F1, Lk W φ F w hp1 st.nx F1 ∧ LRel (VRel φ F1 w) args1 vs := by
      split at hf1
      · simp at hf1; obtain ⟨rfl, rfl⟩ := hf1
        exact ⟨F, Lk.refl hm, hr⟩
      · exact frzGs_sim hm hf1 hr
    dsimp only at h
    have hspec := reach_spec hp1 fuel (refsLL args1) [] List.nodup_nil (fun x hx => by simp at hx)
    have hknown := reach_known hk1.1 fuel (refsLL args1) [] (fun x hx => refsLL_known hr1 x hx) (fun x hx => by simp at hx)
    generalize hids : reach hp1 fuel (refsLL args1) [] = ids at *
    obtain ⟨hnd, hlive⟩ := hspec
    split at h
    · cases h
    · rename_i hro
      split at h
      · cases h
      · rename_i hp2 hf2
        obtain ⟨F2, hk2⟩ : ∃ F2, Lk W φ F1 w hp2 st.nx F2 := by
          split at hf2
          · simp at hf2; subst hf2; exact ⟨F1, Lk.refl hk1.1⟩
          · exact frzBs_sim hk1.1 hknown hf2
        have hlive2 : ∀ id ∈ ids, (rdH hp2 id).md < 2 := by
          intro id hid
          split at hf2
          · simp at hf2; subst hf2; exact hlive id hid
          · exact (frzBs_live hf2 id).2 (hlive id hid)
        have hk12 := hk1.trans hk2
        split at h
        · cases h
        · rename_i res bs hc
          have hA : Agree φ (pos 0 ids) (phC φ ids) := by
            intro id x y hx hy
            obtain ⟨m, rfl, hmm⟩ := nm_pos hy
            rw [Nat.zero_add, phC_get hmm]; exact hx
          have hargs : LRel (VRel (phC φ ids) F2 w) (args1.map (ren (pos 0 ids))) vs := hr1.map fun d v hd => ren_rel hA (hk2.vrel hd)
          have hover := hk2.1.over hnd
          have hlenb : (ids.map fun id => renB (pos 0 ids) (rdH hp2 id)).length = ids.length := by simp
          have hC := hcall f _ _ _ _ hc (phC φ ids) F2 w vs hargs (by rw [hlenb]; exact hover) (fun j hj => by
            rw [hlenb] at hj
            obtain ⟨x, hx⟩ := hknown ids[j] (List.getElem_mem hj)
            exact ⟨x, by rw [phC_get (List.getElem?_eq_getElem hj)]; exact hx⟩)
          rw [hlenb] at hC
          refine hC.mono ?_
          rintro e w' ⟨φ', F', us, rfl, hres, hext, hm', hle⟩
          have hWr : c.wr f = true → ∀ id ∈ ids, W id := by
            intro hwr id hid
            rw [hW]
            cases hfr : fr.ro with
            | false => exact .inl rfl
            | true =>
              right
              simp only [hfr, hwr, Bool.true_and, Bool.not_eq_true] at hro
              rcases Nat.lt_or_ge id fr.k with hlt | hge
              · exfalso
                have : ids.any (· < fr.k) = true := List.any_eq_true.2 ⟨id, hid, by simpa using hlt⟩
                rw [this] at hro; cases hro
              · exact hge
          split at h
          · -- values alone come back, and nothing was written
            rename_i hfree
            simp only [Bool.and_eq_true, Bool.not_eq_true'] at hfree
            simp only [Option.some.injEq, Prod.mk.injEq] at h
            obtain ⟨rfl, rfl⟩ := h
            have hb : Below w.heap.size w w' := ⟨hext.os, hext.tape, hext.output, hext.size, fun b hb => hext.other b hb fun j c1 z1 hj hWj => by
              obtain ⟨_, _, _, hjl⟩ := phC_lt hj
              rcases hWj with h | h
              · rw [hfree.2] at h; cases h
              · omega⟩
            exact ⟨_, φ, F, rfl, ⟨fun _ _ h => h, fun _ _ => rfl, hm.ext_below hb fr.k, resD_rel (onlyS_rel hfree.1 hres), hm.below hb, Nat.le_refl _⟩, rfl⟩
          · split at h
            · cases h
            · have fin : ∀ hp', ((c.wr f = true ∨ c.keep f = true) ∧ hp' = callD.addB (backOf st.nx 0 bs.length ids) 0 bs hp2) ∨
                  (c.wr f = false ∧ callD.anyArr hp2 ids = false ∧ callD.mds hp2 ids bs = false ∧ hp' = callD.addB (backOf st.nx 0 bs.length ids) ids.length (bs.drop ids.length) hp2) →
                  d = callD.resD (res.map (ren (backOf st.nx 0 bs.length ids))) → st' = { tm := st.tm, hp := hp', nx := st.nx + (bs.length - ids.length) } →
                  ∃ v φ2 F'', Ending.returned (retV us) = .returned v ∧ Post fr.k W φ F w st.nx d v st'.hp st'.nx φ2 F'' w' ∧ st'.tm = st.tm := by
                intro hp' hmode hd hst
                subst hd; subst hst
                obtain ⟨i1, i2, i3⟩ := import_sim (W := W) (c := c) (f := f) hk2.1 hnd hlive2 hknown hle hext hm' hmode hWr hk
                refine ⟨_, _, _, rfl, ⟨?_, ?_, (hk12.2.2 fr.k).trans i2, resD_rel (hres.map fun d v hd => ren_rel i3 hd), i1, by simp⟩, rfl⟩
                · intro id x hx
                  have : id < st.nx := by
                    rcases Nat.lt_or_ge id st.nx with h' | h'
                    · exact h'
                    · rw [hm.fresh id h'] at hx; cases hx
                  unfold phB; rw [if_pos this]; exact hx
                · intro id hid
                  unfold phB; rw [if_pos hid]
              split at h
              · rename_i hwk
                simp only [Option.some.injEq, Prod.mk.injEq] at h
                obtain ⟨rfl, rfl⟩ := h
                exact fin _ (.inl ⟨by simpa using hwk, rfl⟩) rfl rfl
              · rename_i hwk
                split at h
                · cases h
                · rename_i hno
                  simp only [Option.some.injEq, Prod.mk.injEq] at h
                  obtain ⟨rfl, rfl⟩ := h
                  simp only [Bool.or_eq_true, not_or, Bool.not_eq_true] at hwk hno
                  exact fin _ (.inr ⟨hwk.1, hno.1, hno.2, rfl⟩) rfl rfl

end
end Vm
end Go.Proofs.YtffgjmfkkfinlaaGreat

/-
  Each operation, calls of functions among them: as the model runs it.
-/
namespace Go.Proofs.YtffgjmfkkfinlaaGreat
namespace Vm
open Go Go.RowKit

/-- A function with a body that is entered as it stands. -/
def Enter (P : Program) (f : Nat) : Prop := ∃ fn, P.funcs[f]? = some fn ∧ (fn.name == "runtime.NumGoroutine") = false ∧ fn.body.isNone = false

theorem callFunc_enter {P : Program} {f : Nat} (h : Enter P f) (args : Array Value) (w : World) : (callFunc f args).run P w = .ok (.enter f args) w := by
  obtain ⟨fn, h1, h2, h3⟩ := h
  have h2' : ¬ fn.name = "runtime.NumGoroutine" := by simpa using h2
  have h3' : ¬ fn.body = none := by
    intro e; rw [e] at h3; cases h3
  simp [callFunc, go_sem, h1, h2', h3']

theorem map_arr {α β : Type} (f : α → β) (xs : Array α) : xs.map f = (xs.toList.map f).toArray := by
  apply Array.toList_inj.1
  simp

section
variable {P : Program} {W : Nat → Prop} {φ : Ph} {F : Fz} {w : World}

theorem opQ_sim {tm : List (Nat × D)} {a : Act} (ht : TRel φ F w tm a) {o : Oper} {d : D} (h : opQ P tm o = some d) : ∃ v, (execOp a.eval o).run P w = .ok (.value v) w ∧ VRel φ F w d v := by
  unfold opQ at h
  split at h
  · rename_i t x ho
    split at h
    · rename_i cs n hx hn
      have hr := ht.ev x
      rw [hx] at hr
      have hq := vrel_q_inv hr
      generalize hv : a.eval x = v at hq
      cases hq with
      | q cs ad vs hsp hF hw h1 hrr =>
        obtain ⟨u, hrun, hu⟩ := load_rel (P := P) (φ := φ) (F := F) (w := w) hn h (ad := ad) fun j d hd => ⟨vs j, by
          rw [add_none (hsp (fun e => by subst e; simp at hd))]
          exact hw j d hd, h1 j d hd, .pure (hrr j d hd)⟩
        refine ⟨u, ?_, hu⟩
        unfold execOp
        simp only [ho, hv, Sem.run_bind, hrun, Result.andThen_ok, Sem.run_pure]
    · cases h
  · exact op0_sim ht h

theorem callD_enter {c : Cfg} {fr : Fr} {dr : Bool} {call : Callee} {f : Nat} {args : List D} {st : St} {r : D × St} (h : callD c fr dr call f args st = some r) : ∃ args' bs r', call f args' bs = some r' := by
  unfold callD at h
  split at h
  · cases h
  · dsimp only at h
    split at h
    · cases h
    · split at h
      · cases h
      · split at h
        · cases h
        · rename_i hc
          exact ⟨_, _, _, hc⟩

/-- The outcome of an operation: what it asks of what follows. -/
theorem opD_sim {c : Cfg} {fr : Fr} {dr : Bool} {call : Callee} (hcall : CallOk P c call) (hen : ∀ f args bs r, call f args bs = some r → Enter P f) (hW : ∀ id, W id ↔ (fr.ro = false ∨ fr.k ≤ id)) {st st' : St} (hm : MR φ F w st.hp st.nx) (hk : fr.k ≤ st.nx) {a : Act}
    (ht : TRel φ F w st.tm a) {o : Oper} {d : D} (h : opD P c fr dr call st o = some (d, st')) {K : Act → World → Prop} {Q : Exit → Act → World → Prop}
    (hK : ∀ v φ' F' w', Post fr.k W φ F w st.nx d v st'.hp st'.nx φ' F' w' → st'.tm = st.tm → K (a.put o.dst v) w') : o.wp P a w K Q := by
  unfold opD at h
  split at h
  · split at h
    · rename_i d' h0
      simp only [Option.some.injEq, Prod.mk.injEq] at h
      obtain ⟨rfl, rfl⟩ := h
      obtain ⟨v, hrun, hv⟩ := opQ_sim ht h0
      unfold Oper.wp
      rw [hrun, Oper.upon_value]
      exact hK v φ F w (Post.quiet hm fr.k hv) rfl
    · cases h
  · cases hc : isCall o with
    | false =>
      obtain ⟨v, w', φ', F', hrun, hp, htm⟩ := mem_sim hc hm (fun id h => (hW id).2 h) hk ht h
      unfold Oper.wp
      rcases hrun with hrun | ⟨hrun, rfl⟩
      · rw [hrun, Oper.upon_value]; exact hK v φ' F' w' hp htm
      · rw [hrun, Oper.upon_skip]; exact hK undef φ' F' w' hp htm
    | true =>
      have go : ∀ {g : Nat} {vs : List Value} {args : List D} {dr' : Bool}, callD c fr dr' call g args st = some (d, st') → LRel (VRel φ F w) args vs → (execOp a.eval o).run P w = (callFunc g vs.toArray).run P w → o.wp P a w K Q := by
        intro g vs args dr' hd hl hrun
        obtain ⟨_, _, _, hce⟩ := callD_enter hd
        unfold Oper.wp
        rw [hrun, callFunc_enter (hen _ _ _ _ hce), Oper.upon_enter]
        refine (callD_sim hcall hW hm hk hl hd).mono ?_
        rintro e w' ⟨v, φ', F', rfl, hp, htm⟩
        exact hK v φ' F' w' hp htm
      unfold isCall at hc
      split at hc
      · rename_i cl ho
        split at hc
        · cases hc
        · rename_i hnb
          unfold op1 at h
          simp only [ho] at h
          have hrun : ∀ {fx : Operand} {g : Nat} {first cap : Array Value}, cl.callee = .value fx → a.eval fx = .func (.func g) first cap → (execOp a.eval o).run P w = (callFunc g (first ++ cl.args.map a.eval ++ cap)).run P w := by
            intro fx g first cap hcal hfx
            have : execOp a.eval o = (callFunc g (first ++ cl.args.map a.eval ++ cap)) := by
              unfold execOp
              simp only [ho]
              unfold resolve
              simp only [hcal, hfx, Deferred.ofValue]
              rfl
            rw [this]
          split at h
          · rename_i b hb; exact absurd hb (by intro e; exact hnb _ e)
          all_goals first | (rename_i b hb; exact absurd hb (hnb _)) | skip
          · rename_i g hg
            have := go h (ht.evs cl.args.toList) (by rw [hrun hg (g := g) (first := #[]) (cap := #[]) rfl, map_arr]; simp only [Array.append_empty, Array.empty_append])
            exact this
          · rename_i fx hng hfx
            split at h
            · rename_i g first cap hev
              split at h
              · cases h
              · have hr := ht.ev fx
                rw [hev] at hr
                obtain ⟨vx, vy, hv, hx, hy⟩ := vrel_f_inv hr
                exact go h ((hx.append (ht.evs cl.args.toList)).append hy) (by rw [hrun hfx hv, map_arr]; simp only [List.append_toArray])
            · cases h
          · cases h
      · cases hc

end
end Vm
end Go.Proofs.YtffgjmfkkfinlaaGreat

/-
  Operations with their guards, and regions whose order is the text's.
-/
namespace Go.Proofs.YtffgjmfkkfinlaaGreat
namespace Vm
open Go Go.RowKit

def putT (dst : Option Tmp) (d : D) (tm : List (Nat × D)) : List (Nat × D) := match dst with
  | some t => (t, d) :: tm
  | none => tm

theorem rdT_putT_same (t : Nat) (d : D) (tm : List (Nat × D)) : rdT (putT (some t) d tm) t = d := by simp [putT, rdT]
theorem rdT_putT_other {dst : Option Tmp} {t : Nat} (h : dst ≠ some t) (d : D) (tm : List (Nat × D)) : rdT (putT dst d tm) t = rdT tm t := by
  cases dst with
  | none => rfl
  | some t' =>
    have : t' ≠ t := fun e => h (by rw [e])
    simp [putT, rdT, this]

section
variable {P : Program} {W : Nat → Prop} {φ : Ph} {F : Fz} {w : World}

theorem putD_eq (o : Oper) (d : D) (st : St) : (match o.dst with | some t => { st with tm := (t, d) :: st.tm } | none => st) = { st with tm := putT o.dst d st.tm } := by
  cases o.dst <;> rfl

theorem appendD_tm {fr : Fr} {n b : Nat} {st st' : St} {x y d : D} (h : appendD fr n b st x y = some (d, st')) : st'.tm = st.tm := by
  unfold appendD at h
  have mk : ∀ {hp es md pu new}, appendD.mk n st hp es md pu new = some (d, st') → st'.tm = st.tm := by
    intro hp es md pu new h
    simp only [appendD.mk, Option.some.injEq, Prod.mk.injEq] at h
    rw [← h.2]
  have same : ∀ {d0 : D}, some (d0, st) = some (d, st') → st'.tm = st.tm := by
    intro d0 h
    simp only [Option.some.injEq, Prod.mk.injEq] at h
    rw [← h.2]
  split at h
  · cases h
  · split at h
    · split at h
      · split at h
        · exact same h
        · exact mk h
      · split at h
        · exact same h
        · split at h
          · exact mk h
          · cases h
      · dsimp only at h
        split at h
        · split at h
          · exact same h
          · split at h
            · simp only [Option.some.injEq, Prod.mk.injEq] at h
              rw [← h.2]
            · split at h
              · exact mk h
              · cases h
        · cases h
      · cases h
    · cases h

theorem writeD_tm {fr : Fr} {n : Nat} {st st' : St} {id lo k z : Nat} {new : List (List D)} (h : writeD fr n st id lo k z new = some st') : st'.tm = st.tm := by
  unfold writeD at h
  dsimp only at h
  split at h
  · simp only [Option.some.injEq] at h; rw [← h]
  · cases h

theorem copyD_tm {fr : Fr} {n : Nat} {st st' : St} {x y d : D} (h : copyD fr n st x y = some (d, st')) : st'.tm = st.tm := by
  unfold copyD at h
  split at h
  · split at h
    · split at h
      · rename_i hw
        simp only [Option.some.injEq, Prod.mk.injEq] at h
        rw [← h.2]; exact writeD_tm hw
      · cases h
    · cases h
  · cases h

theorem callD_tm {c : Cfg} {fr : Fr} {dr : Bool} {call : Callee} {f : Nat} {args : List D} {st st' : St} {d : D} (h : callD c fr dr call f args st = some (d, st')) : st'.tm = st.tm := by
  unfold callD at h
  split at h
  · cases h
  · dsimp only at h
    split at h
    · cases h
    · split at h
      · cases h
      · split at h
        · cases h
        · split at h
          · simp only [Option.some.injEq, Prod.mk.injEq] at h; rw [← h.2]
          · split at h
            · cases h
            · split at h
              · simp only [Option.some.injEq, Prod.mk.injEq] at h; rw [← h.2]
              · split at h
                · cases h
                · simp only [Option.some.injEq, Prod.mk.injEq] at h; rw [← h.2]

theorem op1_tm {c : Cfg} {fr : Fr} {dr : Bool} {call : Callee} {st st' : St} {o : Oper} {d : D} (h : op1 P c fr dr call st o = some (d, st')) : st'.tm = st.tm := by
  unfold op1 at h
  have same : ∀ {d0 : D}, some (d0, st) = some (d, st') → st'.tm = st.tm := by
    intro d0 h
    simp only [Option.some.injEq, Prod.mk.injEq] at h
    rw [← h.2]
  cases ho : o.op <;> simp only [ho] at h <;> try (cases h; done)
  case alloc => split at h <;> first | (cases h; done) | (simp only [op1.newVar, Option.some.injEq, Prod.mk.injEq] at h; rw [← h.2])
  case box => split at h <;> first | (cases h; done) | (simp only [op1.newVar, Option.some.injEq, Prod.mk.injEq] at h; rw [← h.2])
  case buildSlice =>
    repeat' (first | (cases h; done) | exact same h | split at h)
  case load =>
    repeat' (first | (cases h; done) | exact same h | split at h)
  case store =>
    repeat' (first | (cases h; done) | (simp only [Option.some.injEq, Prod.mk.injEq] at h; rw [← h.2]; done) | (dsimp only at h; split at h) | split at h)
  case makeSlice =>
    repeat' (first | (cases h; done) | (simp only [Option.some.injEq, Prod.mk.injEq] at h; rw [← h.2]; done) | split at h)
  case slice =>
    split at h
    · simp only [Option.some.injEq, Prod.mk.injEq] at h; rw [← h.2]
    · cases h
  case call cl =>
    repeat' (first | (cases h; done) | exact same h | exact callD_tm h | exact appendD_tm h | exact copyD_tm h | (simp only [Option.some.injEq, Prod.mk.injEq] at h; rw [← h.2]; rename_i hw _ _; exact writeD_tm hw) | (simp only [Option.some.injEq, Prod.mk.injEq] at h; rw [← h.2]; rename_i hw _; exact writeD_tm hw) | split at h)

theorem opD_tm {c : Cfg} {fr : Fr} {dr : Bool} {call : Callee} {st st' : St} {o : Oper} {d : D} (h : opD P c fr dr call st o = some (d, st')) : st'.tm = st.tm := by
  unfold opD at h
  split at h
  · split at h
    · simp only [Option.some.injEq, Prod.mk.injEq] at h; rw [← h.2]
    · cases h
  · exact op1_tm h

/-- A guard is told alike. -/
theorem wanted_rel {tm : List (Nat × D)} {a : Act} (ht : TRel φ F w tm a) {ops : Array Oper} {o : Oper} {j : Nat} {want : Bool} (hg : o.guard = some (j, want)) {t : Nat} (hj : (ops[j]?).bind (·.dst) = some t) {v : Value} (hv : rdT tm t = .s v) :
    Region.wanted o (yielded ops a.tmps) = (match v with | .bool b => b == want | _ => false) := by
  have h := ht t
  rw [hv] at h
  have h := vrel_s_inv h
  unfold Region.wanted
  rw [hg]
  simp only [yielded, hj, Option.bind_some]
  rw [Array.getD_eq_getD_getElem?] at h
  cases hx : a.tmps[t]? with
  | none =>
    rw [hx] at h
    simp only [Option.getD_none] at h
    subst h
    rfl
  | some u =>
    rw [hx] at h
    simp only [Option.getD_some] at h
    subst h
    cases u <;> rfl

theorem operD_sim {c : Cfg} {fr : Fr} {dr : Bool} {call : Callee} (hcall : CallOk P c call) (hen : ∀ f args bs r, call f args bs = some r → Enter P f) (hW : ∀ id, W id ↔ (fr.ro = false ∨ fr.k ≤ id)) {st st' : St} (hm : MR φ F w st.hp st.nx) (hk : fr.k ≤ st.nx) {a : Act}
    (ht : TRel φ F w st.tm a) {ops : Array Oper} {i : Nat} {o : Oper} (hi : ops[i]? = some o) (h : operD P c fr dr call ops st o = some st') :
    ∃ d, st'.tm = putT o.dst d st.tm ∧ ∀ (K : Act → World → Prop) (Q : Exit → Act → World → Prop), (∀ v φ' F' w', Post fr.k W φ F w st.nx d v st'.hp st'.nx φ' F' w' → K (a.put o.dst v) w') → wpOp P ops Q i K a w := by
  unfold operD at h
  dsimp only at h
  have go : Region.wanted o (yielded ops a.tmps) = true → (match opD P c fr dr call st o with | some (d, st') => some (match o.dst with | some t => { st' with tm := (t, d) :: st'.tm } | none => st') | none => none) = some st' →
      ∃ d, st'.tm = putT o.dst d st.tm ∧ ∀ (K : Act → World → Prop) (Q : Exit → Act → World → Prop), (∀ v φ' F' w', Post fr.k W φ F w st.nx d v st'.hp st'.nx φ' F' w' → K (a.put o.dst v) w') → wpOp P ops Q i K a w := by
    intro hw h
    split at h
    · rename_i d st1 h1
      simp only [Option.some.injEq] at h
      have htm := opD_tm h1
      rw [putD_eq] at h
      subst h
      refine ⟨d, by simp only [htm], fun K Q hK => ?_⟩
      unfold wpOp
      simp only [hi, hw, if_true]
      refine .inl (opD_sim hcall hen hW hm hk ht h1 fun v φ' F' w' hp _ => hK v φ' F' w' hp)
    · cases h
  have no : Region.wanted o (yielded ops a.tmps) = false → some (match o.dst with | some t => { st with tm := (t, und) :: st.tm } | none => st) = some st' →
      ∃ d, st'.tm = putT o.dst d st.tm ∧ ∀ (K : Act → World → Prop) (Q : Exit → Act → World → Prop), (∀ v φ' F' w', Post fr.k W φ F w st.nx d v st'.hp st'.nx φ' F' w' → K (a.put o.dst v) w') → wpOp P ops Q i K a w := by
    intro hw h
    simp only [Option.some.injEq] at h
    rw [putD_eq] at h
    subst h
    refine ⟨und, rfl, fun K Q hK => ?_⟩
    unfold wpOp
    simp only [hi, hw, Bool.false_eq_true, if_false]
    exact hK undef φ F w (Post.quiet hm fr.k (vrel_s undef))
  split at h
  · rename_i hg
    exact go (by simp [Region.wanted, hg]) h
  · rename_i j want hg
    split at h
    · rename_i t hj
      split at h
      · rename_i b hb
        have hwt := wanted_rel ht hg hj hb
        simp only at hwt
        split at h
        · rename_i hbw
          exact go (by rw [hwt, hbw]; simp) h
        · rename_i hbw
          exact no (by rw [hwt]; simpa using hbw) h
      · rename_i v hnb hv
        have hwt := wanted_rel ht hg hj hv
        exact no (by rw [hwt]; cases v <;> first | rfl | (exact absurd rfl (hnb _))) h
      · cases h
    · cases h

/-- How a run's state stands to the machine's. -/
structure SR (fr : Fr) (φ : Ph) (F : Fz) (w : World) (st : St) (a : Act) : Prop where
  tm : TRel φ F w st.tm a
  nt : fr.nt ≤ a.tmps.size
  df : a.defers = []
  mem : MR φ F w st.hp st.nx
  k : fr.k ≤ st.nx

/-- .. and what a run has done since its begin. -/
def Sim (fr : Fr) (W : Nat → Prop) (φ0 : Ph) (F0 : Fz) (w0 : World) (st : St) (a : Act) (w : World) : Prop := ∃ φ F, SR fr φ F w st a ∧ Ext fr.k W φ0 F0 w0 φ F w

theorem put_size (a : Act) (dst : Option Tmp) (v : Value) : (a.put dst v).tmps.size = a.tmps.size := by
  cases dst <;> simp [Act.put]
theorem put_defers (a : Act) (dst : Option Tmp) (v : Value) : (a.put dst v).defers = a.defers := by
  cases dst <;> rfl
theorem put_same {a : Act} {t : Tmp} (h : t < a.tmps.size) (v : Value) : (a.put (some t) v).tmps.getD t undef = v := by
  simp [Act.put, Array.getD_eq_getD_getElem?, h]
theorem put_other {a : Act} {dst : Option Tmp} {t : Tmp} (h : dst ≠ some t) (v : Value) : (a.put dst v).tmps.getD t undef = a.tmps.getD t undef := by
  cases dst with
  | none => rfl
  | some t' =>
    have : t' ≠ t := fun e => h (by rw [e])
    simp [Act.put, Array.getD_eq_getD_getElem?, Array.getElem?_setIfInBounds_ne this]

theorem TRel.mono {φ' : Ph} {F' : Fz} {w' : World} {tm : List (Nat × D)} {a : Act} (h : TRel φ F w tm a) (hφ : ∀ id x, φ id = some x → φ' id = some x) (hF : ∀ b o, F b o → F' b o) (hc : ∀ b o, F b o → cellAt w' b o = cellAt w b o) : TRel φ' F' w' tm a :=
  fun t => (h t).mono hφ hF hc

theorem TRel.put {tm : List (Nat × D)} {a : Act} (h : TRel φ F w tm a) {dst : Option Tmp} (hd : ∀ t, dst = some t → t < a.tmps.size) {d : D} {v : Value} (hv : VRel φ F w d v) : TRel φ F w (putT dst d tm) (a.put dst v) := by
  intro t
  by_cases e : dst = some t
  · subst e
    rw [rdT_putT_same, put_same (hd t rfl)]; exact hv
  · rw [rdT_putT_other e, put_other e]; exact h t

theorem Sim.post {fr : Fr} {φ0 : Ph} {F0 : Fz} {w0 : World} {st st' : St} {a : Act} (hs : SR fr φ F w st a) (he : Ext fr.k W φ0 F0 w0 φ F w) {dst : Option Tmp} (hd : ∀ t, dst = some t → t < fr.nt) {d : D} (htm : st'.tm = putT dst d st.tm) {v : Value} {φ' : Ph} {F' : Fz} {w' : World}
    (hp : Post fr.k W φ F w st.nx d v st'.hp st'.nx φ' F' w') : Sim fr W φ0 F0 w0 st' (a.put dst v) w' :=
  ⟨φ', F', ⟨by
    rw [htm]
    exact (hs.tm.mono hp.sub hp.ext.Fm hp.ext.cells).put (fun t e => Nat.lt_of_lt_of_le (hd t e) hs.nt) hp.val,
    by rw [put_size]; exact hs.nt, by rw [put_defers]; exact hs.df, hp.mem, Nat.le_trans hs.k hp.le⟩, he.trans hp.ext⟩

def dstOk (nt : Nat) (o : Oper) : Bool := match o.dst with
  | some t => Nat.blt t nt
  | none => true
theorem dstOk_spec {nt : Nat} {o : Oper} (h : dstOk nt o = true) : ∀ t, o.dst = some t → t < nt := by
  intro t ht
  simpa [dstOk, ht] using h

theorem opsD_sim {c : Cfg} {fr : Fr} {dr : Bool} {call : Callee} (hcall : CallOk P c call) (hen : ∀ f args bs r, call f args bs = some r → Enter P f) (hW : ∀ id, W id ↔ (fr.ro = false ∨ fr.k ≤ id)) {ops : Array Oper} (hd : ∀ o ∈ ops.toList, dstOk fr.nt o = true) {φ0 : Ph} {F0 : Fz} {w0 : World} {Q : Exit → Act → World → Prop} :
    ∀ (l : List Oper) (i : Nat) (st st' : St) (a : Act) (w : World), ops.toList.drop i = l → opsD P c fr dr call ops l st = some st' → Sim fr W φ0 F0 w0 st a w → (∀ a' w', Sim fr W φ0 F0 w0 st' a' w' → Q .normal a' w') → wpOps P ops Q (List.range' i l.length) a w
  | [], i, st, st', a, w, hl, h, hs, hQ => by
    simp only [opsD, Option.some.injEq] at h
    subst h
    exact hQ a w hs
  | o :: l, i, st, st', a, w, hl, h, hs, hQ => by
    simp only [opsD] at h
    split at h
    · rename_i st1 h1
      have hi : ops.toList[i]? = some o := by
        have : (ops.toList.drop i)[0]? = some o := by rw [hl]; rfl
        rw [List.getElem?_drop] at this
        exact this
      have hmem : o ∈ ops.toList := List.mem_of_getElem? hi
      have hi' : ops[i]? = some o := by rw [← Array.getElem?_toList]; exact hi
      obtain ⟨φ, F, hs1, he⟩ := hs
      obtain ⟨d, htm, hgo⟩ := operD_sim hcall hen hW hs1.mem hs1.k hs1.tm hi' h1
      rw [List.length_cons, List.range'_succ, wpOps_cons]
      refine hgo _ _ fun v φ' F' w' hp => ?_
      exact opsD_sim hcall hen hW hd l (i + 1) st1 st' _ w' (by
        have := congrArg List.tail hl
        simpa [List.tail_drop] using this) h (Sim.post hs1 he (dstOk_spec (hd o hmem)) htm hp) hQ
    · cases h

end
end Vm
end Go.Proofs.YtffgjmfkkfinlaaGreat

/-
  An operation asks of the temporaries its operands alone.
-/
namespace Go.Proofs.YtffgjmfkkfinlaaGreat
namespace Vm
open Go Go.RowKit

section
variable {P : Program}

def reT (tm : List (Nat × D)) (r : Option (D × St)) : Option (D × St) := match r with
  | some (d, s) => some (d, { tm := tm, hp := s.hp, nx := s.nx })
  | none => none

theorem partsOf_congr {t : TypeId} {tm tm' : List (Nat × D)} : ∀ {ps : List (Nat × Operand)} (_ : ∀ x ∈ ps.map (·.2), ev tm' x = ev tm x), partsOf P t tm' ps = partsOf P t tm ps
  | [], _ => rfl
  | (i, x) :: r, h => by
    have h1 : ev tm' x = ev tm x := h x (by simp)
    have ih := partsOf_congr (t := t) (ps := r) fun y hy => h y (by simp only [List.map_cons, List.mem_cons]; exact .inr hy)
    simp only [partsOf, h1, ih]

theorem elemsOf_congr {n : Nat} {tm tm' : List (Nat × D)} : ∀ {ps : List (Nat × Operand)} {j : Nat} (_ : ∀ x ∈ ps.map (·.2), ev tm' x = ev tm x), elemsOf tm' n j ps = elemsOf tm n j ps
  | [], _, _ => rfl
  | (i, x) :: r, j, h => by
    have h1 : ev tm' x = ev tm x := h x (by simp)
    have ih := elemsOf_congr (n := n) (ps := r) (j := j + 1) fun y hy => h y (by simp only [List.map_cons, List.mem_cons]; exact .inr hy)
    simp only [elemsOf, h1, ih]

theorem evs_congr {tm tm' : List (Nat × D)} {xs : List Operand} (h : ∀ x ∈ xs, ev tm' x = ev tm x) : xs.map (ev tm') = xs.map (ev tm) := List.map_congr_left h

theorem op0_congr {tm tm' : List (Nat × D)} {o : Oper} (h : ∀ x ∈ o.op.operands.toList, ev tm' x = ev tm x) : op0 P tm' o = op0 P tm o := by
  unfold op0
  cases ho : o.op <;> simp only [ho, Op.operands] at h ⊢
  case move x => rw [h x (by simp)]
  case assign x => rw [h x (by simp)]
  case pick c x y => rw [h c (by simp), h x (by simp), h y (by simp)]
  case build t ps => rw [partsOf_congr (tm := tm) (tm' := tm') (fun x hx => h x (by simpa using hx))]
  case nilCheck x => rw [h x (by simp)]
  case binOp op t x y ty => rw [h x (by simp), h y (by simp)]
  case unOp op t x => rw [h x (by simp)]
  case convert s d x => rw [h x (by simp)]
  case index t x i => rw [h x (by simp), h i (by simp)]
  case field t x i => rw [h x (by simp)]
  case makeFunc fn x y =>
    rw [evs_congr (xs := x.toList) (fun z hz => h z (by simp [hz])), evs_congr (xs := y.toList) (fun z hz => h z (by simp [hz]))]
  case fieldAddr t x i => rw [h x (by simp)]
  case indexAddr t x i => rw [h x (by simp), h i (by simp)]
  case extract x i => rw [h x (by simp)]
  case call cl =>
    have : cl.args.toList.map (ev tm') = cl.args.toList.map (ev tm) := evs_congr fun x hx => h x (by simp [Call.operands, hx])
    simp only [this]

theorem appendD_reT (fr : Fr) (n b : Nat) (st : St) (x y : D) (tm' : List (Nat × D)) : appendD fr n b { tm := tm', hp := st.hp, nx := st.nx } x y = reT tm' (appendD fr n b st x y) := by
  unfold appendD
  dsimp only
  repeat' (first | rfl | split)

theorem writeD_reT (fr : Fr) (n : Nat) (st : St) (id lo k z : Nat) (new : List (List D)) (tm' : List (Nat × D)) :
    writeD fr n { tm := tm', hp := st.hp, nx := st.nx } id lo k z new = (writeD fr n st id lo k z new).map fun s => { tm := tm', hp := s.hp, nx := s.nx } := by
  unfold writeD
  dsimp only
  repeat' (first | rfl | split)

theorem copyD_reT (fr : Fr) (n : Nat) (st : St) (x y : D) (tm' : List (Nat × D)) : copyD fr n { tm := tm', hp := st.hp, nx := st.nx } x y = reT tm' (copyD fr n st x y) := by
  unfold copyD
  dsimp only
  split
  · split
    · rw [writeD_reT]
      cases writeD fr n st _ _ _ _ _ <;> rfl
    · rfl
  · rfl

theorem callD_reT (c : Cfg) (fr : Fr) (dr : Bool) (call : Callee) (f : Nat) (args : List D) (st : St) (tm' : List (Nat × D)) :
    callD c fr dr call f args { tm := tm', hp := st.hp, nx := st.nx } = reT tm' (callD c fr dr call f args st) := by
  unfold callD
  dsimp only
  repeat' (first | rfl | split)

theorem op1_congr {c : Cfg} {fr : Fr} {dr : Bool} {call : Callee} {st : St} {tm' : List (Nat × D)} {o : Oper} (h : ∀ x ∈ o.op.operands.toList, ev tm' x = ev st.tm x) :
    op1 P c fr dr call { tm := tm', hp := st.hp, nx := st.nx } o = reT tm' (op1 P c fr dr call st o) := by
  unfold op1
  dsimp only
  cases ho : o.op <;> simp only [ho, Op.operands] at h ⊢ <;> try rfl
  case alloc t => split <;> rfl
  case box t x => rw [h x (by simp)]; split <;> rfl
  case buildSlice t len ps =>
    have e : ∀ n, elemsOf tm' n 0 ps.toList = elemsOf st.tm n 0 ps.toList := fun n => elemsOf_congr fun x hx => h x (by simpa using hx)
    simp only [e]
    repeat' (first | rfl | split)
  case load t x =>
    rw [h x (by simp)]
    repeat' (first | rfl | split)
  case store t x y =>
    rw [h x (by simp), h y (by simp)]
    repeat' (first | rfl | split)
  case makeSlice t x y =>
    rw [h x (by simp), h y (by simp)]
    repeat' (first | rfl | split)
  case slice t x lo hi mx =>
    have e : ∀ (o : Option Operand), (∀ y ∈ o, ev tm' y = ev st.tm y) → o.map (ev tm') = o.map (ev st.tm) := by
      intro o ho
      cases o with
      | none => rfl
      | some y => simp [ho y rfl]
    rw [h x (by simp), e lo (fun y hy => h y (by cases hy; simp)), e hi (fun y hy => h y (by cases hy; simp)), e mx (fun y hy => h y (by cases hy; simp))]
    split <;> rfl
  case call cl =>
    have ea : cl.args.toList.map (ev tm') = cl.args.toList.map (ev st.tm) := evs_congr fun x hx => h x (by simp [Call.operands, hx])
    simp only [ea]
    have ef : ∀ fx, cl.callee = .value fx → ev tm' fx = ev st.tm fx := fun fx hfx => h fx (by simp [Call.operands, hfx])
    have same : ∀ d, some (d, ({ tm := tm', hp := st.hp, nx := st.nx } : St)) = reT tm' (some (d, st)) := fun _ => rfl
    cases hc : cl.callee with
    | value fx =>
      have e := ef fx hc
      cases fx with
      | func g => exact callD_reT _ _ _ _ _ _ _ _
      | _ =>
        dsimp only
        rw [e]
        split
        · split
          · rfl
          · exact callD_reT _ _ _ _ _ _ _ _
        · rfl
    | invoke r m => rfl
    | builtin b =>
      cases b <;> dsimp only
      case cap =>
        split
        · split
          · rfl
          · rfl
        · rfl
      case copy =>
        split
        · split
          · split
            · split
              · exact copyD_reT _ _ _ _ _ _
              · rfl
            · rfl
          · rfl
        · rfl
      case append =>
        split
        · split
          · split
            · split
              · split
                · exact appendD_reT _ _ _ _ _ _ _
                · exact appendD_reT _ _ _ _ _ _ _
                · rfl
              · rfl
            · rfl
          · rfl
        · rfl
      case clear =>
        split
        · split
          · split
            · rw [writeD_reT]
              cases writeD fr _ st _ _ _ _ _ with
              | none => rfl
              | some s =>
                dsimp only [Option.map]
                generalize sz P _ = m
                cases m with
                | none => rfl
                | some n => dsimp only; split <;> rfl
            · rfl
          · rfl
        · rfl
      all_goals rfl

theorem opQ_congr {tm tm' : List (Nat × D)} {o : Oper} (h : ∀ x ∈ o.op.operands.toList, ev tm' x = ev tm x) : opQ P tm' o = opQ P tm o := by
  unfold opQ
  split
  · rename_i t x ho
    rw [h x (by rw [ho]; simp [Op.operands])]
  · exact op0_congr h

theorem opD_congr {c : Cfg} {fr : Fr} {dr : Bool} {call : Callee} {st : St} {tm' : List (Nat × D)} {o : Oper} (h : ∀ x ∈ o.op.operands.toList, ev tm' x = ev st.tm x) :
    opD P c fr dr call { tm := tm', hp := st.hp, nx := st.nx } o = reT tm' (opD P c fr dr call st o) := by
  unfold opD
  split
  · dsimp only
    rw [opQ_congr h]
    split <;> rfl
  · exact op1_congr h

/-- .. and of the temporaries those that it looks at. -/
theorem operD_congr {c : Cfg} {fr : Fr} {dr : Bool} {call : Callee} {ops : Array Oper} {st st' : St} {tm' : List (Nat × D)} {o : Oper} (h : ∀ t ∈ o.looksAt ops, rdT tm' t = rdT st.tm t) (hop : operD P c fr dr call ops st o = some st') {d : D} (hd : st'.tm = putT o.dst d st.tm) :
    ∃ d', (∀ t, o.dst = some t → d' = d) ∧ operD P c fr dr call ops { tm := tm', hp := st.hp, nx := st.nx } o = some { tm := putT o.dst d' tm', hp := st'.hp, nx := st'.nx } := by
  have hev : ∀ x ∈ o.op.operands.toList, ev tm' x = ev st.tm x := by
    intro x hx
    cases x with
    | tmp t => exact h t (List.mem_append_left _ (List.mem_filterMap.2 ⟨.tmp t, hx, rfl⟩))
    | _ => rfl
  have same : ∀ {d1 d2 : D}, putT o.dst d1 st.tm = putT o.dst d2 st.tm → ∀ t, o.dst = some t → d1 = d2 := by
    intro d1 d2 he t ht
    rw [ht] at he
    simp only [putT, List.cons.injEq, Prod.mk.injEq, and_true, true_and] at he
    exact he
  unfold operD at hop ⊢
  dsimp only at hop ⊢
  have go : (match opD P c fr dr call st o with | some (d, st') => some (match o.dst with | some t => { st' with tm := (t, d) :: st'.tm } | none => st') | none => none) = some st' →
      ∃ d', (∀ t, o.dst = some t → d' = d) ∧ (match opD P c fr dr call { tm := tm', hp := st.hp, nx := st.nx } o with | some (d, st') => some (match o.dst with | some t => { st' with tm := (t, d) :: st'.tm } | none => st') | none => none) = some { tm := putT o.dst d' tm', hp := st'.hp, nx := st'.nx } := by
    intro h1
    rw [opD_congr hev]
    split at h1
    · rename_i d1 st1 h2
      have htm := opD_tm h2
      simp only [Option.some.injEq] at h1
      have h1 : ({ st1 with tm := putT o.dst d1 st1.tm } : St) = st' := by rw [← h1]; cases o.dst <;> rfl
      subst h1
      refine ⟨d1, same (by rw [← hd, htm]), ?_⟩
      rw [h2]
      dsimp only [reT]
      cases o.dst <;> rfl
    · cases h1
  have no : some (match o.dst with | some t => { st with tm := (t, und) :: st.tm } | none => st) = some st' →
      ∃ d', (∀ t, o.dst = some t → d' = d) ∧ some (match o.dst with | some t => ({ tm := (t, und) :: tm', hp := st.hp, nx := st.nx } : St) | none => { tm := tm', hp := st.hp, nx := st.nx }) = some { tm := putT o.dst d' tm', hp := st'.hp, nx := st'.nx } := by
    intro h1
    simp only [Option.some.injEq] at h1
    have h1 : ({ st with tm := putT o.dst und st.tm } : St) = st' := by rw [← h1]; cases o.dst <;> rfl
    subst h1
    refine ⟨und, same (by rw [← hd]), ?_⟩
    cases o.dst <;> rfl
  split at hop
  · exact go hop
  · rename_i j want hg
    split at hop
    · rename_i t hj
      have ht : rdT tm' t = rdT st.tm t := h t (List.mem_append_right _ (by rw [hg]; simp only [hj]; simp))
      simp only [hj, ht]
      split at hop
      · split at hop
        · rename_i hb; simp only [hb, if_true] ; exact go hop
        · rename_i hb; simp only [hb, if_false]; exact no hop
      · exact no hop
      · cases hop
    · cases hop

end
end Vm
end Go.Proofs.YtffgjmfkkfinlaaGreat

/-
  Where the order is drawn, an operation that writes nothing leaves what there is as it is.
-/
namespace Go.Proofs.YtffgjmfkkfinlaaGreat
namespace Vm
open Go Go.RowKit

section
variable {P : Program}

theorem frz_len {dr : Bool} {hp hp' : List (Nat × Blk)} {d d' : D} (h : frz dr hp d = some (d', hp')) : hp' = hp ∨ hp.length < hp'.length := by
  cases d <;> simp only [frz, Option.some.injEq, Prod.mk.injEq] at h <;> try (exact .inl h.2.symm)
  split at h
  · split at h
    · split at h
      · cases h
      · simp only [Option.some.injEq, Prod.mk.injEq] at h
        rw [← h.2]; exact .inr (by simp)
    · simp only [Option.some.injEq, Prod.mk.injEq] at h
      exact .inl h.2.symm
    · cases h
  · cases h
theorem frz_dr {hp hp' : List (Nat × Blk)} {d d' : D} (h : frz true hp d = some (d', hp')) : hp' = hp := by
  cases d <;> simp only [frz, Option.some.injEq, Prod.mk.injEq] at h <;> try (exact h.2.symm)
  split at h
  · split at h
    · simp at h
    · simp only [Option.some.injEq, Prod.mk.injEq] at h
      exact h.2.symm
    · cases h
  · cases h
theorem len_trans {α : Type} {a b c : List α} (h1 : b = a ∨ a.length < b.length) (h2 : c = b ∨ b.length < c.length) : c = a ∨ a.length < c.length := by
  rcases h1 with rfl | h1
  · exact h2
  · rcases h2 with rfl | h2
    · exact .inr h1
    · exact .inr (by omega)
theorem frzs_len {dr : Bool} : ∀ {ds ds' : List D} {hp hp' : List (Nat × Blk)} (_ : frzs dr hp ds = some (ds', hp')), hp' = hp ∨ hp.length < hp'.length
  | [], ds', hp, hp', h => by simp [frzs] at h; exact .inl h.2.symm
  | d :: ds, ds', hp, hp', h => by
    simp only [frzs] at h
    split at h
    · rename_i h1
      split at h
      · rename_i h2
        simp at h; obtain ⟨_, rfl⟩ := h
        exact len_trans (frz_len h1) (frzs_len h2)
      · cases h
    · cases h
theorem frzG_len {dr : Bool} {hp hp' : List (Nat × Blk)} {d d' : D} (h : frzG dr hp d = some (d', hp')) : hp' = hp ∨ hp.length < hp'.length := by
  cases d with
  | g cs =>
    simp only [frzG] at h
    split at h
    · rename_i h1
      simp at h; obtain ⟨_, rfl⟩ := h
      exact frzs_len h1
    · cases h
  | _ => simp only [frzG] at h; exact frz_len h
theorem frzGs_len {dr : Bool} : ∀ {ds ds' : List D} {hp hp' : List (Nat × Blk)} (_ : frzGs dr hp ds = some (ds', hp')), hp' = hp ∨ hp.length < hp'.length
  | [], ds', hp, hp', h => by simp [frzGs] at h; exact .inl h.2.symm
  | d :: ds, ds', hp, hp', h => by
    simp only [frzGs] at h
    split at h
    · rename_i h1
      split at h
      · rename_i h2
        simp at h; obtain ⟨_, rfl⟩ := h
        exact len_trans (frzG_len h1) (frzGs_len h2)
      · cases h
    · cases h
theorem frzBs_len {dr : Bool} : ∀ {ids : List Nat} {hp hp' : List (Nat × Blk)} (_ : callD.frzBs dr hp ids = some hp'), hp' = hp ∨ hp.length < hp'.length
  | [], hp, hp', h => by simp [callD.frzBs] at h; exact .inl h.symm
  | id :: ids, hp, hp', h => by
    simp only [callD.frzBs] at h
    split at h
    · exact frzBs_len h
    · split at h
      · exact frzBs_len h
      · split at h
        · split at h
          · rename_i h1
            split at h
            · exact frzBs_len h
            · refine .inr ?_
              have a1 := frzGs_len h1
              have a2 := frzBs_len h
              have b1 := congrArg List.length (Eq.refl hp)
              rcases a1 with e1 | e1 <;> rcases a2 with e | e
              · rw [e, List.length_cons, e1]; omega
              · rw [List.length_cons, e1] at e; omega
              · rw [e, List.length_cons]; omega
              · rw [List.length_cons] at e; omega
          · cases h
        · cases h

theorem cut_dr {t : TypeId} {hp hp' : List (Nat × Blk)} {x d : D} {lo hi mx : Option D} (h : cut P t true hp x lo hi mx = some (d, hp')) : hp' = hp := by
  have same : ∀ {d0 : D}, some (d0, hp) = some (d, hp') → hp' = hp := by
    intro d0 h
    simp only [Option.some.injEq, Prod.mk.injEq] at h
    exact h.2.symm
  unfold cut at h
  repeat' (first | (cases h; done) | exact same h | (simp only [Option.some.injEq, Prod.mk.injEq] at h; rename_i hf _ _ _ _ _; rw [← h.2]; exact frz_dr hf) | (simp only [Option.some.injEq, Prod.mk.injEq] at h; rename_i hf _ _ _ _ _ _; rw [← h.2]; exact frz_dr hf) | split at h)

/-- What is new is new, what was is as it was. -/
def Old (st st' : St) : Prop := (∀ id, id < st.nx → rdH st'.hp id = rdH st.hp id) ∧ st.nx ≤ st'.nx
theorem Old.refl (st : St) : Old st st := ⟨fun _ _ => rfl, Nat.le_refl _⟩

theorem callD_old {c : Cfg} {fr : Fr} {call : Callee} {f : Nat} (hwr : c.wr f = false) {args : List D} {st st' : St} {d : D} (h : callD c fr true call f args st = some (d, st')) : Old st st' := by
  unfold callD at h
  split at h
  · cases h
  · rename_i args1 hp1 hf1
    dsimp only at h
    split at h
    · cases h
    · split at h
      · cases h
      · rename_i hp2 hf2
        split at h
        · cases h
        · rename_i res bs hc
          split at h
          · simp only [Option.some.injEq, Prod.mk.injEq] at h; rw [← h.2]; exact Old.refl _
          · split at h
            · cases h
            · rename_i hdr
              simp only [Bool.true_and, Bool.or_eq_true, bne_iff_ne, ne_eq, not_or, Bool.not_eq_true, Decidable.not_not] at hdr
              obtain ⟨hlen, hkeep⟩ := hdr
              have e2 : hp2 = hp1 ∨ hp1.length < hp2.length := by
                split at hf2
                · simp at hf2; exact .inl hf2.symm
                · exact frzBs_len hf2
              have e1 : hp1 = st.hp ∨ st.hp.length < hp1.length := by
                split at hf1
                · simp at hf1; exact .inl hf1.2.symm
                · exact frzGs_len hf1
              have e : hp2 = st.hp := by
                rcases len_trans e1 e2 with e | e
                · exact e
                · omega
              subst e
              rw [if_neg (by simp [hwr, hkeep])] at h
              split at h
              · cases h
              · simp only [Option.some.injEq, Prod.mk.injEq] at h
                rw [← h.2]
                refine ⟨fun id hid => ?_, by simp⟩
                refine addB_miss _ _ _ _ fun j hj hj2 hx => ?_
                rw [nm_backOf] at hx
                split at hx
                · split at hx
                  · rename_i hx2
                    have hlt := List.getElem?_eq_some_iff.1 hx2
                    obtain ⟨hlt, _⟩ := hlt
                    omega
                  · simp only [Option.some.injEq] at hx
                    omega
                · cases hx

theorem op1_old {c : Cfg} {fr : Fr} {call : Callee} {st st' : St} {o : Oper} {d : D} (hc : cls c fr.fn o ≠ 2) (h : op1 P c fr true call st o = some (d, st')) : Old st st' := by
  unfold op1 at h
  have same : ∀ {d0 : D}, some (d0, st) = some (d, st') → Old st st' := by
    intro d0 h
    simp only [Option.some.injEq, Prod.mk.injEq] at h
    rw [← h.2]; exact Old.refl _
  have new : ∀ (B : Blk), Old st { tm := st.tm, hp := (st.nx, B) :: st.hp, nx := st.nx + 1 } := fun B =>
    ⟨fun id hid => rdH_cons_other _ _ (by omega), Nat.le_succ _⟩
  cases ho : o.op <;> simp only [ho] at h <;> try (cases h; done)
  case alloc => split at h <;> first | (cases h; done) | (simp only [op1.newVar, Option.some.injEq, Prod.mk.injEq] at h; rw [← h.2]; exact new _)
  case box => split at h <;> first | (cases h; done) | (simp only [op1.newVar, Option.some.injEq, Prod.mk.injEq] at h; rw [← h.2]; exact new _)
  case buildSlice =>
    repeat' (first | (cases h; done) | exact same h | split at h)
  case load =>
    repeat' (first | (cases h; done) | exact same h | split at h)
  case store => exact absurd (by simp [cls, ho]) hc
  case makeSlice =>
    repeat' (first | (cases h; done) | (simp only [Option.some.injEq, Prod.mk.injEq] at h; rw [← h.2]; exact new _) | split at h)
  case slice =>
    split at h
    · rename_i hcut
      simp only [Option.some.injEq, Prod.mk.injEq] at h; rw [← h.2, cut_dr hcut]; exact Old.refl _
    · cases h
  case call cl =>
    unfold cls at hc
    simp only [ho] at hc
    cases hcal : cl.callee with
    | invoke r m => simp only [hcal] at h; cases h
    | value fx =>
      simp only [hcal] at h hc
      cases fx with
      | func g =>
        simp only at h hc
        cases hwr : c.wr g with
        | true => simp [hwr] at hc
        | false =>
          simp only [hwr, Bool.not_false, Bool.and_true] at h
          exact callD_old hwr h
      | _ =>
        simp only at h
        split at h
        · split at h
          · cases h
          · rename_i hwr
            simp only [Bool.true_and, Bool.not_eq_true] at hwr
            exact callD_old hwr h
        · cases h
    | builtin b =>
      simp only [hcal] at h hc
      cases b <;> simp only at h hc <;> try (cases h; done)
      all_goals first | (exact absurd rfl hc) | skip
      repeat' (first | (cases h; done) | exact same h | split at h)

theorem appendD_nx {fr : Fr} {n b : Nat} {st st' : St} {x y d : D} (h : appendD fr n b st x y = some (d, st')) : st.nx ≤ st'.nx := by
  unfold appendD at h
  have mk : ∀ {hp es md pu new}, appendD.mk n st hp es md pu new = some (d, st') → st.nx ≤ st'.nx := by
    intro hp es md pu new h
    simp only [appendD.mk, Option.some.injEq, Prod.mk.injEq] at h
    rw [← h.2]; exact Nat.le_succ _
  have same : ∀ {d0 : D}, some (d0, st) = some (d, st') → st.nx ≤ st'.nx := by
    intro d0 h
    simp only [Option.some.injEq, Prod.mk.injEq] at h
    rw [← h.2]; exact Nat.le_refl _
  split at h
  · cases h
  · split at h
    · split at h
      · split at h
        · exact same h
        · exact mk h
      · split at h
        · exact same h
        · split at h
          · exact mk h
          · cases h
      · dsimp only at h
        split at h
        · split at h
          · exact same h
          · split at h
            · simp only [Option.some.injEq, Prod.mk.injEq] at h
              rw [← h.2]; exact Nat.le_refl _
            · split at h
              · exact mk h
              · cases h
        · cases h
      · cases h
    · cases h

theorem writeD_nx {fr : Fr} {n : Nat} {st st' : St} {id lo k z : Nat} {new : List (List D)} (h : writeD fr n st id lo k z new = some st') : st.nx ≤ st'.nx := by
  unfold writeD at h
  dsimp only at h
  split at h
  · simp only [Option.some.injEq] at h; rw [← h]; exact Nat.le_refl _
  · cases h

theorem copyD_nx {fr : Fr} {n : Nat} {st st' : St} {x y d : D} (h : copyD fr n st x y = some (d, st')) : st.nx ≤ st'.nx := by
  unfold copyD at h
  split at h
  · split at h
    · split at h
      · rename_i hw
        simp only [Option.some.injEq, Prod.mk.injEq] at h
        rw [← h.2]; exact writeD_nx hw
      · cases h
    · cases h
  · cases h

theorem callD_nx {c : Cfg} {fr : Fr} {dr : Bool} {call : Callee} {f : Nat} {args : List D} {st st' : St} {d : D} (h : callD c fr dr call f args st = some (d, st')) : st.nx ≤ st'.nx := by
  unfold callD at h
  split at h
  · cases h
  · dsimp only at h
    split at h
    · cases h
    · split at h
      · cases h
      · split at h
        · cases h
        · split at h
          · simp only [Option.some.injEq, Prod.mk.injEq] at h; rw [← h.2]; exact Nat.le_refl _
          · split at h
            · cases h
            · split at h
              · simp only [Option.some.injEq, Prod.mk.injEq] at h; rw [← h.2]; simp
              · split at h
                · cases h
                · simp only [Option.some.injEq, Prod.mk.injEq] at h; rw [← h.2]; simp

theorem op1_nx {c : Cfg} {fr : Fr} {dr : Bool} {call : Callee} {st st' : St} {o : Oper} {d : D} (h : op1 P c fr dr call st o = some (d, st')) : st.nx ≤ st'.nx := by
  unfold op1 at h
  have same : ∀ {d0 : D}, some (d0, st) = some (d, st') → st.nx ≤ st'.nx := by
    intro d0 h
    simp only [Option.some.injEq, Prod.mk.injEq] at h
    rw [← h.2]; exact Nat.le_refl _
  cases ho : o.op <;> simp only [ho] at h <;> try (cases h; done)
  case alloc => split at h <;> first | (cases h; done) | (simp only [op1.newVar, Option.some.injEq, Prod.mk.injEq] at h; rw [← h.2]; exact Nat.le_succ _)
  case box => split at h <;> first | (cases h; done) | (simp only [op1.newVar, Option.some.injEq, Prod.mk.injEq] at h; rw [← h.2]; exact Nat.le_succ _)
  case buildSlice =>
    repeat' (first | (cases h; done) | exact same h | split at h)
  case load =>
    repeat' (first | (cases h; done) | exact same h | split at h)
  case store =>
    repeat' (first | (cases h; done) | (simp only [Option.some.injEq, Prod.mk.injEq] at h; rw [← h.2]; exact Nat.le_refl _) | (dsimp only at h; split at h) | split at h)
  case makeSlice =>
    repeat' (first | (cases h; done) | (simp only [Option.some.injEq, Prod.mk.injEq] at h; rw [← h.2]; exact Nat.le_succ _) | split at h)
  case slice =>
    split at h
    · simp only [Option.some.injEq, Prod.mk.injEq] at h; rw [← h.2]; exact Nat.le_refl _
    · cases h
  case call cl =>
    repeat' (first | (cases h; done) | exact same h | exact callD_nx h | exact appendD_nx h | exact copyD_nx h | (simp only [Option.some.injEq, Prod.mk.injEq] at h; rw [← h.2]; rename_i hw _ _; exact writeD_nx hw) | (simp only [Option.some.injEq, Prod.mk.injEq] at h; rw [← h.2]; rename_i hw _; exact writeD_nx hw) | split at h)

/-- An operation that writes nothing asks not what the frame may write. -/
theorem callD_fr {c : Cfg} {fr fr' : Fr} {dr : Bool} {call : Callee} {f : Nat} (hwr : c.wr f = false) (args : List D) (st : St) : callD c fr dr call f args st = callD c fr' dr call f args st := by
  unfold callD
  simp only [hwr, Bool.and_false, Bool.false_and, Bool.false_eq_true, if_false]

theorem op1_fr {c : Cfg} {fr fr' : Fr} {call : Callee} {st : St} {o : Oper} (hc : cls c fr.fn o ≠ 2) : op1 P c fr true call st o = op1 P c fr' true call st o := by
  unfold op1
  cases ho : o.op <;> simp only [] <;> try rfl
  case store => exact absurd (by simp [cls, ho]) hc
  case call cl =>
    unfold cls at hc
    simp only [ho] at hc
    cases hcal : cl.callee with
    | invoke r m => rfl
    | value fx =>
      simp only [hcal] at hc
      cases fx with
      | func g =>
        simp only at hc
        cases hwr : c.wr g with
        | true => simp [hwr] at hc
        | false => simp only [hwr]; exact callD_fr hwr _ _
      | _ =>
        simp only
        split
        · split
          · rfl
          · rename_i hwr
            simp only [Bool.true_and, Bool.not_eq_true] at hwr
            exact callD_fr hwr _ _
        · rfl
    | builtin b =>
      simp only [hcal] at hc
      cases b <;> simp only at hc <;> first | rfl | (exact absurd rfl hc)

theorem operD_fr {c : Cfg} {fr fr' : Fr} {call : Callee} {ops : Array Oper} {st : St} {o : Oper} (hfn : fr'.fn = fr.fn) (hc : cls c fr.fn o ≠ 2) : operD P c fr true call ops st o = operD P c fr' true call ops st o := by
  have : opD P c fr true call st o = opD P c fr' true call st o := by
    unfold opD
    rw [hfn]
    split
    · rfl
    · exact op1_fr hc
  unfold operD
  simp only [this]

/-- What an operation with its guard does to a state. -/
theorem operD_shape {c : Cfg} {fr : Fr} {dr : Bool} {call : Callee} {ops : Array Oper} {st st' : St} {o : Oper} (h : operD P c fr dr call ops st o = some st') :
    ∃ d s, st' = { tm := putT o.dst d st.tm, hp := s.hp, nx := s.nx } ∧ (s = st ∨ opD P c fr dr call st o = some (d, s)) := by
  unfold operD at h
  dsimp only at h
  have go : (match opD P c fr dr call st o with | some (d, st') => some (match o.dst with | some t => { st' with tm := (t, d) :: st'.tm } | none => st') | none => none) = some st' →
      ∃ d s, st' = { tm := putT o.dst d st.tm, hp := s.hp, nx := s.nx } ∧ (s = st ∨ opD P c fr dr call st o = some (d, s)) := by
    intro h1
    split at h1
    · rename_i d1 st1 h2
      have htm := opD_tm h2
      simp only [Option.some.injEq] at h1
      refine ⟨d1, st1, ?_, .inr h2⟩
      rw [← h1, ← htm]; cases o.dst <;> rfl
    · cases h1
  have no : some (match o.dst with | some t => { st with tm := (t, und) :: st.tm } | none => st) = some st' →
      ∃ d s, st' = { tm := putT o.dst d st.tm, hp := s.hp, nx := s.nx } ∧ (s = st ∨ opD P c fr dr call st o = some (d, s)) := by
    intro h1
    simp only [Option.some.injEq] at h1
    refine ⟨und, st, ?_, .inl rfl⟩
    rw [← h1]; cases o.dst <;> rfl
  split at h
  · exact go h
  · split at h
    · split at h
      · split at h
        · exact go h
        · exact no h
      · exact no h
      · cases h
    · cases h

theorem operD_c0 {c : Cfg} {fr : Fr} {dr : Bool} {call : Callee} {ops : Array Oper} {st st' : St} {o : Oper} (hc : cls c fr.fn o = 0) (h : operD P c fr dr call ops st o = some st') : st'.hp = st.hp ∧ st'.nx = st.nx := by
  obtain ⟨d, s, rfl, hs⟩ := operD_shape h
  rcases hs with rfl | hs
  · exact ⟨rfl, rfl⟩
  · unfold opD at hs
    rw [hc] at hs
    simp only at hs
    split at hs
    · simp only [Option.some.injEq, Prod.mk.injEq] at hs; rw [← hs.2]; exact ⟨rfl, rfl⟩
    · cases hs

theorem operD_old {c : Cfg} {fr : Fr} {call : Callee} {ops : Array Oper} {st st' : St} {o : Oper} (hc : cls c fr.fn o ≠ 2) (h : operD P c fr true call ops st o = some st') : Old st st' := by
  obtain ⟨d, s, rfl, hs⟩ := operD_shape h
  rcases hs with rfl | hs
  · exact Old.refl _
  · unfold opD at hs
    split at hs
    · split at hs
      · simp only [Option.some.injEq, Prod.mk.injEq] at hs; rw [← hs.2]; exact Old.refl _
      · cases hs
    · exact ⟨(op1_old hc hs).1, (op1_old hc hs).2⟩

theorem operD_nx {c : Cfg} {fr : Fr} {dr : Bool} {call : Callee} {ops : Array Oper} {st st' : St} {o : Oper} (h : operD P c fr dr call ops st o = some st') : st.nx ≤ st'.nx := by
  obtain ⟨d, s, rfl, hs⟩ := operD_shape h
  rcases hs with rfl | hs
  · exact Nat.le_refl _
  · unfold opD at hs
    split at hs
    · split at hs
      · simp only [Option.some.injEq, Prod.mk.injEq] at hs; rw [← hs.2]; exact Nat.le_refl _
      · cases hs
    · exact op1_nx (st' := s) hs

end
end Vm
end Go.Proofs.YtffgjmfkkfinlaaGreat

/-
  A region whose order is drawn: what is looked through ahead, and what follows of it.
-/
namespace Go.Proofs.YtffgjmfkkfinlaaGreat
namespace Vm
open Go Go.RowKit

/-! Which operations must have run ahead of each: a number's bits. -/
def maskE (acc : List Nat) : List Edge → Nat
  | [] => 0
  | e :: r => if Region.binds .any e then 2 ^ e.on ||| (acc.getD e.on 0 ||| maskE acc r) else maskE acc r
def masks : List Oper → List Nat → List Nat
  | [], acc => acc
  | o :: r, acc => masks r (acc ++ [maskE acc o.after.toList])

/-- What holds of the operations that must be listed. -/
def Preds (L : Nat → Prop) (o : Oper) : Prop := ∀ e ∈ o.after.toList, Region.binds .any e = true → L e.on
def Clo (ops : Array Oper) (L : Nat → Prop) : Prop := ∀ j o, ops[j]? = some o → L j → Preds L o

theorem maskE_bit {acc : List Nat} {i : Nat} : ∀ {l : List Edge}, (maskE acc l).testBit i = true → ∃ e ∈ l, Region.binds .any e = true ∧ (i = e.on ∨ (acc.getD e.on 0).testBit i = true)
  | [], h => by simp [maskE] at h
  | e :: r, h => by
    simp only [maskE] at h
    split at h
    · rename_i hb
      rw [Nat.testBit_or, Nat.testBit_or, Nat.testBit_two_pow] at h
      simp only [Bool.or_eq_true, decide_eq_true_eq] at h
      rcases h with h | h | h
      · exact ⟨e, by simp, hb, .inl h.symm⟩
      · exact ⟨e, by simp, hb, .inr h⟩
      · obtain ⟨e', he, hx⟩ := maskE_bit h
        exact ⟨e', by simp [he], hx⟩
    · obtain ⟨e', he, hx⟩ := maskE_bit h
      exact ⟨e', by simp [he], hx⟩

theorem masks_spec {ops : Array Oper} {L : Nat → Prop} (hL : Clo ops L) : ∀ (l : List Oper) (acc : List Nat), ops.toList.drop acc.length = l →
    (∀ j o, j < acc.length → ops[j]? = some o → Preds L o → ∀ i, (acc.getD j 0).testBit i = true → L i) →
    ∀ j o, ops[j]? = some o → Preds L o → ∀ i, ((masks l acc).getD j 0).testBit i = true → L i
  | [], acc, hl, hacc => by
    intro j o hj hp i hi
    simp only [masks] at hi
    by_cases hlt : j < acc.length
    · exact hacc j o hlt hj hp i hi
    · rw [List.getD_eq_getElem?_getD, List.getElem?_eq_none (by omega)] at hi
      simp at hi
  | o :: r, acc, hl, hacc => by
    have hget : ops[acc.length]? = some o := by
      have : (ops.toList.drop acc.length)[0]? = some o := by rw [hl]; rfl
      rw [List.getElem?_drop] at this
      rw [← Array.getElem?_toList]; exact this
    refine masks_spec hL r (acc ++ [maskE acc o.after.toList]) ?_ ?_
    · have := congrArg List.tail hl
      simpa [List.tail_drop] using this
    · intro j o' hj ho hp i hi
      rw [List.length_append, List.length_singleton] at hj
      by_cases hlt : j < acc.length
      · rw [List.getD_eq_getElem?_getD, List.getElem?_append_left hlt, ← List.getD_eq_getElem?_getD] at hi
        exact hacc j o' hlt ho hp i hi
      · have : j = acc.length := by omega
        subst this
        rw [List.getD_eq_getElem?_getD, List.getElem?_append_right (Nat.le_refl _), Nat.sub_self] at hi
        simp only [List.getElem?_cons_zero, Option.getD_some] at hi
        rw [hget] at ho
        simp only [Option.some.injEq] at ho
        subst ho
        obtain ⟨e, he, hb, hx⟩ := maskE_bit hi
        have hLe := hp e he hb
        rcases hx with rfl | hx
        · exact hLe
        · by_cases hlt : e.on < acc.length
          · have hon : e.on < ops.size := by
              have : acc.length < ops.size := (Array.getElem?_eq_some_iff.1 hget).1
              omega
            exact hacc e.on ops[e.on] hlt (Array.getElem?_eq_getElem hon) (hL e.on _ (Array.getElem?_eq_getElem hon) hLe) i hx
          · rw [List.getD_eq_getElem?_getD, List.getElem?_eq_none (by omega)] at hx
            simp at hx

def backOk (i : Nat) (o : Oper) : Bool := o.after.toList.all fun e => !Region.binds .any e || Nat.blt e.on i
def pairOk (c : Cfg) (fn : Nat) (ops : Array Oper) (ms : List Nat) (i j : Nat) (x y : Oper) : Bool :=
  (!Nat.blt i j || (Nat.beq (cls c fn x) 0 || (Nat.beq (cls c fn y) 0 || (!(Nat.beq (cls c fn x) 2) && !(Nat.beq (cls c fn y) 2)))) || (ms.getD j 0).testBit i) &&
  (match x.dst with
   | some t => (!(y.looksAt ops).contains t || ((Nat.blt i j && (ms.getD j 0).testBit i) || (Nat.blt j i && (ms.getD i 0).testBit j))) && (Nat.beq i j || y.dst != some t)
   | none => true)
def drOk (c : Cfg) (fn nt : Nat) (ops : Array Oper) : Bool :=
  let ms := masks ops.toList []
  (List.range ops.size).all fun j => match ops[j]? with
    | some y => backOk j y && (dstOk nt y && (List.range ops.size).all fun i => match ops[i]? with
      | some x => pairOk c fn ops ms i j x y
      | none => true)
    | none => true

/-- What is known of a region that was looked through. -/
structure DrOk (c : Cfg) (fn nt : Nat) (ops : Array Oper) : Prop where
  back : ∀ (j : Nat) (y : Oper), ops[j]? = some y → ∀ e ∈ y.after.toList, Region.binds .any e = true → e.on < j
  dst : ∀ (j : Nat) (y : Oper), ops[j]? = some y → dstOk nt y = true
  mem : ∀ L, Clo ops L → ∀ (i j : Nat) (x y : Oper), ops[i]? = some x → ops[j]? = some y → i < j → cls c fn x ≠ 0 → cls c fn y ≠ 0 → (cls c fn x = 2 ∨ cls c fn y = 2) → Preds L y → L i
  look : ∀ L, Clo ops L → ∀ (i j : Nat) (x y : Oper) (t : Tmp), ops[i]? = some x → ops[j]? = some y → x.dst = some t → t ∈ y.looksAt ops → Preds L y → ¬ L j → (i < j ∧ L i) ∨ (j < i ∧ ¬ L i)
  uniq : ∀ (i j : Nat) (x y : Oper) (t : Tmp), ops[i]? = some x → ops[j]? = some y → x.dst = some t → y.dst = some t → i = j

theorem drOk_spec {c : Cfg} {fn nt : Nat} {ops : Array Oper} (h : drOk c fn nt ops = true) : DrOk c fn nt ops := by
  unfold drOk at h
  dsimp only at h
  have lt : ∀ {j : Nat} {y : Oper}, ops[j]? = some y → j < ops.size := fun h => (Array.getElem?_eq_some_iff.1 h).1
  have h1 : ∀ (j : Nat) (y : Oper), ops[j]? = some y → backOk j y = true ∧ dstOk nt y = true ∧ ∀ (i : Nat) (x : Oper), ops[i]? = some x → pairOk c fn ops (masks ops.toList []) i j x y = true := by
    intro j y hj
    have := List.all_eq_true.1 h j (List.mem_range.2 (lt hj))
    rw [hj] at this
    simp only [Bool.and_eq_true] at this
    refine ⟨this.1, this.2.1, fun i x hi => ?_⟩
    have := List.all_eq_true.1 this.2.2 i (List.mem_range.2 (lt hi))
    rw [hi] at this
    exact this
  have hms : ∀ L, Clo ops L → ∀ (j : Nat) (y : Oper), ops[j]? = some y → Preds L y → ∀ i, ((masks ops.toList []).getD j 0).testBit i = true → L i := fun L hL j y hj hp i hi =>
    masks_spec hL ops.toList [] (by simp) (fun j o hj => by simp at hj) j y hj hp i hi
  refine ⟨fun j y hj e he hb => ?_, fun j y hj => (h1 j y hj).2.1, fun L hL i j x y hi hj hij hx hy hxy hp => ?_, fun L hL i j x y t hi hj hx hl hp hnl => ?_, fun i j x y t hi hj hx hy => ?_⟩
  · have := List.all_eq_true.1 (h1 j y hj).1 e he
    simp only [hb, Bool.not_true, Bool.false_or] at this
    simpa using this
  · have := (h1 j y hj).2.2 i x hi
    unfold pairOk at this
    simp only [Bool.and_eq_true] at this
    have h2 := this.1
    have e1 : Nat.blt i j = true := by simpa using hij
    have e2 : Nat.beq (cls c fn x) 0 = false := by
      cases hb : Nat.beq (cls c fn x) 0 with
      | false => rfl
      | true => exact absurd (Nat.eq_of_beq_eq_true hb) hx
    have e3 : Nat.beq (cls c fn y) 0 = false := by
      cases hb : Nat.beq (cls c fn y) 0 with
      | false => rfl
      | true => exact absurd (Nat.eq_of_beq_eq_true hb) hy
    have e4 : (!(Nat.beq (cls c fn x) 2) && !(Nat.beq (cls c fn y) 2)) = false := by
      rcases hxy with e | e <;> simp [e]
    rw [e1, e2, e3, e4] at h2
    simp only [Bool.not_true, Bool.false_or] at h2
    exact hms L hL j y hj hp i h2
  · have := (h1 j y hj).2.2 i x hi
    unfold pairOk at this
    rw [hx] at this
    simp only [Bool.and_eq_true] at this
    have h2 := this.2.1
    have e : (y.looksAt ops).contains t = true := by simpa using hl
    rw [e] at h2
    simp only [Bool.not_true, Bool.false_or, Bool.and_eq_true, Bool.or_eq_true] at h2
    rcases h2 with h2 | h2
    · exact .inl ⟨by simpa using h2.1, hms L hL j y hj hp i h2.2⟩
    · exact .inr ⟨by simpa using h2.1, fun hli => hnl (hms L hL i x hi (hL i x hi hli) j h2.2)⟩
  · have := (h1 j y hj).2.2 i x hi
    unfold pairOk at this
    rw [hx] at this
    simp only [Bool.and_eq_true] at this
    have h2 := this.2.2
    rw [hy] at h2
    simp only [bne_self_eq_false, Bool.or_false] at h2
    exact Nat.eq_of_beq_eq_true h2

section
variable {P : Program} {φ : Ph} {F : Fz} {w : World}

/-- The states that a run in the text's order goes through. -/
theorem opsD_trace {c : Cfg} {fr : Fr} {dr : Bool} {call : Callee} {ops : Array Oper} : ∀ {l : List Oper} {st st' : St}, opsD P c fr dr call ops l st = some st' →
    ∃ R : Nat → St, R 0 = st ∧ R l.length = st' ∧ ∀ i o, l[i]? = some o → operD P c fr dr call ops (R i) o = some (R (i + 1))
  | [], st, st', h => by
    simp only [opsD, Option.some.injEq] at h
    exact ⟨fun _ => st, rfl, h, fun i o ho => by simp at ho⟩
  | o :: l, st, st', h => by
    simp only [opsD] at h
    split at h
    · rename_i st1 h1
      obtain ⟨R, r0, rn, rs⟩ := opsD_trace h
      refine ⟨fun i => match i with | 0 => st | i + 1 => R i, rfl, rn, fun i o' ho => ?_⟩
      cases i with
      | zero =>
        simp only [List.getElem?_cons_zero, Option.some.injEq] at ho
        subst ho
        simp only [r0]; exact h1
      | succ i => exact rs i o' (by simpa using ho)
    · cases h

/-- An operation that asks no memory, wherever it stands. -/
theorem operD0_sim {c : Cfg} {fr : Fr} {dr : Bool} {call : Callee} {st st' : St} {a : Act} (ht : TRel φ F w st.tm a) {ops : Array Oper} {i : Nat} {o : Oper} (hc : cls c fr.fn o = 0) (hi : ops[i]? = some o) (h : operD P c fr dr call ops st o = some st') :
    ∃ d, st'.tm = putT o.dst d st.tm ∧ ∀ (K : Act → World → Prop) (Q : Exit → Act → World → Prop), (∀ v, VRel φ F w d v → K (a.put o.dst v) w) → wpOp P ops Q i K a w := by
  unfold operD at h
  dsimp only at h
  have go : Region.wanted o (yielded ops a.tmps) = true → (match opD P c fr dr call st o with | some (d, st') => some (match o.dst with | some t => { st' with tm := (t, d) :: st'.tm } | none => st') | none => none) = some st' →
      ∃ d, st'.tm = putT o.dst d st.tm ∧ ∀ (K : Act → World → Prop) (Q : Exit → Act → World → Prop), (∀ v, VRel φ F w d v → K (a.put o.dst v) w) → wpOp P ops Q i K a w := by
    intro hw h
    split at h
    · rename_i d st1 h1
      simp only [Option.some.injEq] at h
      have htm := opD_tm h1
      have h : ({ st1 with tm := putT o.dst d st1.tm } : St) = st' := by rw [← h]; cases o.dst <;> rfl
      subst h
      refine ⟨d, by simp only [htm], fun K Q hK => ?_⟩
      unfold opD at h1
      rw [hc] at h1
      simp only at h1
      split at h1
      · rename_i d' h0
        simp only [Option.some.injEq, Prod.mk.injEq] at h1
        obtain ⟨rfl, rfl⟩ := h1
        obtain ⟨v, hrun, hv⟩ := opQ_sim ht h0
        unfold wpOp
        simp only [hi, hw, if_true]
        refine .inl ?_
        unfold Oper.wp
        rw [hrun, Oper.upon_value]
        exact hK v hv
      · cases h1
    · cases h
  have no : Region.wanted o (yielded ops a.tmps) = false → some (match o.dst with | some t => { st with tm := (t, und) :: st.tm } | none => st) = some st' →
      ∃ d, st'.tm = putT o.dst d st.tm ∧ ∀ (K : Act → World → Prop) (Q : Exit → Act → World → Prop), (∀ v, VRel φ F w d v → K (a.put o.dst v) w) → wpOp P ops Q i K a w := by
    intro hw h
    simp only [Option.some.injEq] at h
    have h : ({ st with tm := putT o.dst und st.tm } : St) = st' := by rw [← h]; cases o.dst <;> rfl
    subst h
    refine ⟨und, rfl, fun K Q hK => ?_⟩
    unfold wpOp
    simp only [hi, hw, Bool.false_eq_true, if_false]
    exact hK undef (vrel_s undef)
  split at h
  · rename_i hg
    exact go (by simp [Region.wanted, hg]) h
  · rename_i j want hg
    split at h
    · rename_i t hj
      split at h
      · rename_i b hb
        have hwt := wanted_rel ht hg hj hb
        simp only at hwt
        split at h
        · rename_i hbw
          exact go (by rw [hwt, hbw]; simp) h
        · rename_i hbw
          exact no (by rw [hwt]; simpa using hbw) h
      · rename_i v hnb hv
        have hwt := wanted_rel ht hg hj hv
        exact no (by rw [hwt]; cases v <;> first | rfl | (exact absurd rfl (hnb _))) h
      · cases h
    · cases h

end
end Vm
end Go.Proofs.YtffgjmfkkfinlaaGreat

/-
  A region whose order is drawn: what holds wherever the run stands.
-/
namespace Go.Proofs.YtffgjmfkkfinlaaGreat
namespace Vm
open Go Go.RowKit

def cutP (φ : Ph) (k : Nat) : Ph := fun id => if id < k then φ id else none
theorem cutP_lt {φ : Ph} {k id : Nat} (h : id < k) : cutP φ k id = φ id := by simp [cutP, h]
theorem cutP_some {φ : Ph} {k id : Nat} {x : Nat × Nat × Nat} (h : cutP φ k id = some x) : φ id = some x ∧ id < k := by
  unfold cutP at h
  split at h
  · exact ⟨h, by assumption⟩
  · cases h
theorem cutP_of {φ : Ph} {k id : Nat} {x : Nat × Nat × Nat} (h : φ id = some x) (hk : id < k) : cutP φ k id = some x := by rw [cutP_lt hk]; exact h
theorem cutP_sub {φ φ' : Ph} {k k' : Nat} (hk : k ≤ k') (hs : ∀ id x, id < k → φ id = some x → φ' id = some x) : ∀ id x, cutP φ k id = some x → cutP φ' k' id = some x := fun id x h => by
  obtain ⟨h1, h2⟩ := cutP_some h
  exact cutP_of (hs id x h2 h1) (by omega)

section
variable {P : Program} {c : Cfg} {fr : Fr} {call : Callee} {ops : Array Oper} {R : Nat → St}

/-- The states of a run in the text's order. -/
def Trace (P : Program) (c : Cfg) (fr : Fr) (call : Callee) (ops : Array Oper) (R : Nat → St) : Prop := ∀ i o, ops[i]? = some o → operD P c fr true call ops (R i) o = some (R (i + 1))

theorem Trace.nx1 (hR : Trace P c fr call ops R) {i : Nat} (hi : i < ops.size) : (R i).nx ≤ (R (i + 1)).nx := operD_nx (hR i ops[i] (Array.getElem?_eq_getElem hi))
theorem Trace.nx (hR : Trace P c fr call ops R) {i : Nat} : ∀ {j : Nat}, i ≤ j → j ≤ ops.size → (R i).nx ≤ (R j).nx
  | 0, h, _ => by have : i = 0 := by omega
                  rw [this]; exact Nat.le_refl _
  | j + 1, h, hn => by
    by_cases e : i = j + 1
    · rw [e]; exact Nat.le_refl _
    · exact Nat.le_trans (hR.nx (by omega) (by omega)) (hR.nx1 (by omega))
theorem Trace.agree (hR : Trace P c fr call ops R) {i : Nat} : ∀ {j : Nat}, i ≤ j → j ≤ ops.size → (∀ l o, ops[l]? = some o → i ≤ l → l < j → cls c fr.fn o ≠ 2) → ∀ id, id < (R i).nx → rdH (R j).hp id = rdH (R i).hp id
  | 0, h, _, _, id, _ => by have : i = 0 := by omega
                            rw [this]
  | j + 1, h, hn, hc, id, hid => by
    by_cases e : i = j + 1
    · rw [e]
    · have hj := Array.getElem?_eq_getElem (show j < ops.size by omega)
      have h1 := operD_old (hc j _ hj (by omega) (by omega)) (hR j _ hj)
      rw [h1.1 id (Nat.lt_of_lt_of_le hid (hR.nx (by omega) (by omega)))]
      exact hR.agree (by omega) (by omega) (fun l o hl h1 h2 => hc l o hl h1 (by omega)) id hid
theorem Trace.tmp (hR : Trace P c fr call ops R) {i : Nat} {t : Tmp} : ∀ {j : Nat}, i ≤ j → j ≤ ops.size → (∀ l o, ops[l]? = some o → i ≤ l → l < j → o.dst ≠ some t) → rdT (R j).tm t = rdT (R i).tm t
  | 0, h, _, _ => by have : i = 0 := by omega
                     rw [this]
  | j + 1, h, hn, hc => by
    by_cases e : i = j + 1
    · rw [e]
    · have hj := Array.getElem?_eq_getElem (show j < ops.size by omega)
      obtain ⟨d, s, he, _⟩ := operD_shape (hR j _ hj)
      rw [he, rdT_putT_other (hc j _ hj (by omega) (by omega))]
      exact hR.tmp (by omega) (by omega) fun l o hl h1 h2 => hc l o hl h1 (by omega)

/-- Where the run stands: what has run is `L`; of what asks memory all ahead of `q` has run, nothing behind `m`; between them nothing is written. -/
structure Inv (P : Program) (c : Cfg) (fr : Fr) (ops : Array Oper) (R : Nat → St) (W : Nat → Prop) (φ0 : Ph) (F0 : Fz) (w0 : World) (L : Nat → Prop) (q m : Nat) (φ : Ph) (F : Fz) (w : World) (a : Act) : Prop where
  qm : q ≤ m
  mn : m ≤ ops.size
  a1 : ∀ j o, ops[j]? = some o → j < q → cls c fr.fn o ≠ 0 → L j
  a2 : ∀ j o, ops[j]? = some o → q ≤ j → j < m → cls c fr.fn o ≠ 2
  a3 : ∀ j o, ops[j]? = some o → m ≤ j → cls c fr.fn o ≠ 0 → ¬ L j
  a4 : m = ops.size ∨ ∃ o, ops[m]? = some o ∧ cls c fr.fn o = 2
  tx : ∀ j o t, ops[j]? = some o → L j → o.dst = some t → VRel (cutP φ (R (j + 1)).nx) F w (rdT (R (j + 1)).tm t) (a.tmps.getD t undef)
  t0 : ∀ t, (∀ j o, ops[j]? = some o → L j → o.dst ≠ some t) → VRel (cutP φ (R 0).nx) F w (rdT (R 0).tm t) (a.tmps.getD t undef)
  nt : fr.nt ≤ a.tmps.size
  df : a.defers = []
  blk : ∀ id b c' z, φ id = some (b, c', z) → (rdH (R m).hp id).md < 2 → ∀ j, q ≤ j → j ≤ m → id < (R j).nx → BRel (cutP φ (R j).nx) F w (rdH (R m).hp id) b c' z
  rw : ∀ id b c' z, φ id = some (b, c', z) → (rdH (R m).hp id).md = 0 → ∀ o, ¬ F b o
  tip : ∀ id b c' z, φ id = some (b, c', z) → (rdH (R m).hp id).md < 2 → (rdH (R m).hp id).arr = true → ∀ o, (rdH (R m).hp id).es.length * z ≤ o → ¬ F b o
  inj : ∀ id id' b c1 z1 c2 z2, φ id = some (b, c1, z1) → φ id' = some (b, c2, z2) → (rdH (R m).hp id).md < 2 → (rdH (R m).hp id').md < 2 → id = id'
  Fb : ∀ b o, F b o → b < w.heap.size
  pb : ∀ id b c' z, φ id = some (b, c', z) → b < w.heap.size
  sep : ∀ id id' b c1 z1 c2 z2 j, φ id = some (b, c1, z1) → φ id' = some (b, c2, z2) → q ≤ j → j ≤ m → id < (R j).nx → (R j).nx ≤ id' → False
  dom : ∀ id x, φ id = some x → id < (R q).nx ∨ ∃ j, L j ∧ q ≤ j ∧ j < m ∧ (R j).nx ≤ id ∧ id < (R (j + 1)).nx
  ext : Ext fr.k W φ0 F0 w0 φ F w
  k : fr.k ≤ (R 0).nx

variable {W : Nat → Prop} {φ0 : Ph} {F0 : Fz} {w0 : World} {L : Nat → Prop} {q m : Nat} {φ : Ph} {F : Fz} {w : World} {a : Act}

theorem Inv.lt (h : Inv P c fr ops R W φ0 F0 w0 L q m φ F w a) (hR : Trace P c fr call ops R) {id : Nat} {x : Nat × Nat × Nat} (hid : φ id = some x) : id < (R m).nx := by
  rcases h.dom id x hid with h1 | ⟨j, _, h1, h2, _, h3⟩
  · exact Nat.lt_of_lt_of_le h1 (hR.nx h.qm h.mn)
  · exact Nat.lt_of_lt_of_le h3 (hR.nx (by omega) h.mn)

/-- The memory as a whole, where all that comes ahead of `m` has run, and at any place between `q` and `m`. -/
theorem Inv.mr (h : Inv P c fr ops R W φ0 F0 w0 L q m φ F w a) (hR : Trace P c fr call ops R) {i : Nat} (h1 : q ≤ i) (h2 : i ≤ m) : MR (cutP φ (R i).nx) F w (R i).hp (R i).nx := by
  have ag : ∀ id, id < (R i).nx → rdH (R m).hp id = rdH (R i).hp id := hR.agree h2 h.mn fun l o hl ha hb => h.a2 l o hl (by omega) hb
  refine ⟨fun id b c' z hid hl => ?_, fun id b c' z hid hl => ?_, fun id b c' z hid hl => ?_, fun id id' b c1 z1 c2 z2 hid hid' hl hl' => ?_, fun id hid => ?_, h.Fb, fun id b c' z hid => ?_⟩
  · obtain ⟨x, y⟩ := cutP_some hid
    rw [← ag id y] at hl ⊢
    exact h.blk id b c' z x hl i h1 h2 y
  · obtain ⟨x, y⟩ := cutP_some hid
    rw [← ag id y] at hl
    exact h.rw id b c' z x hl
  · obtain ⟨x, y⟩ := cutP_some hid
    rw [← ag id y] at hl ⊢
    exact h.tip id b c' z x hl
  · obtain ⟨x, y⟩ := cutP_some hid
    obtain ⟨x', y'⟩ := cutP_some hid'
    rw [← ag id y] at hl
    rw [← ag id' y'] at hl'
    exact h.inj id id' b c1 z1 c2 z2 x x' hl hl'
  · simp [cutP, Nat.not_lt.2 hid]
  · exact h.pb id b c' z (cutP_some hid).1

def lookT (tm : List (Nat × D)) (l : List Tmp) : List (Nat × D) := l.map fun t => (t, rdT tm t)
theorem rdT_lookT {tm : List (Nat × D)} {t : Tmp} : ∀ {l : List Tmp}, rdT (lookT tm l) t = if t ∈ l then rdT tm t else .u
  | [] => by simp [lookT, rdT]
  | x :: l => by
    have ih := rdT_lookT (tm := tm) (t := t) (l := l)
    simp only [lookT, List.map_cons, rdT] at ih ⊢
    by_cases e : x = t
    · subst e; simp
    · rw [if_neg e, ih]
      have : (t ∈ x :: l) ↔ t ∈ l := by
        simp only [List.mem_cons]
        exact ⟨fun h => h.resolve_left fun e' => e e'.symm, .inr⟩
      simp only [this]

theorem Inv.look (h : Inv P c fr ops R W φ0 F0 w0 L q m φ F w a) (hR : Trace P c fr call ops R) (hd : DrOk c fr.fn fr.nt ops) (hL : Clo ops L) {i : Nat} {o : Oper} (hi : ops[i]? = some o) (hp : Preds L o) (hnl : ¬ L i) :
    TRel (cutP φ (R i).nx) F w (lookT (R i).tm (o.looksAt ops)) a := by
  intro t
  have hlt := (Array.getElem?_eq_some_iff.1 hi).1
  rw [rdT_lookT]
  split
  · rename_i ht
    by_cases hw : ∃ (j : Nat) (y : Oper), ops[j]? = some y ∧ y.dst = some t
    · obtain ⟨j, y, hj, hy⟩ := hw
      rcases hd.look L hL j i y o t hj hi hy ht hp hnl with ⟨hji, hLj⟩ | ⟨hij, hnj⟩
      · rw [hR.tmp (i := j + 1) (j := i) (by omega) (by omega) fun l x hl h1 h2 e => by
          have := hd.uniq l j x y t hl hj e hy
          omega]
        exact (h.tx j y t hj hLj hy).mono (cutP_sub (hR.nx (by omega) (by omega)) fun _ _ _ h => h) (fun _ _ h => h) (fun _ _ _ => rfl)
      · rw [hR.tmp (i := 0) (j := i) (by omega) (by omega) fun l x hl h1 h2 e => by
          have := hd.uniq l j x y t hl hj e hy
          omega]
        exact (h.t0 t fun l x hl hLl e => by
          have := hd.uniq l j x y t hl hj e hy
          subst this
          exact hnj hLl).mono (cutP_sub (hR.nx (by omega) (by omega)) fun _ _ _ h => h) (fun _ _ h => h) (fun _ _ _ => rfl)
    · rw [hR.tmp (i := 0) (j := i) (by omega) (by omega) fun l x hl h1 h2 e => hw ⟨l, x, hl, e⟩]
      exact (h.t0 t fun j y hj _ e => hw ⟨j, y, hj, e⟩).mono (cutP_sub (hR.nx (by omega) (by omega)) fun _ _ _ h => h) (fun _ _ h => h) (fun _ _ _ => rfl)
  · exact .u _

/-- What an operation gives, as it stands in the text's order. -/
theorem dst_val {i : Nat} {o : Oper} {d d' d2 : D} {tm tm' : List (Nat × D)} (hR : (R (i + 1)).tm = putT o.dst d tm) (h1 : ∀ t, o.dst = some t → d' = d) (h2 : putT o.dst d' tm' = putT o.dst d2 tm') {t : Tmp} (ht : o.dst = some t) : rdT (R (i + 1)).tm t = d2 := by
  rw [hR, ht, rdT_putT_same, ← h1 t ht]
  rw [ht] at h2
  simp only [putT, List.cons.injEq, Prod.mk.injEq, and_true, true_and] at h2
  exact h2

end
end Vm
end Go.Proofs.YtffgjmfkkfinlaaGreat

/-
  A region whose order is drawn: each step keeps what holds.
-/
namespace Go.Proofs.YtffgjmfkkfinlaaGreat
namespace Vm
open Go Go.RowKit

section
variable {P : Program} {c : Cfg} {fr : Fr} {call : Callee} {ops : Array Oper} {R : Nat → St}
variable {W : Nat → Prop} {φ0 : Ph} {F0 : Fz} {w0 : World} {L : Nat → Prop} {q m : Nat} {φ : Ph} {F : Fz} {w : World} {a : Act}

/-- What the temporaries hold behind an operation. -/
theorem Inv.tx_step (h : Inv P c fr ops R W φ0 F0 w0 L q m φ F w a) (hR : Trace P c fr call ops R) (hd : DrOk c fr.fn fr.nt ops) {i : Nat} {o : Oper} (hi : ops[i]? = some o) {φ' : Ph} {F' : Fz} {w' : World}
    (hs : ∀ id x, φ id = some x → φ' id = some x) (hF : ∀ b o, F b o → F' b o) (hc : ∀ b o, F b o → cellAt w' b o = cellAt w b o) {v : Value} (hv : ∀ t, o.dst = some t → VRel (cutP φ' (R (i + 1)).nx) F' w' (rdT (R (i + 1)).tm t) v) :
    (∀ j y t, ops[j]? = some y → (L j ∨ j = i) → y.dst = some t → VRel (cutP φ' (R (j + 1)).nx) F' w' (rdT (R (j + 1)).tm t) ((a.put o.dst v).tmps.getD t undef)) ∧
    (∀ t, (∀ j y, ops[j]? = some y → (L j ∨ j = i) → y.dst ≠ some t) → VRel (cutP φ' (R 0).nx) F' w' (rdT (R 0).tm t) ((a.put o.dst v).tmps.getD t undef)) := by
  have hnt : ∀ t, o.dst = some t → t < a.tmps.size := fun t ht => Nat.lt_of_lt_of_le (dstOk_spec (hd.dst i o hi) t ht) h.nt
  refine ⟨fun j y t hj hl hy => ?_, fun t ht => ?_⟩
  · by_cases e : j = i
    · subst e
      rw [hi] at hj
      simp only [Option.some.injEq] at hj
      subst hj
      have := hnt t hy
      have hv := hv t hy
      rw [hy, put_same this]
      exact hv
    · have hl : L j := hl.resolve_right e
      rw [put_other (fun e' => e (hd.uniq j i y o t hj hi hy e'))]
      exact (h.tx j y t hj hl hy).mono (cutP_sub (Nat.le_refl _) fun id x _ h => hs id x h) hF hc
  · rw [put_other (ht i o hi (.inr rfl))]
    exact (h.t0 t fun j y hj hl => ht j y hj (.inl hl)).mono (cutP_sub (Nat.le_refl _) fun id x _ h => hs id x h) hF hc

/-- An operation that asks no memory. -/
theorem Inv.step0 (h : Inv P c fr ops R W φ0 F0 w0 L q m φ F w a) (hR : Trace P c fr call ops R) (hd : DrOk c fr.fn fr.nt ops) (hL : Clo ops L) {i : Nat} {o : Oper} (hi : ops[i]? = some o) (hp : Preds L o) (hnl : ¬ L i) (hc : cls c fr.fn o = 0)
    {K : Act → World → Prop} {Q : Exit → Act → World → Prop} (hK : ∀ a', Inv P c fr ops R W φ0 F0 w0 (fun j => L j ∨ j = i) q m φ F w a' → K a' w) : wpOp P ops Q i K a w := by
  have ht := h.look hR hd hL hi hp hnl
  obtain ⟨d, s, he, _⟩ := operD_shape (hR i o hi)
  have htm : (R (i + 1)).tm = putT o.dst d (R i).tm := by rw [he]
  obtain ⟨d', hd', hop⟩ := operD_congr (tm' := lookT (R i).tm (o.looksAt ops)) (fun t ht => by rw [rdT_lookT, if_pos ht]) (hR i o hi) htm
  obtain ⟨d2, h2, hgo⟩ := operD0_sim (st := { tm := lookT (R i).tm (o.looksAt ops), hp := (R i).hp, nx := (R i).nx }) ht hc hi hop
  have hnx : (R (i + 1)).nx = (R i).nx := (operD_c0 hc (hR i o hi)).2
  refine hgo _ _ fun v hv => hK _ ?_
  obtain ⟨tx, t0⟩ := h.tx_step hR hd hi (φ' := φ) (F' := F) (w' := w) (fun _ _ h => h) (fun _ _ h => h) (fun _ _ _ => rfl) (v := v) (fun t ht => by
    rw [dst_val htm hd' h2 ht, hnx]; exact hv)
  exact {
    qm := h.qm, mn := h.mn
    a1 := fun j y hj hq hn => .inl (h.a1 j y hj hq hn)
    a2 := h.a2
    a3 := fun j y hj hm hn hl => by
      rcases hl with hl | rfl
      · exact h.a3 j y hj hm hn hl
      · rw [hi] at hj; simp only [Option.some.injEq] at hj; subst hj; exact hn hc
    a4 := h.a4, tx := tx, t0 := t0
    nt := by rw [put_size]; exact h.nt
    df := by rw [put_defers]; exact h.df
    blk := h.blk, rw := h.rw, tip := h.tip, inj := h.inj, Fb := h.Fb, pb := h.pb, sep := h.sep
    dom := fun id x hid => by
      rcases h.dom id x hid with h1 | ⟨j, h1, h2⟩
      · exact .inl h1
      · exact .inr ⟨j, .inl h1, h2⟩
    ext := h.ext, k := h.k }

/-- An operation that may write: all that asks memory ahead of it has run, nothing behind it. -/
theorem Inv.step2 (hcall : CallOk P c call) (hen : ∀ f args bs r, call f args bs = some r → Enter P f) (hW : ∀ id, W id ↔ (fr.ro = false ∨ fr.k ≤ id))
    (h : Inv P c fr ops R W φ0 F0 w0 L q m φ F w a) (hR : Trace P c fr call ops R) (hd : DrOk c fr.fn fr.nt ops) (hL : Clo ops L) {i : Nat} {o : Oper} (hi : ops[i]? = some o) (hp : Preds L o) (hnl : ¬ L i) (hc : cls c fr.fn o = 2)
    {K : Act → World → Prop} {Q : Exit → Act → World → Prop} (hK : ∀ a' q' m' φ' F' w', Inv P c fr ops R W φ0 F0 w0 (fun j => L j ∨ j = i) q' m' φ' F' w' a' → K a' w') : wpOp P ops Q i K a w := by
  have hlt := (Array.getElem?_eq_some_iff.1 hi).1
  have him : i = m := by
    have h1 : m ≤ i := by
      rcases Nat.lt_or_ge i m with h1 | h1
      · exfalso
        rcases Nat.lt_or_ge i q with h2 | h2
        · exact hnl (h.a1 i o hi h2 (by rw [hc]; decide))
        · exact h.a2 i o hi h2 h1 hc
      · exact h1
    rcases h.a4 with h2 | ⟨y, hy, hcy⟩
    · omega
    · by_cases e : i = m
      · exact e
      · exact absurd (hd.mem L hL m i y o hy hi (by omega) (by rw [hcy]; decide) (by rw [hc]; decide) (.inl hcy) hp) (h.a3 m y hy (Nat.le_refl _) (by rw [hcy]; decide))
  subst him
  have hcut : cutP φ (R i).nx = φ := by
    funext id
    by_cases hid : id < (R i).nx
    · exact cutP_lt hid
    · unfold cutP
      rw [if_neg hid]
      cases hx : φ id with
      | none => rfl
      | some x => exact absurd (h.lt hR hx) hid
  have ht := h.look hR hd hL hi hp hnl
  have hm := h.mr hR h.qm (Nat.le_refl _)
  rw [hcut] at ht hm
  obtain ⟨d, s, he, _⟩ := operD_shape (hR i o hi)
  have htm : (R (i + 1)).tm = putT o.dst d (R i).tm := by rw [he]
  obtain ⟨d', hd', hop⟩ := operD_congr (tm' := lookT (R i).tm (o.looksAt ops)) (fun t ht => by rw [rdT_lookT, if_pos ht]) (hR i o hi) htm
  have hki : fr.k ≤ (R i).nx := Nat.le_trans h.k (hR.nx (Nat.zero_le _) (by omega))
  obtain ⟨d2, h2, hgo⟩ := operD_sim (st := { tm := lookT (R i).tm (o.looksAt ops), hp := (R i).hp, nx := (R i).nx }) hcall hen hW hm hki ht hi hop
  refine hgo _ _ fun v φ' F' w' hpo => ?_
  have hmono1 := hR.nx1 hlt
  -- the next operation that may write
  obtain ⟨m', hm1, hm2, hm3, hm4⟩ : ∃ m', i + 1 ≤ m' ∧ m' ≤ ops.size ∧ (∀ j y, ops[j]? = some y → i + 1 ≤ j → j < m' → cls c fr.fn y ≠ 2) ∧ (m' = ops.size ∨ ∃ y, ops[m']? = some y ∧ cls c fr.fn y = 2) := by
    have : ∀ k, i + 1 + k ≤ ops.size → (∀ j y, ops[j]? = some y → i + 1 ≤ j → j < i + 1 + k → cls c fr.fn y ≠ 2) → ∃ m', i + 1 ≤ m' ∧ m' ≤ ops.size ∧ (∀ j y, ops[j]? = some y → i + 1 ≤ j → j < m' → cls c fr.fn y ≠ 2) ∧ (m' = ops.size ∨ ∃ y, ops[m']? = some y ∧ cls c fr.fn y = 2) := by
      intro k
      generalize hr : ops.size - (i + 1 + k) = r
      induction r generalizing k with
      | zero => intro hk hn; exact ⟨i + 1 + k, by omega, hk, hn, .inl (by omega)⟩
      | succ r ih =>
        intro hk hn
        have hj := Array.getElem?_eq_getElem (show i + 1 + k < ops.size by omega)
        by_cases hcy : cls c fr.fn ops[i + 1 + k] = 2
        · exact ⟨i + 1 + k, by omega, hk, hn, .inr ⟨_, hj, hcy⟩⟩
        · refine ih (k + 1) (by omega) (by omega) fun j y hy h1 h2 => ?_
          by_cases e : j = i + 1 + k
          · subst e; rw [hj] at hy; simp only [Option.some.injEq] at hy; subst hy; exact hcy
          · exact hn j y hy h1 (by omega)
    exact this 0 (by omega) (fun j y _ h1 h2 => by omega)
  have ag : ∀ id, id < (R (i + 1)).nx → rdH (R m').hp id = rdH (R (i + 1)).hp id := hR.agree hm1 hm2 hm3
  have hlt' : ∀ id x, φ' id = some x → id < (R (i + 1)).nx := fun id x hx => by
    rcases Nat.lt_or_ge id (R (i + 1)).nx with h1 | h1
    · exact h1
    · rw [hpo.mem.fresh id h1] at hx; cases hx
  refine hK _ (i + 1) m' φ' F' w' ?_
  obtain ⟨tx, t0⟩ := h.tx_step hR hd hi (φ' := φ') (F' := F') (w' := w') hpo.sub hpo.ext.Fm hpo.ext.cells (v := v) (fun t ht => by
    rw [dst_val htm hd' h2 ht]
    have e : cutP φ' (R (i + 1)).nx = φ' := by
      funext id
      unfold cutP
      split
      · rfl
      · rename_i hid
        exact (hpo.mem.fresh id (by simp only; omega)).symm
    rw [e]; exact hpo.val)
  exact {
    qm := hm1, mn := hm2
    a1 := fun j y hj hq hn => by
      by_cases e : j = i
      · exact .inr e
      · exact .inl (hd.mem L hL j i y o hj hi (by omega) hn (by rw [hc]; decide) (.inr hc) hp)
    a2 := hm3
    a3 := fun j y hj hm hn hl => by
      rcases hl with hl | rfl
      · exact h.a3 j y hj (by omega) hn hl
      · omega
    a4 := hm4, tx := tx, t0 := t0
    nt := by rw [put_size]; exact h.nt
    df := by rw [put_defers]; exact h.df
    blk := fun id b c' z hid hl j h1 h2 h3 => by
      have hx := hlt' id _ hid
      rw [ag id hx] at hl ⊢
      refine (hpo.mem.blk id b c' z hid hl).keep rfl (fun id' x hx' => cutP_of hx' ?_) (fun _ _ h => h) (fun _ _ _ => rfl)
      exact Nat.lt_of_lt_of_le (hlt' id' _ hx') (hR.nx h1 (by omega))
    rw := fun id b c' z hid hl => by
      rw [ag id (hlt' id _ hid)] at hl
      exact hpo.mem.rw id b c' z hid hl
    tip := fun id b c' z hid hl => by
      rw [ag id (hlt' id _ hid)] at hl ⊢
      exact hpo.mem.tip id b c' z hid hl
    inj := fun id id' b c1 z1 c2 z2 h1 h2 l1 l2 => by
      rw [ag id (hlt' id _ h1)] at l1
      rw [ag id' (hlt' id' _ h2)] at l2
      exact hpo.mem.inj id id' b c1 z1 c2 z2 h1 h2 l1 l2
    Fb := hpo.mem.Fb, pb := hpo.mem.pb
    sep := fun id id' b c1 z1 c2 z2 j _ h2 h3 h4 _ h6 => by
      have := hlt' id' _ h2
      have := hR.nx h3 (by omega)
      omega
    dom := fun id x hid => .inl (hlt' id x hid)
    ext := h.ext.trans hpo.ext
    k := h.k }

end
end Vm
end Go.Proofs.YtffgjmfkkfinlaaGreat

/-
  A region whose order is drawn: an operation that reads memory, or makes new, between two that write.
-/
namespace Go.Proofs.YtffgjmfkkfinlaaGreat
namespace Vm
open Go Go.RowKit

section
variable {P : Program} {c : Cfg} {fr : Fr} {call : Callee} {ops : Array Oper} {R : Nat → St}
variable {W : Nat → Prop} {φ0 : Ph} {F0 : Fz} {w0 : World} {L : Nat → Prop} {q m : Nat} {φ : Ph} {F : Fz} {w : World} {a : Act}

theorem Inv.step1 (hcall : CallOk P c call) (hen : ∀ f args bs r, call f args bs = some r → Enter P f)
    (h : Inv P c fr ops R W φ0 F0 w0 L q m φ F w a) (hR : Trace P c fr call ops R) (hd : DrOk c fr.fn fr.nt ops) (hL : Clo ops L) {i : Nat} {o : Oper} (hi : ops[i]? = some o) (hp : Preds L o) (hnl : ¬ L i) (hc : cls c fr.fn o ≠ 2) (hc0 : cls c fr.fn o ≠ 0)
    {K : Act → World → Prop} {Q : Exit → Act → World → Prop} (hK : ∀ a' φ' F' w', Inv P c fr ops R W φ0 F0 w0 (fun j => L j ∨ j = i) q m φ' F' w' a' → K a' w') : wpOp P ops Q i K a w := by
  have hlt := (Array.getElem?_eq_some_iff.1 hi).1
  have hqi : q ≤ i := by
    rcases Nat.lt_or_ge i q with h1 | h1
    · exact absurd (h.a1 i o hi h1 hc0) hnl
    · exact h1
  have him : i < m := by
    rcases h.a4 with h2 | ⟨y, hy, hcy⟩
    · omega
    · rcases Nat.lt_or_ge i m with h1 | h1
      · exact h1
      · exfalso
        by_cases e : i = m
        · subst e; rw [hi] at hy; simp only [Option.some.injEq] at hy; subst hy; exact hc hcy
        · exact absurd (hd.mem L hL m i y o hy hi (by omega) (by rw [hcy]; decide) hc0 (.inl hcy) hp) (h.a3 m y hy (Nat.le_refl _) (by rw [hcy]; decide))
  have ht := h.look hR hd hL hi hp hnl
  have hm := h.mr hR hqi (Nat.le_of_lt him)
  obtain ⟨d, s, he, _⟩ := operD_shape (hR i o hi)
  have htm : (R (i + 1)).tm = putT o.dst d (R i).tm := by rw [he]
  obtain ⟨d', hd', hop⟩ := operD_congr (tm' := lookT (R i).tm (o.looksAt ops)) (fun t ht => by rw [rdT_lookT, if_pos ht]) (hR i o hi) htm
  rw [operD_fr (fr := fr) (fr' := ⟨(R i).nx, fr.nt, fr.fn, true⟩) rfl hc] at hop
  obtain ⟨d2, h2, hgo⟩ := operD_sim (W := fun id => (R i).nx ≤ id) (fr := ⟨(R i).nx, fr.nt, fr.fn, true⟩) (st := { tm := lookT (R i).tm (o.looksAt ops), hp := (R i).hp, nx := (R i).nx }) hcall hen (fun id => by simp) hm (Nat.le_refl _) ht hi hop
  refine hgo _ _ fun v φ1 F' w' hpo => ?_
  have hnx1 := hR.nx1 hlt
  -- what is new stands in new blocks of the model's, and nothing that was is written
  have hnone : ∀ id, (R i).nx ≤ id → id < (R (i + 1)).nx → φ id = none := by
    intro id h1 h2
    cases hx : φ id with
    | none => rfl
    | some x =>
      exfalso
      rcases h.dom id x hx with h3 | ⟨j, hj, h3, h4, h5, h6⟩
      · have := hR.nx hqi (by omega); omega
      · by_cases e : j = i
        · subst e; exact hnl hj
        · have hmn := h.mn
          rcases Nat.lt_or_ge j i with h7 | h7
          · have := hR.nx (show j + 1 ≤ i by omega) (by omega); omega
          · have := hR.nx (show i + 1 ≤ j by omega) (by omega); omega
  have h1lt : ∀ id x, φ1 id = some x → id < (R (i + 1)).nx := fun id x hx => by
    rcases Nat.lt_or_ge id (R (i + 1)).nx with h1 | h1
    · exact h1
    · rw [hpo.mem.fresh id h1] at hx; cases hx
  have h1old : ∀ id, id < (R i).nx → φ1 id = φ id := fun id hid => by rw [hpo.old id hid, cutP_lt hid]
  have h1new : ∀ id b c' z, (R i).nx ≤ id → φ1 id = some (b, c', z) → w.heap.size ≤ b := by
    intro id b c' z hid hx
    rcases hpo.ext.img id b c' z hx with h1 | ⟨id0, c0, z0, h1, h3⟩
    · exact h1
    · have := (cutP_some h1).2
      have := h3 hid
      omega
  have hheap : ∀ b, b < w.heap.size → w'.heap[b]? = w.heap[b]? := fun b hb => hpo.ext.other b hb fun id c' z hx => by
    have := (cutP_some hx).2
    omega
  -- all together
  obtain ⟨φ2, hφ2⟩ : ∃ φ2 : Ph, φ2 = fun id => if (R i).nx ≤ id ∧ id < (R (i + 1)).nx then φ1 id else φ id := ⟨_, rfl⟩
  have hin : ∀ id, (R i).nx ≤ id → id < (R (i + 1)).nx → φ2 id = φ1 id := fun id h1 h2 => by rw [hφ2]; simp only; rw [if_pos ⟨h1, h2⟩]
  have hout : ∀ id, ¬ ((R i).nx ≤ id ∧ id < (R (i + 1)).nx) → φ2 id = φ id := fun id h1 => by rw [hφ2]; simp only; rw [if_neg h1]
  have hlow : ∀ id, id < (R (i + 1)).nx → φ2 id = φ1 id := fun id hid => by
    by_cases h1 : (R i).nx ≤ id
    · exact hin id h1 hid
    · rw [hout id (by omega), h1old id (by omega)]
  have hsub : ∀ id x, φ id = some x → φ2 id = some x := fun id x hx => by
    by_cases h1 : (R i).nx ≤ id ∧ id < (R (i + 1)).nx
    · rw [hnone id h1.1 h1.2] at hx; cases hx
    · rw [hout id h1]; exact hx
  have hsub1 : ∀ id x, φ1 id = some x → φ2 id = some x := fun id x hx => by rw [hlow id (h1lt id x hx)]; exact hx
  have ag1 : ∀ id, id < (R (i + 1)).nx → rdH (R m).hp id = rdH (R (i + 1)).hp id := hR.agree him h.mn fun l y hl h1 h2 => h.a2 l y hl (by omega) h2
  have hFnew : ∀ b o, F' b o → F b o ∨ w.heap.size ≤ b ∨ ∃ id c' z, id < (R i).nx ∧ φ id = some (b, c', z) := fun b o hf => by
    rcases hpo.ext.Fnew b o hf with h1 | h1 | ⟨id, c', z, h1⟩
    · exact .inl h1
    · exact .inr (.inl h1)
    · exact .inr (.inr ⟨id, c', z, (cutP_some h1).2, (cutP_some h1).1⟩)
  -- what lies behind is not marked anew
  have hfar : ∀ id b c' z, (R (i + 1)).nx ≤ id → φ id = some (b, c', z) → ∀ o, F' b o → F b o := by
    intro id b c' z hid hx o hf
    rcases hFnew b o hf with h1 | h1 | ⟨id0, c0, z0, h3, h4⟩
    · exact h1
    · exact absurd (h.pb id b c' z hx) (by omega)
    · exact (h.sep id0 id b c0 z0 c' z i h4 hx hqi (Nat.le_of_lt him) h3 (by omega)).elim
  refine hK _ φ2 F' w' ?_
  obtain ⟨tx, t0⟩ := h.tx_step hR hd hi (φ' := φ2) (F' := F') (w' := w') hsub hpo.ext.Fm hpo.ext.cells (v := v) (fun t ht => by
    rw [dst_val htm hd' h2 ht]
    exact hpo.val.mono (fun id x hx => cutP_of (hsub1 id x hx) (h1lt id x hx)) (fun _ _ h => h) (fun _ _ _ => rfl))
  exact {
    qm := h.qm, mn := h.mn
    a1 := fun j y hj hq hn => .inl (h.a1 j y hj hq hn)
    a2 := h.a2
    a3 := fun j y hj hm hn hl => by
      rcases hl with hl | rfl
      · exact h.a3 j y hj hm hn hl
      · omega
    a4 := h.a4, tx := tx, t0 := t0
    nt := by rw [put_size]; exact h.nt
    df := by rw [put_defers]; exact h.df
    blk := fun id b c' z hid hl j h1 h2 h3 => by
      have hmn := h.mn
      by_cases e : (R i).nx ≤ id ∧ id < (R (i + 1)).nx
      · rw [hin id e.1 e.2] at hid
        rw [ag1 id e.2] at hl ⊢
        refine (hpo.mem.blk id b c' z hid hl).keep rfl (fun id' x hx' => cutP_of (hsub1 id' x hx') ?_) (fun _ _ h => h) (fun _ _ _ => rfl)
        have : i + 1 ≤ j := by
          rcases Nat.lt_or_ge i j with h4 | h4
          · exact h4
          · have := hR.nx h4 (by omega); omega
        exact Nat.lt_of_lt_of_le (h1lt id' _ hx') (hR.nx this (by omega))
      · rw [hout id e] at hid
        exact (h.blk id b c' z hid hl j h1 h2 h3).keep (hheap b (h.pb id b c' z hid)) (cutP_sub (Nat.le_refl _) fun id x _ hx => hsub id x hx) hpo.ext.Fm hpo.ext.cells
    rw := fun id b c' z hid hl o hf => by
      rcases Nat.lt_or_ge id (R (i + 1)).nx with e | e
      · rw [hlow id e] at hid
        rw [ag1 id e] at hl
        exact hpo.mem.rw id b c' z hid hl o hf
      · rw [hout id (by omega)] at hid
        exact h.rw id b c' z hid hl o (hfar id b c' z e hid o hf)
    tip := fun id b c' z hid hl ha o ho hf => by
      rcases Nat.lt_or_ge id (R (i + 1)).nx with e | e
      · rw [hlow id e] at hid
        rw [ag1 id e] at hl ha ho
        exact hpo.mem.tip id b c' z hid hl ha o ho hf
      · rw [hout id (by omega)] at hid
        exact h.tip id b c' z hid hl ha o ho (hfar id b c' z e hid o hf)
    inj := fun id id' b c1 z1 c2 z2 x1 x2 l1 l2 => by
      by_cases e : (R i).nx ≤ id ∧ id < (R (i + 1)).nx
      · by_cases e' : (R i).nx ≤ id' ∧ id' < (R (i + 1)).nx
        · rw [hin id e.1 e.2] at x1
          rw [hin id' e'.1 e'.2] at x2
          rw [ag1 id e.2] at l1
          rw [ag1 id' e'.2] at l2
          exact hpo.mem.inj id id' b c1 z1 c2 z2 x1 x2 l1 l2
        · rw [hin id e.1 e.2] at x1
          rw [hout id' e'] at x2
          have := h1new id b c1 z1 e.1 x1
          have := h.pb id' b c2 z2 x2
          omega
      · by_cases e' : (R i).nx ≤ id' ∧ id' < (R (i + 1)).nx
        · rw [hout id e] at x1
          rw [hin id' e'.1 e'.2] at x2
          have := h1new id' b c2 z2 e'.1 x2
          have := h.pb id b c1 z1 x1
          omega
        · rw [hout id e] at x1
          rw [hout id' e'] at x2
          exact h.inj id id' b c1 z1 c2 z2 x1 x2 l1 l2
    Fb := hpo.mem.Fb
    pb := fun id b c' z hid => by
      by_cases e : (R i).nx ≤ id ∧ id < (R (i + 1)).nx
      · rw [hin id e.1 e.2] at hid
        exact hpo.mem.pb id b c' z hid
      · rw [hout id e] at hid
        exact Nat.lt_of_lt_of_le (h.pb id b c' z hid) hpo.ext.size
    sep := fun id id' b c1 z1 c2 z2 j x1 x2 h1 h3 h4 h5 => by
      have hmn := h.mn
      by_cases e : (R i).nx ≤ id ∧ id < (R (i + 1)).nx
      · by_cases e' : (R i).nx ≤ id' ∧ id' < (R (i + 1)).nx
        · rcases Nat.lt_or_ge i j with h6 | h6
          · have := hR.nx (show i + 1 ≤ j by omega) (by omega); omega
          · have := hR.nx h6 (by omega); omega
        · rw [hin id e.1 e.2] at x1
          rw [hout id' e'] at x2
          have := h1new id b c1 z1 e.1 x1
          have := h.pb id' b c2 z2 x2
          omega
      · by_cases e' : (R i).nx ≤ id' ∧ id' < (R (i + 1)).nx
        · rw [hout id e] at x1
          rw [hin id' e'.1 e'.2] at x2
          have := h1new id' b c2 z2 e'.1 x2
          have := h.pb id b c1 z1 x1
          omega
        · rw [hout id e] at x1
          rw [hout id' e'] at x2
          exact h.sep id id' b c1 z1 c2 z2 j x1 x2 h1 h3 h4 h5
    dom := fun id x hid => by
      by_cases e : (R i).nx ≤ id ∧ id < (R (i + 1)).nx
      · exact .inr ⟨i, .inr rfl, hqi, him, e.1, e.2⟩
      · rw [hout id e] at hid
        rcases h.dom id x hid with h1 | ⟨j, h1, h2⟩
        · exact .inl h1
        · exact .inr ⟨j, .inl h1, h2⟩
    ext := by
      refine h.ext.trans ⟨hpo.ext.os, hpo.ext.tape, hpo.ext.output, hpo.ext.size, fun id hid => ?_, fun id b c' z hid => ?_, hpo.ext.Fm, hpo.ext.cells, fun b hb _ => hheap b hb, fun b o hf => ?_⟩
      · have := Nat.lt_of_lt_of_le hid (Nat.le_trans h.k (hR.nx (Nat.zero_le i) (by omega)))
        rw [hout id (by omega)]
      · by_cases e : (R i).nx ≤ id ∧ id < (R (i + 1)).nx
        · rw [hin id e.1 e.2] at hid
          exact .inl (h1new id b c' z e.1 hid)
        · rw [hout id e] at hid
          exact .inr ⟨id, c', z, hid, fun x => x⟩
      · rcases hFnew b o hf with h1 | h1 | ⟨id, c', z, _, h4⟩
        · exact .inl h1
        · exact .inr (.inl h1)
        · exact .inr (.inr ⟨id, c', z, h4⟩)
    k := h.k }

end
end Vm
end Go.Proofs.YtffgjmfkkfinlaaGreat

/-
  A region whose order is drawn, as a whole.
-/
namespace Go.Proofs.YtffgjmfkkfinlaaGreat
namespace Vm
open Go Go.RowKit

def cntTo (l : Array Bool) : Nat → Nat
  | 0 => 0
  | k + 1 => cntTo l k + (if l.getD k true = true then 0 else 1)

theorem getD_set (l : Array Bool) (i j : Nat) (d : Bool) (hi : i < l.size) : (l.setIfInBounds i true).getD j d = if i = j then true else l.getD j d := by
  rw [Array.getD_eq_getD_getElem?, Array.getD_eq_getD_getElem?, Array.getElem?_setIfInBounds]
  split
  · rename_i e; subst e; simp [hi]
  · rfl

theorem cntTo_set {l : Array Bool} {i : Nat} (hi : i < l.size) (hu : l.getD i true = false) : ∀ k, cntTo (l.setIfInBounds i true) k + (if i < k then 1 else 0) = cntTo l k
  | 0 => by simp [cntTo]
  | k + 1 => by
    have ih := cntTo_set hi hu k
    simp only [cntTo, getD_set l i k true hi]
    by_cases e : i = k
    · subst e
      simp only [hu]
      simp at ih ⊢
      omega
    · rw [if_neg e]
      by_cases h : i < k
      · have h' : i < k + 1 := by omega
        rw [if_pos h] at ih
        rw [if_pos h']
        omega
      · have h' : ¬ i < k + 1 := by omega
        rw [if_neg h] at ih
        rw [if_neg h']
        omega

theorem cntTo_zero {l : Array Bool} : ∀ {k : Nat}, cntTo l k = 0 → ∀ j, j < k → l.getD j true = true
  | 0, _, j, hj => by omega
  | k + 1, h, j, hj => by
    simp only [cntTo] at h
    by_cases e : j = k
    · subst e
      cases hb : l.getD j true with
      | true => rfl
      | false => rw [hb] at h; simp at h
    · exact cntTo_zero (l := l) (k := k) (by omega) j (by omega)
theorem cntTo_pos {l : Array Bool} : ∀ {k : Nat}, 0 < cntTo l k → ∃ j, j < k ∧ l.getD j true = false ∧ ∀ i, i < j → l.getD i true = true
  | 0, h => by simp [cntTo] at h
  | k + 1, h => by
    by_cases h0 : 0 < cntTo l k
    · obtain ⟨j, h1, h2⟩ := cntTo_pos h0
      exact ⟨j, by omega, h2⟩
    · have h0 : cntTo l k = 0 := by omega
      simp only [cntTo, h0] at h
      refine ⟨k, by omega, ?_, cntTo_zero h0⟩
      cases hb : l.getD k true with
      | true => rw [hb] at h; simp at h
      | false => rfl
theorem cntTo_repl (n : Nat) : ∀ k, k ≤ n → cntTo (Array.replicate n false) k = k
  | 0, _ => rfl
  | k + 1, h => by
    have : (Array.replicate n false).getD k true = false := by
      rw [Array.getD_eq_getD_getElem?, Array.getElem?_replicate]
      rw [if_pos (by omega)]; rfl
    simp only [cntTo, this, cntTo_repl n k (by omega)]
    rfl

def LS (l : Array Bool) (j : Nat) : Prop := l.getD j false = true
theorem getD_both {l : Array Bool} {j : Nat} (h : j < l.size) (x y : Bool) : l.getD j x = l.getD j y := by
  rw [Array.getD_eq_getD_getElem?, Array.getD_eq_getD_getElem?, Array.getElem?_eq_getElem h]; rfl

section
variable {P : Program} {c : Cfg} {fr : Fr} {call : Callee} {ops : Array Oper} {R : Nat → St}
variable {W : Nat → Prop} {φ0 : Ph} {F0 : Fz} {w0 : World}

theorem mem_ready {l : Array Bool} (hl : l.size = ops.size) {i : Nat} : i ∈ Region.ready .any ops l ↔ ∃ o, ops[i]? = some o ∧ ¬ LS l i ∧ Preds (LS l) o := by
  unfold Region.ready
  rw [List.mem_filter, List.mem_range]
  constructor
  · rintro ⟨h1, h2⟩
    rw [Array.getElem?_eq_getElem h1] at h2
    simp only [Bool.and_eq_true, Bool.not_eq_true', Option.map_some, Option.getD_some] at h2
    refine ⟨ops[i], Array.getElem?_eq_getElem h1, ?_, fun e he hb => ?_⟩
    · unfold LS; rw [getD_both (by omega) false true, h2.1]; simp
    · have h3 := h2.2
      rw [Array.all_eq_true'] at h3
      have := h3 e (by simpa using he)
      rw [hb] at this
      simpa [LS] using this
  · rintro ⟨o, h1, h2, h3⟩
    have hlt := (Array.getElem?_eq_some_iff.1 h1).1
    refine ⟨hlt, ?_⟩
    rw [h1]
    simp only [Bool.and_eq_true, Bool.not_eq_true', Option.map_some, Option.getD_some]
    refine ⟨?_, ?_⟩
    · unfold LS at h2
      rw [getD_both (by omega) true false]
      simpa using h2
    · rw [Array.all_eq_true']
      intro e he
      have := h3 e (by simpa using he)
      cases hb : Region.binds .any e with
      | false => rfl
      | true => simpa [LS] using this hb

theorem Inv.congr {L L' : Nat → Prop} {q m : Nat} {φ : Ph} {F : Fz} {w : World} {a : Act} (h : Inv P c fr ops R W φ0 F0 w0 L q m φ F w a) (he : ∀ j, L j ↔ L' j) : Inv P c fr ops R W φ0 F0 w0 L' q m φ F w a := by
  have : L = L' := funext fun j => propext (he j)
  rw [← this]; exact h

/-- Where all has run. -/
theorem Inv.done {L : Nat → Prop} {q m : Nat} {φ : Ph} {F : Fz} {w : World} {a : Act} (h : Inv P c fr ops R W φ0 F0 w0 L q m φ F w a) (hR : Trace P c fr call ops R) (hd : DrOk c fr.fn fr.nt ops) (hall : ∀ j, j < ops.size → L j) : Sim fr W φ0 F0 w0 (R ops.size) a w := by
  have hm : m = ops.size := by
    rcases h.a4 with h1 | ⟨y, hy, hcy⟩
    · exact h1
    · exact absurd (hall m (Array.getElem?_eq_some_iff.1 hy).1) (h.a3 m y hy (Nat.le_refl _) (by rw [hcy]; decide))
  subst hm
  have hcut : cutP φ (R ops.size).nx = φ := by
    funext id
    by_cases hid : id < (R ops.size).nx
    · exact cutP_lt hid
    · unfold cutP
      rw [if_neg hid]
      cases hx : φ id with
      | none => rfl
      | some x => exact absurd (h.lt hR hx) hid
  have hmr := h.mr hR h.qm (Nat.le_refl _)
  rw [hcut] at hmr
  refine ⟨φ, F, ⟨fun t => ?_, h.nt, h.df, hmr, Nat.le_trans h.k (hR.nx (Nat.zero_le _) (Nat.le_refl _))⟩, h.ext⟩
  by_cases hw : ∃ (j : Nat) (y : Oper), ops[j]? = some y ∧ y.dst = some t
  · obtain ⟨j, y, hj, hy⟩ := hw
    have hlt := (Array.getElem?_eq_some_iff.1 hj).1
    rw [hR.tmp (i := j + 1) (j := ops.size) (by omega) (Nat.le_refl _) fun l x hl h1 h2 e => by
      have := hd.uniq l j x y t hl hj e hy
      omega]
    exact (h.tx j y t hj (hall j hlt) hy).mono (fun id x hx => (cutP_some hx).1) (fun _ _ h => h) (fun _ _ _ => rfl)
  · rw [hR.tmp (i := 0) (j := ops.size) (Nat.zero_le _) (Nat.le_refl _) fun l x hl h1 h2 e => hw ⟨l, x, hl, e⟩]
    exact (h.t0 t fun j y hj _ e => hw ⟨j, y, hj, e⟩).mono (fun id x hx => (cutP_some hx).1) (fun _ _ h => h) (fun _ _ _ => rfl)

theorem any_sim (hcall : CallOk P c call) (hen : ∀ f args bs r, call f args bs = some r → Enter P f) (hW : ∀ id, W id ↔ (fr.ro = false ∨ fr.k ≤ id)) (hR : Trace P c fr call ops R) (hd : DrOk c fr.fn fr.nt ops) {Q : Exit → Act → World → Prop}
    (hQ : ∀ a w, Sim fr W φ0 F0 w0 (R ops.size) a w → Q .normal a w) : ∀ (fuel : Nat) (l : Array Bool) (q m : Nat) (φ : Ph) (F : Fz) (a : Act) (w : World), l.size = ops.size → Clo ops (LS l) → cntTo l ops.size = fuel →
      Inv P c fr ops R W φ0 F0 w0 (LS l) q m φ F w a → wpAny P .any ops Q fuel l a w
  | 0, l, q, m, φ, F, a, w, hl, hL, hcnt, h => by
    have hall : ∀ j, j < ops.size → LS l j := fun j hj => by
      unfold LS
      rw [getD_both (by omega) false true]
      exact cntTo_zero hcnt j hj
    refine ⟨?_, hQ a w (h.done hR hd hall)⟩
    rw [List.eq_nil_iff_forall_not_mem]
    intro i hi
    obtain ⟨o, h1, h2, _⟩ := (mem_ready hl).1 hi
    exact h2 (hall i (Array.getElem?_eq_some_iff.1 h1).1)
  | fuel + 1, l, q, m, φ, F, a, w, hl, hL, hcnt, h => by
    refine ⟨fun hnil => ?_, fun i hi => ?_⟩
    · exfalso
      obtain ⟨j, h1, h2, h3⟩ := cntTo_pos (l := l) (k := ops.size) (by omega)
      have : j ∈ Region.ready .any ops l := (mem_ready hl).2 ⟨ops[j], Array.getElem?_eq_getElem h1, by unfold LS; rw [getD_both (by omega) false true, h2]; simp, fun e he hb => by
        have hlt := hd.back j _ (Array.getElem?_eq_getElem h1) e he hb
        unfold LS
        rw [getD_both (by omega) false true]
        exact h3 _ hlt⟩
      rw [hnil] at this
      simp at this
    · obtain ⟨o, h1, h2, h3⟩ := (mem_ready hl).1 hi
      have hlt := (Array.getElem?_eq_some_iff.1 h1).1
      have hset : ∀ j, LS (l.setIfInBounds i true) j ↔ (LS l j ∨ j = i) := fun j => by
        unfold LS
        rw [getD_set l i j false (by omega)]
        by_cases e : i = j
        · subst e; simp
        · rw [if_neg e]
          exact ⟨.inl, fun h => h.resolve_right fun e' => e e'.symm⟩
      have hu : l.getD i true = false := by
        unfold LS at h2
        rw [getD_both (by omega) true false]
        simpa using h2
      have hcnt' : cntTo (l.setIfInBounds i true) ops.size = fuel := by
        have := cntTo_set (l := l) (i := i) (by omega) hu ops.size
        rw [if_pos hlt] at this
        omega
      have hL' : Clo ops (LS (l.setIfInBounds i true)) := fun j y hj hy e he hb => by
        rw [hset] at hy ⊢
        rcases hy with hy | rfl
        · exact .inl (hL j y hj hy e he hb)
        · rw [h1] at hj; simp only [Option.some.injEq] at hj; subst hj
          exact .inl (h3 e he hb)
      have go : ∀ a' q' m' φ' F' w', Inv P c fr ops R W φ0 F0 w0 (fun j => LS l j ∨ j = i) q' m' φ' F' w' a' → wpAny P .any ops Q fuel (l.setIfInBounds i true) a' w' := fun a' q' m' φ' F' w' h' =>
        any_sim hcall hen hW hR hd hQ fuel _ q' m' φ' F' a' w' (by simpa using hl) hL' hcnt' (h'.congr fun j => (hset j).symm)
      by_cases hc0 : cls c fr.fn o = 0
      · exact h.step0 hR hd hL h1 h3 h2 hc0 fun a' h' => go _ _ _ _ _ _ h'
      · by_cases hc2 : cls c fr.fn o = 2
        · exact h.step2 hcall hen hW hR hd hL h1 h3 h2 hc2 fun a' q' m' φ' F' w' h' => go _ _ _ _ _ _ h'
        · exact h.step1 hcall hen hR hd hL h1 h3 h2 hc2 hc0 fun a' φ' F' w' h' => go _ _ _ _ _ _ h'

theorem next2 (c : Cfg) (fr : Fr) (ops : Array Oper) (i : Nat) (hi : i ≤ ops.size) : ∃ m', i ≤ m' ∧ m' ≤ ops.size ∧ (∀ j y, ops[j]? = some y → i ≤ j → j < m' → cls c fr.fn y ≠ 2) ∧ (m' = ops.size ∨ ∃ y, ops[m']? = some y ∧ cls c fr.fn y = 2) := by
  have : ∀ k, i + k ≤ ops.size → (∀ j y, ops[j]? = some y → i ≤ j → j < i + k → cls c fr.fn y ≠ 2) → ∃ m', i ≤ m' ∧ m' ≤ ops.size ∧ (∀ j y, ops[j]? = some y → i ≤ j → j < m' → cls c fr.fn y ≠ 2) ∧ (m' = ops.size ∨ ∃ y, ops[m']? = some y ∧ cls c fr.fn y = 2) := by
    intro k
    generalize hr : ops.size - (i + k) = r
    induction r generalizing k with
    | zero => intro hk hn; exact ⟨i + k, by omega, hk, hn, .inl (by omega)⟩
    | succ r ih =>
      intro hk hn
      have hj := Array.getElem?_eq_getElem (show i + k < ops.size by omega)
      by_cases hcy : cls c fr.fn ops[i + k] = 2
      · exact ⟨i + k, by omega, hk, hn, .inr ⟨_, hj, hcy⟩⟩
      · refine ih (k + 1) (by omega) (by omega) fun j y hy h1 h2 => ?_
        by_cases e : j = i + k
        · subst e; rw [hj] at hy; simp only [Option.some.injEq] at hy; subst hy; exact hcy
        · exact hn j y hy h1 (by omega)
  exact this 0 (by omega) (fun j y _ h1 h2 => by omega)

theorem drawn_sim (hmix : P.follows .mixedOrders = true) (hcall : CallOk P c call) (hen : ∀ f args bs r, call f args bs = some r → Enter P f) (hW : ∀ id, W id ↔ (fr.ro = false ∨ fr.k ≤ id)) (hd : drOk c fr.fn fr.nt ops = true) {id : Nat} {st st' : St} {a : Act} {w : World}
    (h : opsD P c fr true call ops ops.toList st = some st') (hs : Sim fr W φ0 F0 w0 st a w) {Q : Exit → Act → World → Prop} (hQ : ∀ a' w', Sim fr W φ0 F0 w0 st' a' w' → Q .normal a' w') : (Code.region id ops true).wp P Q a w := by
  obtain ⟨R, r0, rn, hR⟩ := opsD_trace h
  have hR : Trace P c fr call ops R := fun i o ho => hR i o (by rw [Array.getElem?_toList]; exact ho)
  have hd := drOk_spec hd
  obtain ⟨φ, F, hs, he⟩ := hs
  have hb : Below w.heap.size w { w with drawn := w.drawn + 1 } := ⟨rfl, rfl, rfl, Nat.le_refl _, fun _ _ => rfl⟩
  have hm := hs.mem.below hb
  have hno : ∀ j, ¬ LS (Array.replicate ops.size false) j := fun j hj => by
    unfold LS at hj
    rw [Array.getD_eq_getD_getElem?, Array.getElem?_replicate] at hj
    split at hj <;> simp at hj
  obtain ⟨m, _, hm2, hm3, hm4⟩ := next2 c fr ops 0 (Nat.zero_le _)
  have hcut : ∀ k, st.nx ≤ k → cutP φ k = φ := fun k hk => by
    funext id
    unfold cutP
    split
    · rfl
    · exact (hs.mem.fresh id (by omega)).symm
  have hlt : ∀ id x, φ id = some x → id < st.nx := fun id x hx => by
    rcases Nat.lt_or_ge id st.nx with h1 | h1
    · exact h1
    · rw [hs.mem.fresh id h1] at hx; cases hx
  have ag : ∀ id, id < st.nx → rdH (R m).hp id = rdH st.hp id := fun id hid => by
    rw [← r0] at hid ⊢
    exact hR.agree (Nat.zero_le _) hm2 hm3 id hid
  have hinv : Inv P c fr ops R W φ0 F0 w0 (LS (Array.replicate ops.size false)) 0 m φ F { w with drawn := w.drawn + 1 } a := {
    qm := Nat.zero_le _, mn := hm2
    a1 := fun j o _ hj _ => by omega
    a2 := hm3
    a3 := fun j o _ _ _ => hno j
    a4 := hm4
    tx := fun j o t _ hl _ => absurd hl (hno j)
    t0 := fun t _ => by
      rw [r0, hcut _ (Nat.le_refl _)]
      exact (hs.tm t).mono (fun _ _ h => h) (fun _ _ h => h) (hs.mem.cells_of hb)
    nt := hs.nt, df := hs.df
    blk := fun id b c' z hid hl j _ h2 h3 => by
      rw [hcut _ (by rw [← r0]; exact hR.nx (Nat.zero_le _) (by omega))]
      rw [ag id (hlt id _ hid)] at hl ⊢
      exact hm.blk id b c' z hid hl
    rw := fun id b c' z hid hl => by
      rw [ag id (hlt id _ hid)] at hl
      exact hm.rw id b c' z hid hl
    tip := fun id b c' z hid hl => by
      rw [ag id (hlt id _ hid)] at hl ⊢
      exact hm.tip id b c' z hid hl
    inj := fun id id' b c1 z1 c2 z2 h1 h2 l1 l2 => by
      rw [ag id (hlt id _ h1)] at l1
      rw [ag id' (hlt id' _ h2)] at l2
      exact hm.inj id id' b c1 z1 c2 z2 h1 h2 l1 l2
    Fb := hm.Fb, pb := hm.pb
    sep := fun id id' b c1 z1 c2 z2 j _ x2 _ h2 _ h4 => by
      have := hlt id' _ x2
      have := hR.nx (Nat.zero_le j) (by omega)
      rw [r0] at this
      omega
    dom := fun id x hid => .inl (by rw [r0]; exact hlt id x hid)
    ext := he.trans (hs.mem.ext_below hb fr.k)
    k := by rw [r0]; exact hs.k }
  exact wp_region_any hmix (any_sim hcall hen hW hR hd (fun a w hx => hQ a w (by rw [← rn, Array.length_toList]; exact hx)) ops.size _ 0 m φ F a _ (by simp) (fun j o _ hl => absurd hl (hno j)) (cntTo_repl _ _ (Nat.le_refl _)) hinv)

end
end Vm
end Go.Proofs.YtffgjmfkkfinlaaGreat

/-
  At a loop's head names are made anew, and what no longer lives is forgotten; slices are locked ahead.
-/
namespace Go.Proofs.YtffgjmfkkfinlaaGreat
namespace Vm
open Go Go.RowKit

theorem nm_mem : ∀ {ρ : List (Nat × Nat)} {id y : Nat}, nm ρ id = some y → (id, y) ∈ ρ
  | [], id, y, h => by simp [nm] at h
  | (i, v) :: m, id, y, h => by
    simp only [nm] at h
    split at h
    · rename_i e; simp only [Option.some.injEq] at h; subst e; subst h; simp
    · exact List.mem_cons_of_mem _ (nm_mem h)

theorem dist_inj : ∀ {ρ : List (Nat × Nat)}, dist ρ = true → ∀ {i i' y : Nat}, (i, y) ∈ ρ → (i', y) ∈ ρ → i = i'
  | [], _, i, i', y, h, _ => by simp at h
  | (j, x) :: r, hd, i, i', y, h, h' => by
    simp only [dist, Bool.and_eq_true, Bool.not_eq_true'] at hd
    have hno : ∀ i0, (i0, x) ∉ r := fun i0 hi => by
      have : has (r.map (·.2)) x = true := has_iff.2 (List.mem_map.2 ⟨(i0, x), hi, rfl⟩)
      rw [hd.1] at this; cases this
    simp only [List.mem_cons, Prod.mk.injEq] at h h'
    rcases h with ⟨rfl, rfl⟩ | h <;> rcases h' with ⟨rfl, h'⟩ | h'
    · rfl
    · exact absurd h' (hno _)
    · subst h'; exact absurd h (hno _)
    · exact dist_inj hd.2 h h'

theorem inb_lt {n : Nat} : ∀ {ρ : List (Nat × Nat)}, inb n ρ = true → ∀ {i y : Nat}, (i, y) ∈ ρ → y < n
  | [], _, i, y, h => by simp at h
  | (j, x) :: r, hd, i, y, h => by
    simp only [inb, Bool.and_eq_true] at hd
    simp only [List.mem_cons, Prod.mk.injEq] at h
    rcases h with ⟨rfl, rfl⟩ | h
    · simpa using hd.1
    · exact inb_lt hd.2 h

theorem nameOf_ge {k id : Nat} : ∀ {vals : List (Nat × D)} {x : Nat}, nameOf k vals id = some x → k ≤ x
  | [], x, h => by simp [nameOf] at h
  | (t, v) :: r, x, h => by
    simp only [nameOf] at h
    split at h
    · split at h
      · simp only [Option.some.injEq] at h; omega
      · exact nameOf_ge h
    · exact nameOf_ge h

theorem names_mem {k : Nat} {vals : List (Nat × D)} : ∀ {l : List Nat} {j : Nat}, k ≤ j → ∀ {id y : Nat}, (id, y) ∈ names k vals j l → id ∈ l ∧ ((id < k ∧ y = id) ∨ (k ≤ id ∧ k ≤ y))
  | [], j, _, id, y, h => by simp [names] at h
  | i :: r, j, hj, id, y, h => by
    simp only [names] at h
    split at h
    · rename_i hlt
      simp only [List.mem_cons, Prod.mk.injEq] at h
      rcases h with ⟨rfl, rfl⟩ | h
      · exact ⟨by simp, .inl ⟨hlt, rfl⟩⟩
      · have := names_mem hj h; exact ⟨List.mem_cons_of_mem _ this.1, this.2⟩
    · rename_i hge
      split at h
      · rename_i x hx
        simp only [List.mem_cons, Prod.mk.injEq] at h
        rcases h with ⟨rfl, rfl⟩ | h
        · exact ⟨by simp, .inr ⟨by omega, nameOf_ge hx⟩⟩
        · have := names_mem hj h; exact ⟨List.mem_cons_of_mem _ this.1, this.2⟩
      · simp only [List.mem_cons, Prod.mk.injEq] at h
        rcases h with ⟨rfl, rfl⟩ | h
        · exact ⟨by simp, .inr ⟨by omega, hj⟩⟩
        · have := names_mem (Nat.le_succ_of_le hj) h; exact ⟨List.mem_cons_of_mem _ this.1, this.2⟩

theorem rdH_heapOf {ρ : List (Nat × Nat)} {hp : List (Nat × Blk)} (hinj : ∀ i j x, nm ρ i = some x → nm ρ j = some x → i = j) : ∀ (ids : List Nat) (y : Nat),
    (∀ id, id ∈ ids → nm ρ id = some y → rdH (heapOf ρ hp ids) y = renB ρ (rdH hp id)) ∧ ((∀ id, id ∈ ids → nm ρ id ≠ some y) → rdH (heapOf ρ hp ids) y = noBlk)
  | [], y => ⟨fun id h => by simp at h, fun _ => rfl⟩
  | i :: r, y => by
    have ih := rdH_heapOf (hp := hp) hinj r y
    simp only [heapOf]
    cases hi : nm ρ i with
    | none =>
      refine ⟨fun id hid hy => ?_, fun h => ih.2 fun id hid => h id (List.mem_cons_of_mem _ hid)⟩
      simp only [List.mem_cons] at hid
      rcases hid with rfl | hid
      · rw [hi] at hy; cases hy
      · exact ih.1 id hid hy
    | some x =>
      by_cases e : x = y
      · subst e
        refine ⟨fun id hid hy => ?_, fun h => absurd hi (h i (by simp))⟩
        rw [rdH_cons_same, hinj _ _ _ hy hi]
      · refine ⟨fun id hid hy => ?_, fun h => ?_⟩
        · rw [rdH_cons_other _ _ e]
          simp only [List.mem_cons] at hid
          rcases hid with rfl | hid
          · rw [hi] at hy; simp only [Option.some.injEq] at hy; exact absurd hy e
          · exact ih.1 id hid hy
        · rw [rdH_cons_other _ _ e]
          exact ih.2 fun id hid => h id (List.mem_cons_of_mem _ hid)

theorem rdT_norm {tm : List (Nat × D)} {ρ : List (Nat × Nat)} {t : Nat} : ∀ {L : List Nat}, rdT ((pick tm L).map fun (t, v) => (t, ren ρ v)) t = .u ∨ rdT ((pick tm L).map fun (t, v) => (t, ren ρ v)) t = ren ρ (rdT tm t)
  | [] => .inl rfl
  | x :: L => by
    simp only [pick, List.map_cons, rdT]
    by_cases e : x = t
    · subst e; right; simp
    · rw [if_neg e]; exact rdT_norm

section
variable {P : Program} {W : Nat → Prop} {φ : Ph} {F : Fz} {w : World}

theorem norm_sim {fr : Fr} (hW : ∀ id, W id ↔ (fr.ro = false ∨ fr.k ≤ id)) {φ0 : Ph} {F0 : Fz} {w0 : World} {L : List Nat} {st st' : St} {a : Act} (h : norm fr L st = some st') (hs : Sim fr W φ0 F0 w0 st a w) : Sim fr W φ0 F0 w0 st' a w := by
  obtain ⟨φ, F, hs, he⟩ := hs
  unfold norm at h
  dsimp only at h
  generalize hids : reach st.hp fuel (upto fr.k 0 ++ refsLL ((pick st.tm L).map (·.2))) [] = ids at h
  split at h
  · rename_i hd
    simp only [Bool.and_eq_true] at hd
    simp only [Option.some.injEq] at h
    subst h
    have hlive : ∀ id ∈ ids, (rdH st.hp id).md < 2 := by
      rw [← hids]
      exact (reach_spec st.hp fuel _ [] List.nodup_nil (fun x hx => by simp at hx)).2
    obtain ⟨ρ, hρ⟩ : ∃ ρ, ρ = names fr.k (pick st.tm L) (fr.k + fr.nt) ids := ⟨_, rfl⟩
    rw [← hρ] at hd ⊢
    have hmem : ∀ {id y}, nm ρ id = some y → id ∈ ids ∧ ((id < fr.k ∧ y = id) ∨ (fr.k ≤ id ∧ fr.k ≤ y)) := fun hy => by
      have := nm_mem hy
      rw [hρ] at this
      exact names_mem (Nat.le_add_right _ _) this
    have hinj : ∀ i j x, nm ρ i = some x → nm ρ j = some x → i = j := fun i j x hi hj => dist_inj hd.1 (nm_mem hi) (nm_mem hj)
    have hbd : ∀ {id y}, nm ρ id = some y → y < fr.k + fr.nt + ids.length := fun hy => inb_lt hd.2 (nm_mem hy)
    obtain ⟨φ', hφ'⟩ : ∃ φ' : Ph, φ' = fun y => if y < fr.k then φ y else (ids.find? fun id => nm ρ id == some y).bind φ := ⟨_, rfl⟩
    have hA : Agree φ ρ φ' := by
      intro id x y hx hy
      rcases (hmem hy).2 with ⟨h1, h2⟩ | ⟨h1, h2⟩
      · subst h2; rw [hφ']; simp only; rw [if_pos h1]; exact hx
      · rw [hφ']
        simp only
        rw [if_neg (by omega)]
        cases hf : ids.find? fun id => nm ρ id == some y with
        | none =>
          have := List.find?_eq_none.1 hf id (hmem hy).1
          simp [hy] at this
        | some id' =>
          have := List.find?_some hf
          simp only [beq_iff_eq] at this
          rw [hinj _ _ _ this hy]; exact hx
    have hback : ∀ {y x}, φ' y = some x → (y < fr.k ∧ φ y = some x) ∨ (fr.k ≤ y ∧ ∃ id, fr.k ≤ id ∧ nm ρ id = some y ∧ φ id = some x) := by
      intro y x hx
      rw [hφ'] at hx
      simp only at hx
      split at hx
      · rename_i hlt; exact .inl ⟨hlt, hx⟩
      · rename_i hge
        cases hf : ids.find? fun id => nm ρ id == some y with
        | none => rw [hf] at hx; cases hx
        | some id' =>
          rw [hf] at hx
          have := List.find?_some hf
          simp only [beq_iff_eq] at this
          rcases (hmem this).2 with ⟨h1, h2⟩ | ⟨h1, h2⟩
          · omega
          · exact .inr ⟨by omega, id', h1, this, hx⟩
    have hH := rdH_heapOf (ρ := ρ) (hp := st.hp) hinj ids
    -- what lives there has a name from before
    have hlv : ∀ {y x}, φ' y = some x → (rdH (heapOf ρ st.hp ids) y).md < 2 → ∃ id, nm ρ id = some y ∧ φ id = some x ∧ rdH (heapOf ρ st.hp ids) y = renB ρ (rdH st.hp id) ∧ (rdH st.hp id).md < 2 := by
      intro y x hx hl
      have key : ∀ id, nm ρ id = some y → rdH (heapOf ρ st.hp ids) y = renB ρ (rdH st.hp id) := fun id hy => (hH y).1 id (hmem hy).1 hy
      have hex : ∃ id, id ∈ ids ∧ nm ρ id = some y := by
        refine Classical.byContradiction fun hno => ?_
        rw [(hH y).2 fun id hid hy => hno ⟨id, hid, hy⟩] at hl
        simp [noBlk] at hl
      obtain ⟨id, hid, hy⟩ := hex
      refine ⟨id, hy, ?_, key id hy, hlive id hid⟩
      rcases hback hx with ⟨h1, h2⟩ | ⟨h1, id', h2, h3, h4⟩
      · rcases (hmem hy).2 with ⟨_, e⟩ | ⟨_, e⟩
        · rw [← e]; exact h2
        · omega
      · rw [hinj _ _ _ hy h3]; exact h4
    refine ⟨φ', F, ⟨fun t => ?_, hs.nt, hs.df, ?_, by simp only; omega⟩, he.trans ⟨rfl, rfl, rfl, Nat.le_refl _, fun id hid => ?_, fun y b c z hy => ?_, fun _ _ h => h, fun _ _ _ => rfl, fun _ _ _ => rfl, fun _ _ h => .inl h⟩⟩
    · rcases rdT_norm (tm := st.tm) (ρ := ρ) (t := t) (L := L) with e | e
      · rw [e]; exact .u _
      · rw [e]; exact ren_rel hA (hs.tm t)
    · refine ⟨fun y b c z hy hl => ?_, fun y b c z hy hl => ?_, fun y b c z hy hl ha => ?_, fun y y' b c z c' z' hy hy' hl hl' => ?_, fun y hy => ?_, hs.mem.Fb, fun y b c z hy => ?_⟩
      · obtain ⟨id, _, h2, h3, h4⟩ := hlv hy hl
        rw [h3]; exact (hs.mem.blk id b c z h2 h4).ren hA
      · obtain ⟨id, _, h2, h3, h4⟩ := hlv hy (by simp only at hl ⊢; omega)
        simp only at hl
        rw [h3, renB_md] at hl
        exact hs.mem.rw id b c z h2 hl
      · obtain ⟨id, _, h2, h3, h4⟩ := hlv hy hl
        simp only at ha ⊢
        rw [h3, renB_arr] at ha
        rw [h3, renB_len]
        exact hs.mem.tip id b c z h2 h4 ha
      · obtain ⟨id, h1, h2, h3, h4⟩ := hlv hy hl
        obtain ⟨id', h1', h2', h3', h4'⟩ := hlv hy' hl'
        have := hs.mem.inj id id' b c z c' z' h2 h2' h4 h4'
        subst this
        rw [h1] at h1'; simpa using h1'
      · cases hx : φ' y with
        | none => rfl
        | some x =>
          rcases hback hx with ⟨h1, _⟩ | ⟨_, id, _, h3, _⟩
          · simp only at hy; omega
          · have := hbd h3; simp only at hy; omega
      · rcases hback hy with ⟨_, h2⟩ | ⟨_, id, _, _, h4⟩
        · exact hs.mem.pb y b c z h2
        · exact hs.mem.pb id b c z h4
    · rw [hφ']; simp only; rw [if_pos hid]
    · rcases hback hy with ⟨_, h2⟩ | ⟨_, id, h2, _, h4⟩
      · exact .inr ⟨y, c, z, h2, fun x => x⟩
      · exact .inr ⟨id, c, z, h4, fun _ => (hW id).2 (.inr h2)⟩
  · cases h

/-- A variable's cells are no longer written. -/
theorem MR.lockP {φ : Ph} {F : Fz} {w : World} {hp : List (Nat × Blk)} {nx id b c z n : Nat} (hm : MR φ F w hp nx) (hid : φ id = some (b, c, z)) (hl : (rdH hp id).md < 2) (B : Blk) (hB : B.md = 2) :
    MR φ (fun b' o => F b' o ∨ (b' = b ∧ o < n)) w ((id, B) :: hp) nx where
  blk := fun i b' c' z' hi hli => by
    by_cases e : i = id
    · subst e; rw [rdH_cons_same] at hli; omega
    · rw [rdH_cons_other _ _ (fun x => e x.symm)] at hli ⊢
      exact (hm.blk i b' c' z' hi hli).keep rfl (fun _ _ h => h) (fun _ _ h => .inl h) (fun _ _ _ => rfl)
  rw := fun i b' c' z' hi hli o hf => by
    by_cases e : i = id
    · subst e; rw [rdH_cons_same] at hli; omega
    · rw [rdH_cons_other _ _ (fun x => e x.symm)] at hli
      rcases hf with hf | ⟨rfl, _⟩
      · exact hm.rw i b' c' z' hi hli o hf
      · exact e (hm.inj i id _ _ _ _ _ hi hid (by omega) hl)
  tip := fun i b' c' z' hi hli ha o ho hf => by
    by_cases e : i = id
    · subst e; rw [rdH_cons_same] at hli; omega
    · rw [rdH_cons_other _ _ (fun x => e x.symm)] at hli ha ho
      rcases hf with hf | ⟨rfl, _⟩
      · exact hm.tip i b' c' z' hi hli ha o ho hf
      · exact e (hm.inj i id _ _ _ _ _ hi hid hli hl)
  inj := fun i j b' c1 z1 c2 z2 h1 h2 l1 l2 => by
    by_cases e : i = id
    · subst e; rw [rdH_cons_same] at l1; omega
    by_cases e' : j = id
    · subst e'; rw [rdH_cons_same] at l2; omega
    rw [rdH_cons_other _ _ (fun x => e x.symm)] at l1
    rw [rdH_cons_other _ _ (fun x => e' x.symm)] at l2
    exact hm.inj i j b' c1 z1 c2 z2 h1 h2 l1 l2
  fresh := hm.fresh
  Fb := fun b' o hf => by
    rcases hf with hf | ⟨rfl, _⟩
    · exact hm.Fb _ _ hf
    · exact hm.pb _ _ _ _ hid
  pb := hm.pb

theorem lockV_sim {fr : Fr} {φ0 : Ph} {F0 : Fz} {w0 : World} {a : Act} {st st' : St} {t : Nat} (h : lockV st t = some st') (hs : Sim fr W φ0 F0 w0 st a w) : Sim fr W φ0 F0 w0 st' a w := by
  obtain ⟨φ, F, hs, he⟩ := hs
  have gen : ∀ d, d = rdT st.tm t → (match frz false st.hp d with | some (_, hp) => some ({ st with hp := hp } : St) | none => none) = some st' → Sim fr W φ0 F0 w0 st' a w := by
    intro d hd h
    split at h
    · rename_i d' hp hf
      simp only [Option.some.injEq] at h
      subst h
      rw [hd] at hf
      obtain ⟨F', hk, _⟩ := frz_sim (W := W) hs.mem hf (hs.tm t)
      exact ⟨φ, F', ⟨hs.tm.mono (fun _ _ h => h) hk.2.1 (fun _ _ _ => rfl), hs.nt, hs.df, hk.1, hs.k⟩, he.trans (hk.2.2 fr.k)⟩
    · cases h
  unfold lockV at h
  split at h
  · rename_i id hd
    split at h
    · rename_i hc
      obtain ⟨hpu, hmd⟩ := hc
      split at h
      · rename_i cs hcs
        simp only [Option.some.injEq] at h
        subst h
        have ht := hs.tm t
        rw [hd] at ht
        generalize hv : a.tmps.getD t undef = v at ht
        cases ht with
        | pure hp => cases hp
        | p _ _ _ b c z hid =>
          have hB := hs.mem.blk id b c z hid hmd
          have hm2 := hs.mem.lockP (n := cs.length) hid hmd ({ rdH st.hp id with md := 2 }) rfl
          have hx : Ext fr.k W φ F w φ (fun b' o => F b' o ∨ (b' = b ∧ o < cs.length)) w := MR.ext_lock hid fr.k
          refine ⟨φ, _, ⟨?_, hs.nt, hs.df, hm2, hs.k⟩, he.trans hx⟩
          intro t'
          by_cases e : t = t'
          · subst e
            rw [hv]
            simp only [rdT, if_true]
            refine .pure (.q cs ⟨b, 0 * z + 0, none⟩ (fun j => (cellAt w b j).getD undef) (fun _ => rfl) (fun j d hj => ?_) (fun j d hj => ?_) (fun j d hj => ?_) (fun j d hj => ?_))
            · refine .inr ⟨rfl, ?_⟩
              have := (List.getElem?_eq_some_iff.1 hj).1
              simp only; omega
            · obtain ⟨v, h1, _, _⟩ := hB.cell 0 cs j d hcs hj
              rw [Nat.zero_mul, Nat.zero_add] at h1
              simp only [Nat.zero_mul, Nat.zero_add, h1, Option.getD_some]
            · obtain ⟨v, h1, h2, _⟩ := hB.cell 0 cs j d hcs hj
              rw [Nat.zero_mul, Nat.zero_add] at h1
              simp only [h1, Option.getD_some]; exact h2
            · obtain ⟨v, h1, _, h3⟩ := hB.cell 0 cs j d hcs hj
              rw [Nat.zero_mul, Nat.zero_add] at h1
              simp only [h1, Option.getD_some]
              exact (vrel_pure (hB.pu hpu 0 cs j d hcs hj) h3).mono (fun _ _ h => .inl h) (fun _ _ _ => rfl)
          · have := (hs.tm t').mono (fun _ _ h => h) (fun b' o (h : F b' o) => (Or.inl h : F b' o ∨ (b' = b ∧ o < cs.length))) (fun _ _ _ => rfl)
            simpa only [rdT, e, if_false] using this
      · cases h
    · cases h
  · exact gen _ rfl h
theorem lockD_sim {fr : Fr} {φ0 : Ph} {F0 : Fz} {w0 : World} {a : Act} : ∀ {l : List Nat} {st st' : St}, lockD l st = some st' → Sim fr W φ0 F0 w0 st a w → Sim fr W φ0 F0 w0 st' a w
  | [], st, st', h, hs => by simp only [lockD, Option.some.injEq] at h; subst h; exact hs
  | t :: l, st, st', h, hs => by
    simp only [lockD] at h
    split at h
    · rename_i st1 h1
      exact lockD_sim h (lockV_sim h1 hs)
    · cases h

end
end Vm
end Go.Proofs.YtffgjmfkkfinlaaGreat

/-
  A function's code, run by the machine of values and by the model.
-/
namespace Go.Proofs.YtffgjmfkkfinlaaGreat
namespace Vm
open Go Go.RowKit

def toExit : Ex → Exit
  | .normal => .normal
  | .exit id => .exit id
  | .goto l => .goto l
  | .ret => .ret

/-- What is looked through ahead: temporaries that there are; orders that are all alike. -/
def codeOk (c : Cfg) (fn nt : Nat) : Code → Bool
  | .region _ ops dr => ops.toList.all (dstOk nt) && (!dr || drOk c fn nt ops)
  | .seq a b => codeOk c fn nt a && codeOk c fn nt b
  | .cond _ a b => codeOk c fn nt a && codeOk c fn nt b
  | .block _ a => codeOk c fn nt a
  | .loop a => codeOk c fn nt a
  | .scope a => codeOk c fn nt a
  | _ => true

theorem codeOk_label {c : Cfg} {fn nt : Nat} : ∀ {body : Code} {l : Nat} {rest : Code}, codeOk c fn nt body = true → findLabel body l = some rest → codeOk c fn nt rest = true
  | .seq a b, l, rest, h, hf => by
    simp only [codeOk, Bool.and_eq_true] at h
    simp only [findLabel] at hf
    split at hf
    · rename_i r hr
      simp only [Option.some.injEq] at hf
      subst hf
      simp only [codeOk, Bool.and_eq_true]
      exact ⟨codeOk_label h.1 hr, h.2⟩
    · exact codeOk_label h.2 hf
  | .label l', l, rest, h, hf => by
    simp only [findLabel] at hf
    split at hf
    · simp only [Option.some.injEq] at hf; subst hf; rfl
    · cases hf
  | .skip, _, _, _, hf | .region .., _, _, _, hf | .cond .., _, _, _, hf | .block .., _, _, _, hf | .loop .., _, _, _, hf | .rangeFunc .., _, _, _, hf | .exit .., _, _, _, hf | .scope .., _, _, _, hf | .goto .., _, _, _, hf | .ret, _, _, _, hf | .refuse .., _, _, _, hf => by
    simp [findLabel] at hf

section
variable {P : Program} {c : Cfg} {fr : Fr} {call : Callee} {W : Nat → Prop} {φ0 : Ph} {F0 : Fz} {w0 : World}

/-- A run from a label of a scope on. -/
def FromLabel (P : Program) (body rest : Code) (Q : Exit → Act → World → Prop) (a : Act) (w : World) : Prop :=
  ∀ (b : Frame) (k : List Item) (cs : List Frame), ∃ e a' w', Q e a' w' ∧ Arrives P (lone (b.at a (.code rest :: .inScope body :: k)) cs w) b k cs e a' w'

def JumpOk (P : Program) (c : Cfg) (fr : Fr) (W : Nat → Prop) (φ0 : Ph) (F0 : Fz) (w0 : World) (jump : Code → Code → St → Option (Ex × St)) : Prop :=
  ∀ body rest st x st', jump body rest st = some (x, st') → codeOk c fr.fn fr.nt body = true → codeOk c fr.fn fr.nt rest = true → ∀ a w, Sim fr W φ0 F0 w0 st a w →
    FromLabel P body rest (fun e a' w' => e = toExit x ∧ Sim fr W φ0 F0 w0 st' a' w') a w

theorem headD_sim (hW : ∀ id, W id ↔ (fr.ro = false ∨ fr.k ≤ id)) {body : Code} {st st' : St} {a : Act} {w : World} (h : headD c fr body st = some st') (hs : Sim fr W φ0 F0 w0 st a w) : Sim fr W φ0 F0 w0 st' a w := by
  unfold headD at h
  split at h
  · exact norm_sim hW h hs
  · simp only [Option.some.injEq] at h; subst h; exact hs
theorem headJ_sim (hW : ∀ id, W id ↔ (fr.ro = false ∨ fr.k ≤ id)) {l : Nat} {st st' : St} {a : Act} {w : World} (h : headJ c fr l st = some st') (hs : Sim fr W φ0 F0 w0 st a w) : Sim fr W φ0 F0 w0 st' a w := by
  unfold headJ at h
  split at h
  · exact norm_sim hW h hs
  · simp only [Option.some.injEq] at h; subst h; exact hs

theorem iter_sim (hW : ∀ id, W id ↔ (fr.ro = false ∨ fr.k ≤ id)) {body : Code} {run : St → Option (Ex × St)}
    (hrun : ∀ st x st', run st = some (x, st') → ∀ a w, Sim fr W φ0 F0 w0 st a w → ∀ Q : Exit → Act → World → Prop, (∀ a' w', Sim fr W φ0 F0 w0 st' a' w' → Q (toExit x) a' w') → body.wp P Q a w) :
    ∀ (n : Nat) (st : St) (x : Ex) (st' : St), iter run (headD c fr body) n st = some (x, st') → ∀ a w, Sim fr W φ0 F0 w0 st a w → ∀ Q : Exit → Act → World → Prop, (∀ a' w', Sim fr W φ0 F0 w0 st' a' w' → Q (toExit x) a' w') → x ≠ .normal ∧ Code.rounds P body Q n a w
  | 0, st, x, st', h => by simp [iter] at h
  | n + 1, st, x, st', h => by
    intro a w hs Q hQ
    simp only [iter] at h
    split at h
    · cases h
    · rename_i st1 h1
      have hs1 := headD_sim hW h1 hs
      split at h
      · rename_i st2 h2
        rw [rounds_succ]
        refine ⟨?_, hrun st1 .normal st2 h2 a w hs1 _ fun a' w' hs2 => (iter_sim hW hrun n st2 x st' h a' w' hs2 Q hQ).2⟩
        -- a loop is left, not run through
        intro e
        subst e
        exact absurd rfl (iter_ne n st2 st' h)
      · rename_i hne
        rw [rounds_succ]
        have hx : x ≠ .normal := fun e => by subst e; exact hne st' h
        refine ⟨hx, hrun st1 x st' h a w hs1 _ fun a' w' hs2 => ?_⟩
        have := hQ a' w' hs2
        cases x with
        | normal => exact absurd rfl hx
        | _ => exact this
where
  iter_ne {run : St → Option (Ex × St)} {head : St → Option St} : ∀ (n : Nat) (st st' : St), iter run head n st = some (.normal, st') → Ex.normal ≠ Ex.normal
    | 0, st, st', h => by simp [iter] at h
    | n + 1, st, st', h => by
      simp only [iter] at h
      split at h
      · cases h
      · split at h
        · exact iter_ne n _ _ h
        · rename_i hne; exact absurd h (hne _)

theorem exec_sim (hmix : P.follows .mixedOrders = true) (hcall : CallOk P c call) (hen : ∀ f args bs r, call f args bs = some r → Enter P f) (hW : ∀ id, W id ↔ (fr.ro = false ∨ fr.k ≤ id)) {n : Nat} {jump : Code → Code → St → Option (Ex × St)} (hj : JumpOk P c fr W φ0 F0 w0 jump) :
    ∀ (code : Code) (st : St) (x : Ex) (st' : St), codeOk c fr.fn fr.nt code = true → exec P c fr call n jump code st = some (x, st') → ∀ a w, Sim fr W φ0 F0 w0 st a w → ∀ Q : Exit → Act → World → Prop, (∀ a' w', Sim fr W φ0 F0 w0 st' a' w' → Q (toExit x) a' w') → code.wp P Q a w
  | .skip, st, x, st', _, h, a, w, hs, Q, hQ => by
    simp only [exec, Option.some.injEq, Prod.mk.injEq] at h
    obtain ⟨rfl, rfl⟩ := h
    exact wp_skip (hQ a w hs)
  | .label l, st, x, st', _, h, a, w, hs, Q, hQ => by
    simp only [exec, Option.some.injEq, Prod.mk.injEq] at h
    obtain ⟨rfl, rfl⟩ := h
    exact wp_label (hQ a w hs)
  | .exit id, st, x, st', _, h, a, w, hs, Q, hQ => by
    simp only [exec, Option.some.injEq, Prod.mk.injEq] at h
    obtain ⟨rfl, rfl⟩ := h
    exact wp_exit (hQ a w hs)
  | .goto l, st, x, st', _, h, a, w, hs, Q, hQ => by
    simp only [exec, Option.some.injEq, Prod.mk.injEq] at h
    obtain ⟨rfl, rfl⟩ := h
    exact wp_goto (hQ a w hs)
  | .ret, st, x, st', _, h, a, w, hs, Q, hQ => by
    simp only [exec, Option.some.injEq, Prod.mk.injEq] at h
    obtain ⟨rfl, rfl⟩ := h
    exact wp_ret (hQ a w hs)
  | .region id ops dr, st, x, st', hok, h, a, w, hs, Q, hQ => by
    simp only [codeOk, Bool.and_eq_true, Bool.or_eq_true, Bool.not_eq_true'] at hok
    simp only [exec] at h
    split at h
    · rename_i st1 h1
      have hs1 := lockD_sim h1 hs
      split at h
      · rename_i st2 h2
        simp only [Option.some.injEq, Prod.mk.injEq] at h
        obtain ⟨rfl, rfl⟩ := h
        cases dr with
        | false =>
          refine wp_region ?_
          rw [List.range_eq_range']
          have := opsD_sim (Q := Q) hcall hen hW (fun o ho => List.all_eq_true.1 hok.1 o ho) ops.toList 0 st1 st2 a w (by simp) h2 hs1 hQ
          rw [Array.length_toList] at this
          exact this
        | true => exact drawn_sim hmix hcall hen hW (hok.2.resolve_left (by simp)) h2 hs1 hQ
      · cases h
    · cases h
  | .seq p q, st, x, st', hok, h, a, w, hs, Q, hQ => by
    simp only [codeOk, Bool.and_eq_true] at hok
    simp only [exec] at h
    refine wp_seq ?_
    split at h
    · rename_i st1 h1
      exact exec_sim hmix hcall hen hW hj p st .normal st1 hok.1 h1 a w hs _ fun a' w' hs1 => exec_sim hmix hcall hen hW hj q st1 x st' hok.2 h a' w' hs1 Q hQ
    · rename_i hne
      refine exec_sim hmix hcall hen hW hj p st x st' hok.1 h a w hs _ fun a' w' hs1 => ?_
      have := hQ a' w' hs1
      cases x with
      | normal => exact absurd h (hne _)
      | _ => exact this
  | .cond y p q, st, x, st', hok, h, a, w, hs, Q, hQ => by
    simp only [codeOk, Bool.and_eq_true] at hok
    simp only [exec] at h
    split at h
    · rename_i t ht
      have hv : a.eval y = .bool t := by
        obtain ⟨φ, F, hs, _⟩ := hs
        have := hs.tm.ev y
        rw [ht] at this
        exact vrel_s_inv this
      cases t with
      | true => exact wp_cond_true hv (exec_sim hmix hcall hen hW hj p st x st' hok.1 (by simpa using h) a w hs Q hQ)
      | false => exact wp_cond_false hv (exec_sim hmix hcall hen hW hj q st x st' hok.2 (by simpa using h) a w hs Q hQ)
    · cases h
  | .block id p, st, x, st', hok, h, a, w, hs, Q, hQ => by
    simp only [codeOk] at hok
    simp only [exec] at h
    refine wp_block ?_
    split at h
    · rename_i j st1 h1
      refine exec_sim hmix hcall hen hW hj p st (.exit j) st1 hok h1 a w hs _ fun a' w' hs1 => ?_
      simp only [toExit, Exit.inBlock]
      split at h
      · rename_i e
        simp only [Option.some.injEq, Prod.mk.injEq] at h
        obtain ⟨rfl, rfl⟩ := h
        rw [if_pos e]; exact hQ a' w' hs1
      · rename_i e
        simp only [Option.some.injEq, Prod.mk.injEq] at h
        obtain ⟨rfl, rfl⟩ := h
        rw [if_neg e]; exact hQ a' w' hs1
    · rename_i hne
      refine exec_sim hmix hcall hen hW hj p st x st' hok h a w hs _ fun a' w' hs1 => ?_
      have := hQ a' w' hs1
      cases x with
      | exit j => exact absurd h (hne _ _)
      | _ => exact this
  | .loop p, st, x, st', hok, h, a, w, hs, Q, hQ => by
    simp only [codeOk] at hok
    simp only [exec] at h
    exact wp_loop_rounds n (iter_sim hW (fun st x st' h a w hs Q hQ => exec_sim hmix hcall hen hW hj p st x st' hok h a w hs Q hQ) n st x st' h a w hs Q hQ).2
  | .scope p, st, x, st', hok, h, a, w, hs, Q, hQ => by
    simp only [codeOk] at hok
    simp only [exec] at h
    intro b k cs
    split at h
    · rename_i l st1 h1
      obtain ⟨e, a1, w1, ⟨rfl, hs1⟩, harr⟩ := exec_sim hmix hcall hen hW hj p st (.goto l) st1 hok h1 a w hs (fun e a' w' => e = .goto l ∧ Sim fr W φ0 F0 w0 st1 a' w') (fun a' w' hs1 => ⟨rfl, hs1⟩) b (.inScope p :: k) cs
      split at h
      · rename_i rest hf
        have hg : gotoIn l (.inScope p :: k) = some (.code rest :: .inScope p :: k) := by simp [gotoIn, hf]
        split at h
        · rename_i st2 h2
          obtain ⟨e, a2, w2, ⟨rfl, hs2⟩, harr2⟩ := hj p rest st2 x st' h hok (codeOk_label hok hf) a1 w1 (headJ_sim hW h2 hs1) b k cs
          exact ⟨_, a2, w2, hQ a2 w2 hs2, .of_steps (.head step_scope (harr _ hg)) harr2⟩
        · cases h
      · rename_i hf
        simp only [Option.some.injEq, Prod.mk.injEq] at h
        obtain ⟨rfl, rfl⟩ := h
        exact ⟨.goto l, a1, w1, hQ a1 w1 hs1, fun k' hk => .head step_scope (harr k' (by simp [gotoIn, hf, hk]))⟩
    · rename_i hne
      obtain ⟨e, a1, w1, ⟨rfl, hs1⟩, harr⟩ := exec_sim hmix hcall hen hW hj p st x st' hok h a w hs (fun e a' w' => e = toExit x ∧ Sim fr W φ0 F0 w0 st' a' w') (fun a' w' hs1 => ⟨rfl, hs1⟩) b (.inScope p :: k) cs
      cases x with
      | normal => exact ⟨.normal, a1, w1, hQ a1 w1 hs1, .head step_scope (Steps.trans harr (.one step_inScope))⟩
      | exit id => exact ⟨.exit id, a1, w1, hQ a1 w1 hs1, fun k' hk => .head step_scope (harr k' (by simp [exitTo, hk]))⟩
      | goto l => exact absurd h (hne _ _)
      | ret => exact ⟨.ret, a1, w1, hQ a1 w1 hs1, .of_steps (.one step_scope) harr⟩
  | .rangeFunc .., st, x, st', _, h, a, w, hs, Q, hQ => by simp [exec] at h
  | .refuse .., st, x, st', _, h, a, w, hs, Q, hQ => by simp [exec] at h

theorem jump_sim (hmix : P.follows .mixedOrders = true) (hcall : CallOk P c call) (hen : ∀ f args bs r, call f args bs = some r → Enter P f) (hW : ∀ id, W id ↔ (fr.ro = false ∨ fr.k ≤ id)) {n : Nat} :
    ∀ m, JumpOk P c fr W φ0 F0 w0 (jumpN P c fr call n m)
  | 0 => fun body rest st x st' h => by simp [jumpN] at h
  | m + 1 => fun p rest st x st' h hok hokr a w hs => by
    intro b k cs
    simp only [jumpN] at h
    split at h
    · rename_i l st1 h1
      obtain ⟨e, a1, w1, ⟨rfl, hs1⟩, harr⟩ := exec_sim hmix hcall hen hW (jump_sim hmix hcall hen hW m) rest st (.goto l) st1 hokr h1 a w hs (fun e a' w' => e = .goto l ∧ Sim fr W φ0 F0 w0 st1 a' w') (fun a' w' hs1 => ⟨rfl, hs1⟩) b (.inScope p :: k) cs
      split at h
      · rename_i rest' hf
        have hg : gotoIn l (.inScope p :: k) = some (.code rest' :: .inScope p :: k) := by simp [gotoIn, hf]
        split at h
        · rename_i st2 h2
          obtain ⟨e, a2, w2, hq, harr2⟩ := jump_sim hmix hcall hen hW m p rest' st2 x st' h hok (codeOk_label hok hf) a1 w1 (headJ_sim hW h2 hs1) b k cs
          exact ⟨e, a2, w2, hq, .of_steps (harr _ hg) harr2⟩
        · cases h
      · rename_i hf
        simp only [Option.some.injEq, Prod.mk.injEq] at h
        obtain ⟨rfl, rfl⟩ := h
        exact ⟨.goto l, a1, w1, ⟨rfl, hs1⟩, fun k' hk => harr k' (by simp [gotoIn, hf, hk])⟩
    · rename_i hne
      obtain ⟨e, a1, w1, ⟨rfl, hs1⟩, harr⟩ := exec_sim hmix hcall hen hW (jump_sim hmix hcall hen hW m) rest st x st' hokr h a w hs (fun e a' w' => e = toExit x ∧ Sim fr W φ0 F0 w0 st' a' w') (fun a' w' hs1 => ⟨rfl, hs1⟩) b (.inScope p :: k) cs
      cases x with
      | normal => exact ⟨.normal, a1, w1, ⟨rfl, hs1⟩, Steps.trans harr (.one step_inScope)⟩
      | exit id => exact ⟨.exit id, a1, w1, ⟨rfl, hs1⟩, fun k' hk => harr k' (by simp [exitTo, hk])⟩
      | goto l => exact absurd h (hne _ _)
      | ret => exact ⟨.ret, a1, w1, ⟨rfl, hs1⟩, harr⟩

end
end Vm
end Go.Proofs.YtffgjmfkkfinlaaGreat

/-
  What a function hands out; a function's call as a whole.
-/
namespace Go.Proofs.YtffgjmfkkfinlaaGreat
namespace Vm
open Go Go.RowKit

theorem upto_get : ∀ (n i j : Nat), (upto n i)[j]? = if j < n then some (i + j) else none
  | 0, i, j => by simp [upto]
  | n + 1, i, 0 => by simp [upto]
  | n + 1, i, j + 1 => by
    simp only [upto, List.getElem?_cons_succ, upto_get n (i + 1) j]
    by_cases h : j < n
    · rw [if_pos h, if_pos (by omega)]; congr 1; omega
    · rw [if_neg h, if_neg (by omega)]
theorem upto_len : ∀ (n i : Nat), (upto n i).length = n
  | 0, _ => rfl
  | n + 1, i => by simp [upto, upto_len n (i + 1)]
theorem upto_mem {n i x : Nat} (h : x ∈ upto n i) : i ≤ x ∧ x < i + n := by
  obtain ⟨j, hj⟩ := List.getElem?_of_mem h
  rw [upto_get] at hj
  split at hj
  · simp only [Option.some.injEq] at hj; omega
  · cases hj
theorem upto_nodup : ∀ (n i : Nat), (upto n i).Nodup
  | 0, _ => List.nodup_nil
  | n + 1, i => by
    simp only [upto, List.nodup_cons]
    exact ⟨fun h => by have := upto_mem h; omega, upto_nodup n (i + 1)⟩

theorem reach_pre (hp : List (Nat × Blk)) : ∀ (n : Nat) (todo seen : List Nat), seen.Nodup → (reach hp n todo seen).Nodup ∧ ∃ t, reach hp n todo seen = seen ++ t
  | 0, todo, seen, h1 => by unfold reach; exact ⟨h1, [], by simp⟩
  | n + 1, [], seen, h1 => by unfold reach; exact ⟨h1, [], by simp⟩
  | n + 1, x :: todo, seen, h1 => by
    unfold reach
    split
    · exact reach_pre hp n todo seen h1
    · rename_i hc
      simp only [Bool.or_eq_true, decide_eq_true_eq, not_or] at hc
      have hx : x ∉ seen := fun h => hc.1 (has_iff.2 h)
      obtain ⟨h2, t, ht⟩ := reach_pre hp n (todo ++ refsB (rdH hp x)) (seen ++ [x]) (by
        rw [List.nodup_append]
        refine ⟨h1, by simp, fun a ha b hb => ?_⟩
        simp at hb; subst hb
        exact fun e => hx (e ▸ ha))
      exact ⟨h2, [x] ++ t, by rw [ht, List.append_assoc]⟩

section
variable {P : Program} {W : Nat → Prop} {φ : Ph} {F : Fz} {w : World} {hp : List (Nat × Blk)} {nx : Nat}

theorem refsBs_known (hm : MR φ F w hp nx) : ∀ {l : List Nat} (_ : ∀ id ∈ l, ∃ x, φ id = some x), ∀ id ∈ refsBs hp l, ∃ x, φ id = some x
  | [], _, id, h => by simp [refsBs] at h
  | i :: l, hl, id, h => by
    have ih := refsBs_known hm (l := l) fun id hid => hl id (List.mem_cons_of_mem _ hid)
    simp only [refsBs] at h
    split at h
    · rename_i hlt
      rcases List.mem_append.1 h with h | h
      · obtain ⟨⟨b, c, z⟩, hx⟩ := hl i (by simp)
        exact refsB_known (hm.blk i b c z hx hlt) id h
      · exact ih id h
    · exact ih id h

theorem leave_sim {c : Cfg} {fr : Fr} (hW : ∀ id, W id ↔ (fr.ro = false ∨ fr.k ≤ id)) {st : St} (hm : MR φ F w st.hp st.nx) (hk : ∀ j, j < fr.k → ∃ x, φ j = some x) {res : List D} {us : List Value} (hr : LRel (VRel φ F w) res us) {res' : List D} {bs' : List Blk}
    (h : leave c fr st res = some (res', bs')) : ∃ φ' F', LRel (VRel φ' F' w) res' us ∧ Ext fr.k W φ F w φ' F' w ∧ MR φ' F' w (initH 0 bs') bs'.length ∧ fr.k ≤ bs'.length := by
  unfold leave at h
  split at h
  · cases h
  · rename_i res1 hp1 hf1
    obtain ⟨F1, hk1, hr1⟩ : ∃ F1, Lk W φ F w hp1 st.nx F1 ∧ LRel (VRel φ F1 w) res1 us := by
      split at hf1
      · simp only [Option.some.injEq, Prod.mk.injEq] at hf1; obtain ⟨rfl, rfl⟩ := hf1
        exact ⟨F, Lk.refl hm, hr⟩
      · exact frzGs_sim hm hf1 hr
    dsimp only at h
    have hu : ∀ x ∈ upto fr.k 0, ∃ y, φ x = some y := fun x hx => hk x (by have := upto_mem hx; omega)
    have hknown := reach_known hk1.1 fuel (refsBs hp1 (upto fr.k 0) ++ refsLL res1) (upto fr.k 0) (fun x hx => by
      rcases List.mem_append.1 hx with hx | hx
      · exact refsBs_known hk1.1 hu x hx
      · exact refsLL_known hr1 x hx) hu
    obtain ⟨hnd, t, hpre⟩ := reach_pre hp1 fuel (refsBs hp1 (upto fr.k 0) ++ refsLL res1) (upto fr.k 0) (upto_nodup _ _)
    generalize hids : reach hp1 fuel (refsBs hp1 (upto fr.k 0) ++ refsLL res1) (upto fr.k 0) = ids at *
    split at h
    · cases h
    · rename_i hp2 hf2
      obtain ⟨F2, hk2⟩ : ∃ F2, Lk W φ F1 w hp2 st.nx F2 := by
        split at hf2
        · simp only [Option.some.injEq] at hf2; subst hf2; exact ⟨F1, Lk.refl hk1.1⟩
        · exact frzBs_sim hk1.1 hknown hf2
      simp only [Option.some.injEq, Prod.mk.injEq] at h
      obtain ⟨rfl, rfl⟩ := h
      have hk12 := hk1.trans hk2
      have hA : Agree φ (pos 0 ids) (phC φ ids) := by
        intro id x y hx hy
        obtain ⟨m, rfl, hmm⟩ := nm_pos hy
        rw [Nat.zero_add, phC_get hmm]; exact hx
      have hget : ∀ j, j < fr.k → ids[j]? = some j := fun j hj => by
        rw [hpre, List.getElem?_append_left (by rw [upto_len]; exact hj), upto_get, if_pos hj, Nat.zero_add]
      have hover := hk2.1.over hnd
      have hlen : (ids.map fun id => renB (pos 0 ids) (rdH hp2 id)).length = ids.length := by simp
      refine ⟨phC φ ids, F2, hr1.map fun d v hd => ren_rel hA (hk2.vrel hd), (hk12.2.2 fr.k).trans ?_, by rw [hlen]; exact hover, ?_⟩
      · refine ⟨rfl, rfl, rfl, Nat.le_refl _, fun id hid => phC_get (hget id hid), fun j b c z hj => ?_, fun _ _ h => h, fun _ _ _ => rfl, fun _ _ _ => rfl, fun _ _ h => .inl h⟩
        obtain ⟨id, h1, h2, h3⟩ := phC_lt hj
        refine .inr ⟨id, c, z, h2, fun hWj => ?_⟩
        rw [hW] at hWj ⊢
        rcases hWj with h4 | h4
        · exact .inl h4
        · right
          rcases Nat.lt_or_ge id fr.k with h5 | h5
          · have := nd_inj hnd h1 (hget id h5); omega
          · exact h5
      · rw [hlen, hpre, List.length_append, upto_len]; omega

theorem resVars_sim (hm : MR φ F w hp nx) {st : St} (hst : st.hp = hp) {a : Act} (ht : TRel φ F w st.tm a) : ∀ {l : List ResultVar} {ds : List D}, resVars P st l = some ds →
    ∃ us, (l.mapM (fun (x : ResultVar) => match x with
      | .tmp t => pure (a.tmps.getD t undef)
      | .cell b t => do loadVar t (← asAddr (a.tmps.getD b undef)) : ResultVar → Sem Value)).run P w = .ok us w ∧ LRel (VRel φ F w) ds us
  | [], ds, h => by
    simp only [resVars, Option.some.injEq] at h
    subst h
    exact ⟨[], rfl, .nil⟩
  | x :: l, ds, h => by
    simp only [resVars] at h
    split at h
    · rename_i d ds' h1 h2
      simp only [Option.some.injEq] at h
      subst h
      obtain ⟨us, hrun, hl⟩ := resVars_sim hm hst ht h2
      have key : ∃ u, ((match x with
          | .tmp t => pure (a.tmps.getD t undef)
          | .cell b t => do loadVar t (← asAddr (a.tmps.getD b undef)) : Sem Value)).run P w = .ok u w ∧ VRel φ F w d u := by
        cases x with
        | tmp t =>
          simp only [resVar, Option.some.injEq] at h1
          subst h1
          exact ⟨_, rfl, ht t⟩
        | cell b t =>
          simp only [resVar] at h1
          split at h1
          · rename_i cs n hcs hn
            rw [hst] at hcs
            obtain ⟨ad, hv, hc⟩ := memAt_rel hm hcs (ht b)
            obtain ⟨v, hrun, hr⟩ := load_rel (P := P) hn h1 hc
            refine ⟨v, ?_, hr⟩
            simp only [hv, asAddr, pure_bind]
            simpa only [Instr.loadAt, Instr.sureAddr, pure_bind] using hrun
          · cases h1
      obtain ⟨u, hu, hur⟩ := key
      refine ⟨u :: us, ?_, .cons hur hl⟩
      rw [List.mapM_cons]
      simp only [Sem.run_bind, hu, Result.andThen_ok, hrun, Sem.run_pure]
    · cases h

theorem results_sim {fn : Func} (hm : MR φ F w hp nx) {st : St} (hst : st.hp = hp) {a : Act} (ht : TRel φ F w st.tm a) {ds : List D} (h : resVars P st fn.results.toList = some ds) :
    ∃ us, (results fn a.tmps).run P w = .ok (retV us) w ∧ LRel (VRel φ F w) ds us := by
  obtain ⟨us, hrun, hl⟩ := resVars_sim hm hst ht h
  refine ⟨us, ?_, hl⟩
  unfold results
  rw [Array.mapM_eq_mapM_toList]
  simp only [Sem.run_bind, map_eq_pure_bind]
  have : ∀ {f g : ResultVar → Sem Value}, (∀ x, f x = g x) → (fn.results.toList.mapM g).run P w = .ok us w → (fn.results.toList.mapM f).run P w = .ok us w := fun hfg hg => by
    rw [funext hfg]; exact hg
  rw [this (fun x => by cases x <;> rfl) hrun]
  simp only [Result.andThen_ok, Sem.run_pure]
  congr 1
  cases us with
  | nil => rfl
  | cons u us =>
    cases us with
    | nil => rfl
    | cons u2 us => simp [retV]

theorem rdT_initT : ∀ (ds : List D) (i t : Nat), rdT (initT i ds) t = if i ≤ t then (match ds[t - i]? with | some d => d | none => .u) else .u
  | [], i, t => by simp [initT, rdT]
  | d :: ds, i, t => by
    simp only [initT, rdT]
    by_cases e : i = t
    · subst e; simp
    · rw [if_neg e, rdT_initT ds (i + 1) t]
      by_cases h : i ≤ t
      · rw [if_pos h, if_pos (by omega)]
        have : t - i = (t - (i + 1)) + 1 := by omega
        rw [this, List.getElem?_cons_succ]
      · rw [if_neg h, if_neg (by omega)]

/-- A function that was looked through. -/
def funOk (P : Program) (c : Cfg) (f : Nat) : Bool := match P.funcs[f]? with
  | some fn => (match fn.body with
    | some code => !(fn.name == "runtime.NumGoroutine") && codeOk c f fn.ntmps code
    | none => false)
  | none => false

/-- What is said of functions whose texts are not gone through is so. -/
def OrcOk (P : Program) (c : Cfg) : Prop := CallOk P c c.orc ∧ ∀ f args bs r, c.orc f args bs = some r → Enter P f
theorem callN_enter {c : Cfg} (hok : ∀ f, c.ok f = true → funOk P c f = true) (horc : OrcOk P c) : ∀ (n f : Nat) (args : List D) (bs : List Blk) (r : List D × List Blk), callN P c n f args bs = some r → Enter P f
  | 0, f, args, bs, r, h => by simp [callN] at h
  | n + 1, f, args, bs, r, h => by
    unfold callN at h
    cases hof : c.ok f with
    | false => simp only [hof, Bool.not_false, if_true] at h; exact horc.2 f args bs r h
    | true =>
      have := hok f hof
      unfold funOk at this
      split at this
      · rename_i fn hfn
        split at this
        · rename_i code hb
          simp only [Bool.and_eq_true, Bool.not_eq_true'] at this
          exact ⟨fn, hfn, this.1, by rw [hb]; rfl⟩
        · cases this
      · cases this

theorem callN_ok {c : Cfg} (hmix : P.follows .mixedOrders = true) (hok : ∀ f, c.ok f = true → funOk P c f = true) (horc : OrcOk P c) : ∀ n, CallOk P c (callN P c n)
  | 0 => fun f args bs res bs' h => by simp [callN] at h
  | n + 1 => fun f args bs res bs' h φ F w vs hargs hm hknown => by
    have hcall := callN_ok hmix hok horc n
    have hen := callN_enter hok horc n
    unfold callN at h
    cases hof : c.ok f with
    | false => simp only [hof, Bool.not_false, if_true] at h; exact horc.1 f args bs res bs' h φ F w vs hargs hm hknown
    | true =>
      have hfo := hok f hof
      simp only [hof, Bool.not_true, Bool.false_eq_true, if_false] at h
      split at h
      · cases h
      · rename_i fn hfn
        split at h
        · cases h
        · rename_i code hb
          unfold funOk at hfo
          simp only [hfn, hb, Bool.and_eq_true] at hfo
          refine calls_of_wp hfn hb ?_
          have hW : ∀ id, WC c f bs.length id ↔ ((!c.wr f) = false ∨ bs.length ≤ id) := fun id => by simp [WC]
          have hs : Sim ⟨bs.length, fn.ntmps, f, !c.wr f⟩ (WC c f bs.length) φ F w { tm := initT 0 args, hp := initH 0 bs, nx := bs.length + fn.ntmps } { tmps := vs.toArray ++ Array.replicate (fn.ntmps - vs.toArray.size) undef, defers := [] } w := by
            refine ⟨φ, F, ⟨fun t => ?_, by simp; omega, rfl, ⟨hm.blk, hm.rw, hm.tip, hm.inj, fun id hid => hm.fresh id (by simp only at hid; omega), hm.Fb, hm.pb⟩, by simp⟩, Ext.refl _ _ _ _ _⟩
            simp only
            rw [rdT_initT, if_pos (Nat.zero_le _), Nat.sub_zero]
            cases ha : args[t]? with
            | none => exact .u _
            | some d =>
              obtain ⟨v, hv, hr⟩ := hargs.get ha
              simp only
              have : (vs.toArray ++ Array.replicate (fn.ntmps - vs.toArray.size) undef).getD t undef = v := by
                have hlt := (List.getElem?_eq_some_iff.1 hv).1
                rw [Array.getD_eq_getD_getElem?, Array.getElem?_append_left (by simpa using hlt), List.getElem?_toArray, hv]; rfl
              rw [this]; exact hr
          have hend : ∀ x st', exec P c ⟨bs.length, fn.ntmps, f, !c.wr f⟩ (callN P c n) n (jumpN P c ⟨bs.length, fn.ntmps, f, !c.wr f⟩ (callN P c n) n n) code { tm := initT 0 args, hp := initH 0 bs, nx := bs.length + fn.ntmps } = some (x, st') →
              (x = .normal ∨ x = .ret) → (match resVars P st' fn.results.toList with | some res => leave c ⟨bs.length, fn.ntmps, f, !c.wr f⟩ st' res | none => none) = some (res, bs') →
              code.wp P (bodyPost P fn fun e w' => ∃ φ' F' us, e = .returned (retV us) ∧ LRel (VRel φ' F' w') res us ∧ Ext bs.length (WC c f bs.length) φ F w φ' F' w' ∧ MR φ' F' w' (initH 0 bs') bs'.length ∧ bs.length ≤ bs'.length) { tmps := vs.toArray ++ Array.replicate (fn.ntmps - vs.toArray.size) undef, defers := [] } w := by
            intro x st' hx hxe hl
            split at hl
            · rename_i rs hrs
              refine exec_sim hmix hcall hen hW (jump_sim hmix hcall hen hW n) code _ x st' hfo.2 hx _ w hs _ fun a' w' hs' => ?_
              obtain ⟨φ1, F1, hsr, hext⟩ := hs'
              obtain ⟨us, hrun, hrel⟩ := results_sim (fn := fn) hsr.mem rfl hsr.tm hrs
              obtain ⟨φ2, F2, h1, h2, h3, h4⟩ := leave_sim (W := WC c f bs.length) hW hsr.mem (fun j hj => by
                obtain ⟨y, hy⟩ := hknown j hj
                exact ⟨y, by rw [hext.phi j hj]; exact hy⟩) hrel hl
              have : a'.defers = [] ∧ ∃ v, (results fn a'.tmps).run P w' = .ok v w' ∧ ∃ φ' F' us, Ending.returned v = .returned (retV us) ∧ LRel (VRel φ' F' w') res us ∧ Ext bs.length (WC c f bs.length) φ F w φ' F' w' ∧ MR φ' F' w' (initH 0 bs') bs'.length ∧ bs.length ≤ bs'.length :=
                ⟨hsr.df, _, hrun, φ2, F2, us, rfl, h1, hext.trans h2, h3, h4⟩
              rcases hxe with rfl | rfl <;> exact this
            · cases hl
          split at h
          · rename_i st' hx
            exact hend _ _ hx (.inl rfl) h
          · rename_i st' hx
            exact hend _ _ hx (.inr rfl) h
          · cases h

end
end Vm
end Go.Proofs.YtffgjmfkkfinlaaGreat

/-
  A law as a whole: where the machine of values gives true, the law returns true, and nothing that was is changed.
-/
namespace Go.Proofs.YtffgjmfkkfinlaaGreat
namespace Vm
open Go Go.RowKit

/-- What stands in memory ahead of a call is written by nobody. -/
def FzW (w : World) : Fz := fun b _ => b < w.heap.size
def ph0 : Ph := fun _ => none

theorem mr0 (w : World) : MR ph0 (FzW w) w (initH 0 []) 0 where
  blk := fun _ _ _ _ h => by cases h
  rw := fun _ _ _ _ h => by cases h
  tip := fun _ _ _ _ h => by cases h
  inj := fun _ _ _ _ _ _ _ h => by cases h
  fresh := fun _ _ => rfl
  Fb := fun _ _ h => h
  pb := fun _ _ _ _ h => by cases h

/-- Arguments that hold no address of the machine's. -/
def ARel (w : World) (args : List D) (vs : List Value) : Prop := LRel (PRel (FzW w) w) args vs

theorem ARel.rel {w : World} {args : List D} {vs : List Value} (h : LRel (VRel ph0 (FzW w) w) args vs) : LRel (VRel ph0 (FzW w) w) args vs := h

theorem law_calls {P : Program} {c : Cfg} (hmix : P.follows .mixedOrders = true) (hok : ∀ f, c.ok f = true → funOk P c f = true) (horc : OrcOk P c) {n f : Nat} {args : List D} {v : Value} {bs' : List Blk}
    (hrun : callN P c n f args [] = some ([.s v], bs')) {w : World} {vs : List Value} (hargs : LRel (VRel ph0 (FzW w) w) args vs) :
    Calls P f vs.toArray w fun e w' => e = .returned v ∧ Below w.heap.size w w' := by
  refine (callN_ok hmix hok horc n f args [] _ _ hrun ph0 (FzW w) w vs hargs (mr0 w) (fun j hj => by simp at hj)).mono ?_
  rintro e w' ⟨φ', F', us, rfl, hl, hext, _, _⟩
  obtain ⟨u, us', rfl, hu, ht⟩ := hl.head
  have := ht.of_nil
  subst this
  have := vrel_s_inv hu
  subst this
  exact ⟨rfl, hext.os, hext.tape, hext.output, hext.size, fun b hb => hext.other b hb fun id c z h => by cases h⟩

end Vm
end Go.Proofs.YtffgjmfkkfinlaaGreat

/-
  What is read of the arguments, as values of the machine of values.
-/
namespace Go.Proofs.YtffgjmfkkfinlaaGreat
namespace Vm
open Go Go.RowKit

/-- Types whose values are told by this: truths, numbers, strings, and slices, structs, pointers of such. -/
def tiles (P : Program) (total : Nat) : Nat → List Field → Bool
  | o, [] => Nat.beq o total
  | o, f :: fs => Nat.beq f.offset o && tiles P total (o + P.cellsOf f.type) fs
def dataT (P : Program) : Nat → TypeId → Bool
  | 0, _ => false
  | n + 1, t => match P.underlying t with
    | some .bool | some (.int _) | some .string => true
    | some (.slice e) => dataT P n e && Nat.blt 0 (P.cellsOf e)
    | some (.pointer e) => dataT P n e
    | some (.struct fs) => fs.toList.all (fun f => dataT P n f.type) && tiles P (P.cellsOf t) 0 fs.toList
    | _ => false

/-- A struct's cells, field by field. -/
def FitL (r : TypeId → List D → Prop) : List Field → List D → Prop
  | [], ds => ds = []
  | f :: fs, ds => ∃ p q, ds = p ++ q ∧ r f.type p ∧ FitL r fs q
/-- A type's cells. -/
def Fit (P : Program) : Nat → TypeId → List D → Prop
  | 0, _, _ => False
  | n + 1, t, ds => match P.underlying t with
    | some .bool => ∃ b, ds = [.s (.bool b)]
    | some (.int k) => ∃ x, ds = [.s (.int k x)] ∧ (Lit.int k x).wf = true
    | some .string => ∃ s, ds = [.s (.string s)]
    | some (.slice e) => ds = [nilS] ∨ ∃ es, ds = [.l none es] ∧ es.length ≤ maxLen ∧ ∀ x ∈ es, Fit P n e x
    | some (.pointer e) => ds = [.s (.pointer none)] ∨ ∃ cs, ds = [.q cs] ∧ Fit P n e cs
    | some (.struct fs) => FitL (Fit P n) fs.toList ds
    | _ => False

section
variable {H : Type} {enc : TypeId × Value → H} {P : Program} {w : World} {sp : Nat → Bool} {held : Bool}

theorem cell_spot {w : World} {a : Addr} {v : Value} (h : w.cell? a = some v) : a.spot = none ∧ cellAt w a.block a.off = some v ∧ a.block < w.heap.size := by
  have hs : a.spot = none := by
    unfold World.cell? at h
    split at h
    · split at h
      · cases h
      · rename_i hs; simpa using hs
    · cases h
  have h2 : cellAt w a.block a.off = some v := by
    unfold cellAt
    rw [← h]
    congr 1
    cases a; simp only at hs; subst hs; rfl
  exact ⟨hs, h2, cellAt_lt h2⟩

theorem fit_fields {n m : Nat} (ih : ∀ (t : TypeId) (cs : List Value) (x : DataW H × List MemPlace), DataW.trod enc P w 0 sp held n t cs = some x → dataT P m t = true → ∃ ds, LRel (PRel (FzW w) w) ds cs ∧ (∀ v ∈ cs, one v = true) ∧ Fit P m t ds) {cs : List Value} {total : Nat} (hlen : cs.length = total) :
    ∀ (fs : List Field) (o : Nat), tiles P total o fs = true → (∀ f ∈ fs, dataT P m f.type = true) → (∀ f ∈ fs, ∃ x, DataW.trod enc P w 0 sp held n f.type ((cs.drop f.offset).take (P.cellsOf f.type)) = some x) →
      ∃ ds, LRel (PRel (FzW w) w) ds (cs.drop o) ∧ (∀ v ∈ cs.drop o, one v = true) ∧ FitL (Fit P m) fs ds
  | [], o, ht, _, _ => by
    simp only [tiles] at ht
    have := Nat.eq_of_beq_eq_true ht
    rw [List.drop_eq_nil_of_le (by omega)]
    exact ⟨[], .nil, by simp, rfl⟩
  | f :: fs, o, ht, hd, hx => by
    simp only [tiles, Bool.and_eq_true] at ht
    have ho := Nat.eq_of_beq_eq_true ht.1
    obtain ⟨x, hx1⟩ := hx f (by simp)
    obtain ⟨ds1, h1, h2, h3⟩ := ih _ _ x hx1 (hd f (by simp))
    obtain ⟨ds2, g1, g2, g3⟩ := fit_fields ih hlen fs _ ht.2 (fun g hg => hd g (List.mem_cons_of_mem _ hg)) (fun g hg => hx g (List.mem_cons_of_mem _ hg))
    subst ho
    have e : cs.drop f.offset = (cs.drop f.offset).take (P.cellsOf f.type) ++ cs.drop (f.offset + P.cellsOf f.type) := by
      rw [← List.drop_drop, List.take_append_drop]
    refine ⟨ds1 ++ ds2, ?_, ?_, ds1, ds2, rfl, h3, g3⟩
    · rw [e]; exact h1.append g1
    · rw [e]
      intro v hv
      rcases List.mem_append.1 hv with hv | hv
      · exact h2 v hv
      · exact g2 v hv

theorem lrel_get_or {r : D → Value → Prop} {cs : List Value} (h : ∀ (i : Nat) (v : Value), cs[i]? = some v → ∃ d, r d v) : ∃ ds, LRel r ds cs := by
  induction cs with
  | nil => exact ⟨[], .nil⟩
  | cons v cs ih =>
    obtain ⟨d, hd⟩ := h 0 v rfl
    obtain ⟨ds, hds⟩ := ih fun i v hi => h (i + 1) v (by simpa using hi)
    exact ⟨d :: ds, .cons hd hds⟩

theorem addr_block (a : Addr) (j : Nat) : (a.add j).block = a.block := by
  unfold Addr.add; split <;> rfl
theorem addr_off (a : Addr) (j : Nat) : (a.add j).off = a.off + j := by
  unfold Addr.add; split
  · rename_i h; subst h; rfl
  · rfl
theorem addr_zero (a : Addr) : a.add 0 = a := by simp [Addr.add]

/-- A row of cells that is read. -/
theorem cells_rel {a : Addr} {n : Nat} {cs : List Value} (h : w.cells? 0 a n = some cs) (j : Nat) (v : Value) (hj : cs[j]? = some v) : cellAt w a.block (a.off + j) = some v ∧ a.block < w.heap.size ∧ (j = 0 → a.spot = none) := by
  obtain ⟨_, hl, hc⟩ := World.cells?_some h
  have hlt : j < n := by
    rw [← hl]
    exact (List.getElem?_eq_some_iff.1 hj).1
  have := hc j hlt
  rw [hj] at this
  obtain ⟨h1, h2, h3⟩ := cell_spot this
  rw [addr_block] at h2 h3
  rw [addr_off] at h2
  refine ⟨h2, h3, fun e => ?_⟩
  subst e
  rw [addr_zero] at h1
  exact h1

theorem fit_of_trod : ∀ (m n : Nat) (t : TypeId) (cs : List Value) (x : DataW H × List MemPlace), DataW.trod enc P w 0 sp held n t cs = some x → dataT P m t = true → ∃ ds, LRel (PRel (FzW w) w) ds cs ∧ (∀ v ∈ cs, one v = true) ∧ Fit P m t ds
  | 0, n, t, cs, x, h, hd => by simp [dataT] at hd
  | m + 1, 0, t, cs, x, h, hd => by simp [DataW.trod] at h
  | m + 1, n + 1, t, cs, x, h, hd => by
    have ih := fit_of_trod m n
    have one1 : ∀ {d : D} {v : Value}, PRel (FzW w) w d v → one v = true → LRel (PRel (FzW w) w) [d] [v] ∧ ∀ u ∈ [v], one u = true := fun h h1 => ⟨.cons h .nil, by simpa using h1⟩
    unfold DataW.trod at h
    cases hu : P.underlying t with
    | none => simp [dataT, hu] at hd
    | some ty =>
      cases ty <;> simp only [dataT, hu] at hd <;> try (cases hd; done)
      case bool =>
        simp only [hu] at h
        simp only [Fit, hu]
        split at h <;> rename_i heq <;> try (simp only [Option.some.injEq, reduceCtorEq] at heq; done)
        · obtain ⟨h1, h2⟩ := one1 (.s (.bool _)) rfl
          exact ⟨_, h1, h2, _, rfl⟩
        · cases h
      case int k =>
        simp only [hu] at h
        simp only [Fit, hu]
        split at h <;> rename_i heq <;> try (simp only [Option.some.injEq, reduceCtorEq] at heq; done)
        · simp only [Option.some.injEq, TypeDesc.int.injEq] at heq
          subst heq
          split at h
          · rename_i hc
            obtain ⟨rfl, hwf⟩ := hc
            obtain ⟨h1, h2⟩ := one1 (.s (.int _ _)) rfl
            exact ⟨_, h1, h2, _, rfl, hwf⟩
          · cases h
        · cases h
      case string =>
        simp only [hu] at h
        simp only [Fit, hu]
        split at h <;> rename_i heq <;> try (simp only [Option.some.injEq, reduceCtorEq] at heq; done)
        · obtain ⟨h1, h2⟩ := one1 (.s (.string _)) rfl
          exact ⟨_, h1, h2, _, rfl⟩
        · cases h
      case pointer e =>
        simp only [hu] at h
        simp only [Fit, hu]
        split at h <;> rename_i heq <;> try (simp only [Option.some.injEq, reduceCtorEq] at heq; done)
        · obtain ⟨h1, h2⟩ := one1 (.s (.pointer none)) rfl
          exact ⟨_, h1, h2, .inl rfl⟩
        · rename_i a
          simp only [Option.some.injEq, TypeDesc.pointer.injEq] at heq
          subst heq
          cases hc : w.cells? 0 a (P.cellsOf e) with
          | none => simp [hc] at h
          | some cs =>
            cases hx : DataW.trod enc P w 0 sp held n e cs with
            | none => simp [hc, hx] at h
            | some y =>
              obtain ⟨ds, h1, h2, h3⟩ := ih e cs y hx hd
              have hp : PRel (FzW w) w (.q ds) (.pointer (some a)) := by
                refine .q ds a (fun j => (cs[j]?).getD undef) (fun hne => ?_) (fun j d hj => ?_) (fun j d hj => ?_) (fun j d hj => ?_) (fun j d hj => ?_)
                · cases ds with
                  | nil => exact absurd rfl hne
                  | cons d ds =>
                    obtain ⟨v, hv, _⟩ := h1.get (j := 0) (d := d) rfl
                    exact (cells_rel hc 0 v hv).2.2 rfl
                · obtain ⟨v, hv, _⟩ := h1.get hj
                  exact (cells_rel hc j v hv).2.1
                · obtain ⟨v, hv, _⟩ := h1.get hj
                  rw [hv]; exact (cells_rel hc j v hv).1
                · obtain ⟨v, hv, _⟩ := h1.get hj
                  rw [hv]; exact h2 v (List.mem_of_getElem? hv)
                · obtain ⟨v, hv, hr⟩ := h1.get hj
                  rw [hv]; exact hr
              obtain ⟨g1, g2⟩ := one1 hp rfl
              exact ⟨_, g1, g2, .inr ⟨ds, rfl, h3⟩⟩
        · cases h
      case slice e =>
        simp only [Bool.and_eq_true] at hd
        have hz : 0 < P.cellsOf e := by simpa using hd.2
        simp only [hu] at h
        simp only [Fit, hu]
        split at h <;> rename_i heq <;> try (simp only [Option.some.injEq, reduceCtorEq] at heq; done)
        · obtain ⟨h1, h2⟩ := one1 (.s (.slice none 0 0)) rfl
          exact ⟨_, h1, h2, .inl rfl⟩
        · rename_i a len cap
          simp only [Option.some.injEq, TypeDesc.slice.injEq] at heq
          subst heq
          split at h
          · rename_i hb
            cases hm : (List.range len).mapM (fun i => (w.cells? 0 (a.add (i * P.cellsOf e)) (P.cellsOf e)).bind (DataW.trod enc P w 0 sp held n e)) with
            | none => simp [hm] at h
            | some elems =>
              -- each element
              have hel : ∀ i, i < len → ∃ cs ds, w.cells? 0 (a.add (i * P.cellsOf e)) (P.cellsOf e) = some cs ∧ LRel (PRel (FzW w) w) ds cs ∧ (∀ v ∈ cs, one v = true) ∧ Fit P m e ds := by
                intro i hi
                have := mapM_some_get hm i i (by simp [hi])
                have hlen := mapM_some_length hm
                rw [List.length_range] at hlen
                rw [List.getElem?_eq_getElem (by omega)] at this
                cases hc : w.cells? 0 (a.add (i * P.cellsOf e)) (P.cellsOf e) with
                | none => simp [hc] at this
                | some cs =>
                  simp only [hc, Option.bind_some] at this
                  obtain ⟨ds, h1, h2, h3⟩ := ih e cs _ this hd.1
                  exact ⟨cs, ds, rfl, h1, h2, h3⟩
              obtain ⟨css, hcss⟩ : ∃ css : Nat → List Value, ∀ i, i < len → ∃ ds, w.cells? 0 (a.add (i * P.cellsOf e)) (P.cellsOf e) = some (css i) ∧ LRel (PRel (FzW w) w) ds (css i) ∧ (∀ v ∈ css i, one v = true) ∧ Fit P m e ds := by
                refine ⟨fun i => if hi : i < len then (hel i hi).choose else [], fun i hi => ?_⟩
                simp only [hi, dif_pos]
                exact (hel i hi).choose_spec
              obtain ⟨dss, hdss⟩ : ∃ dss : Nat → List D, ∀ i, i < len → w.cells? 0 (a.add (i * P.cellsOf e)) (P.cellsOf e) = some (css i) ∧ LRel (PRel (FzW w) w) (dss i) (css i) ∧ (∀ v ∈ css i, one v = true) ∧ Fit P m e (dss i) := by
                refine ⟨fun i => if hi : i < len then (hcss i hi).choose else [], fun i hi => ?_⟩
                simp only [hi, dif_pos]
                exact (hcss i hi).choose_spec
              have get : ∀ (i : Nat) (x : List D), ((List.range len).map dss)[i]? = some x → i < len ∧ x = dss i := by
                intro i x hx
                rw [List.getElem?_map] at hx
                cases hr : (List.range len)[i]? with
                | none => rw [hr] at hx; cases hx
                | some k =>
                  rw [hr] at hx
                  simp only [Option.map_some, Option.some.injEq] at hx
                  obtain ⟨hlt, hk⟩ := List.getElem?_eq_some_iff.1 hr
                  simp only [List.length_range, List.getElem_range] at hlt hk
                  subst hk
                  exact ⟨hlt, hx.symm⟩
              have hp : PRel (FzW w) w (.l none ((List.range len).map dss)) (.slice (some a) ((List.range len).map dss).length cap) := by
                have base : ∀ (i : Nat) (x : List D) (j : Nat) (d : D), ((List.range len).map dss)[i]? = some x → x[j]? = some d → ∃ v, (css i)[j]? = some v ∧ PRel (FzW w) w d v ∧ one v = true ∧ cellAt w a.block (a.off + (i * P.cellsOf e + j)) = some v ∧ a.block < w.heap.size ∧ (i = 0 → j = 0 → a.spot = none) := by
                  intro i x j d hx hj
                  obtain ⟨hi, rfl⟩ := get i x hx
                  obtain ⟨hc, h1, h2, _⟩ := hdss i hi
                  obtain ⟨v, hv, hr⟩ := h1.get hj
                  obtain ⟨g1, g2, g3⟩ := cells_rel hc j v hv
                  rw [addr_block, addr_off, Nat.add_assoc] at g1
                  rw [addr_block] at g2
                  refine ⟨v, hv, hr, h2 v (List.mem_of_getElem? hv), g1, g2, fun hi0 hj0 => ?_⟩
                  subst hi0
                  have := g3 hj0
                  rw [Nat.zero_mul, addr_zero] at this
                  exact this
                refine .l none _ a cap (P.cellsOf e) (fun i j => ((css i)[j]?).getD undef) (by simp; exact hb.2.1) (fun k hk => by cases hk) (fun i x hx => ?_) (fun hne => ?_) (fun i x j d hx hj => ?_) (fun i x j d hx hj => ?_) (fun i x j d hx hj => ?_) (fun i x j d hx hj => ?_)
                · obtain ⟨hi, rfl⟩ := get i x hx
                  obtain ⟨hc, h1, _, _⟩ := hdss i hi
                  rw [← h1.1]
                  exact (World.cells?_some hc).2.1
                · have h0 : 0 < len := by
                    rcases Nat.eq_zero_or_pos len with h0 | h0
                    · subst h0; exact absurd rfl hne
                    · exact h0
                  obtain ⟨hc, h1, _, _⟩ := hdss 0 h0
                  have hlen : (dss 0).length = P.cellsOf e := by rw [← h1.1]; exact (World.cells?_some hc).2.1
                  have hg : ((List.range len).map dss)[0]? = some (dss 0) := by simp [h0]
                  obtain ⟨_, _, _, _, _, _, hs⟩ := base 0 (dss 0) 0 ((dss 0)[0]'(by omega)) hg (List.getElem?_eq_getElem _)
                  exact hs rfl rfl
                · obtain ⟨v, _, _, _, _, h6, _⟩ := base i x j d hx hj
                  exact h6
                · obtain ⟨v, h1, _, _, h5, _, _⟩ := base i x j d hx hj
                  rw [h1]; exact h5
                · obtain ⟨v, h1, _, h4, _, _, _⟩ := base i x j d hx hj
                  rw [h1]; exact h4
                · obtain ⟨v, h1, h3, _, _, _, _⟩ := base i x j d hx hj
                  rw [h1]; exact h3
              rw [List.length_map, List.length_range] at hp
              obtain ⟨g1, g2⟩ := one1 hp rfl
              refine ⟨_, g1, g2, .inr ⟨_, rfl, by rw [List.length_map, List.length_range]; exact Nat.le_trans hb.2.1 hb.2.2, fun x hx => ?_⟩⟩
              obtain ⟨i, hi⟩ := List.getElem?_of_mem hx
              obtain ⟨hlt, rfl⟩ := get i x hi
              exact (hdss i hlt).2.2.2
          · cases h
        · cases h
      case struct fs =>
        simp only [Bool.and_eq_true] at hd
        simp only [hu] at h
        simp only [Fit, hu]
        split at h
        · rename_i hlen
          cases hm : fs.toList.mapM (fun f => DataW.trod enc P w 0 sp held n f.type ((cs.drop f.offset).take (P.cellsOf f.type))) with
          | none => simp [hm] at h
          | some xs =>
            have hx : ∀ f ∈ fs.toList, ∃ x, DataW.trod enc P w 0 sp held n f.type ((cs.drop f.offset).take (P.cellsOf f.type)) = some x := by
              intro f hf
              obtain ⟨i, hi⟩ := List.getElem?_of_mem hf
              have h1 := mapM_some_get hm i f hi
              have hl := mapM_some_length hm
              have hlt := (List.getElem?_eq_some_iff.1 hi).1
              rw [List.getElem?_eq_getElem (by omega)] at h1
              exact ⟨_, h1⟩
            obtain ⟨ds, h1, h2, h3⟩ := fit_fields (w := w) ih hlen fs.toList 0 hd.2 (fun f hf => List.all_eq_true.1 hd.1 f hf) hx
            rw [List.drop_zero] at h1 h2
            exact ⟨ds, h1, h2, h3⟩
        · cases h

end
end Vm
end Go.Proofs.YtffgjmfkkfinlaaGreat

/-
  A law's row: from what is read of the arguments to the machine of values, and back.
-/
namespace Go.Proofs.YtffgjmfkkfinlaaGreat
namespace Vm
open Go Go.RowKit Go.WideShapes Go.ChangeShapes

section
variable {H : Type} {enc : TypeId × Value → H} {P : Program}

theorem post_of_below {f : Func} {s : ChangeSpec} {apart fresh handsOn again : Bool} {W W' : World} {args : Array Value} {v : Value} {ds gs : List (DataW H)} {before pa pv : List MemPlace}
    (hW : DataW.Whole enc P f.params.toList s.vars apart W args.toList ds gs before)
    (hres : ∀ (b : Nat) (sp : Nat → Bool) (hd : Bool), DataW.TrodAll enc P W' b sp hd f.resultTypes.toList (v.resultList f.resultTypes.size) (s.fn H (ds ++ gs)).results [])
    (hargs : ∀ sp : Nat → Bool, (∀ p ∈ before, sp p.block = true) → DataW.TrodAll enc P W' 0 sp true f.params.toList args.toList (s.fn H (ds ++ gs)).args pa)
    (hvars : ∀ sp : Nat → Bool, (∀ p ∈ before, sp p.block = true) → DataW.TrodVars enc P W' sp s.vars (s.fn H (ds ++ gs)).vars pv)
    (hps : before = pa ++ pv) (hb : Below W.heap.size W W')
    (hok : ∀ (j : Nat) (t : TypeId) (r : Value), f.resultTypes[j]? = some t → (v.resultList f.resultTypes.size)[j]? = some r → Value.okWide P W' .any 0 t r) :
    s.post enc P f apart fresh handsOn again W args v W' := by
  have hlt : ∀ p ∈ before, p.block < W.heap.size := fun p hp => hW.lt p hp
  have hold : ∀ p ∈ before, (fun b => decide (b < W.heap.size)) p.block = true := fun p hp => by simpa using hlt p hp
  refine ⟨ds, gs, before, [], pa, pv, hW, hres _ _ _, hargs _ hold, hvars _ hold, World.keptBut_mono (fun p hp => ⟨hp, ?_⟩) (hb.frame (· ∈ before)), fun _ => ?_⟩
  · rw [hps, List.mem_append] at hp
    exact Or.inr hp
  · obtain ⟨_, _, _, _, _, hz, hn⟩ := hW
    refine ⟨hok, _, _, ([] ++ pa) ++ pv, ⟨[] ++ pa, pv, trodAll_append (hargs _ (fun _ _ => rfl)) (hres _ _ _), hvars _ (fun _ _ => rfl), rfl, ?_, ?_⟩, ?_⟩
    · intro b off hp
      have hin : MemPlace.cell b off ∈ before := by rw [hps]; simpa using hp
      rw [hb.frozen (hlt _ hin)]
      exact hz b off hin
    · intro ha
      have := hn ha
      rw [hps] at this
      simpa using this
    · intro p hp _
      rw [hps]
      simpa using hp

theorem trodAll_below (hl : laidOutB P = true) {W W' : World} (hb : Below W.heap.size W W') : ∀ {ts : List TypeId} {vs : List Value} {ds : List (DataW H)} {ps : List MemPlace}, (∀ t ∈ ts, P.readableRec t = true ∧ t < P.types.size) →
    DataW.TrodAll enc P W 0 (fun _ => true) true ts vs ds ps → (∀ x ∈ ps, x.block < W.heap.size) → ∀ sp : Nat → Bool, (∀ p ∈ ps, sp p.block = true) → DataW.TrodAll enc P W' 0 sp true ts vs ds ps
  | [], [], [], ps, _, h, _, sp, _ => h
  | t :: ts, v :: vs, d :: ds, ps, ht, h, hlt, sp, hsp => by
    obtain ⟨p, q, h1, h2, rfl⟩ := h
    refine ⟨p, q, WideElems.Trod_stays hl (ht t (by simp)).1 (ht t (by simp)).2 h1 (fun x hx => hb.same (hlt x (List.mem_append_left _ hx))) (fun x hx => hsp x (List.mem_append_left _ hx)), ?_, rfl⟩
    exact trodAll_below hl hb (fun t ht' => ht t (List.mem_cons_of_mem _ ht')) h2 (fun x hx => hlt x (List.mem_append_right _ hx)) sp (fun x hx => hsp x (List.mem_append_right _ hx))
  | [], _ :: _, _, _, _, h, _, _, _ => h.elim
  | [], [], _ :: _, _, _, h, _, _, _ => h.elim
  | _ :: _, [], _, _, _, h, _, _, _ => h.elim
  | _ :: _, _ :: _, [], _, _, h, _, _, _ => h.elim

/-- An argument, as a value of the machine of values. -/
def FitArg (P : Program) (t : TypeId) (d : D) : Prop := match P.underlying t with
  | some (.struct _) => ∃ ds, d = .g ds ∧ Fit P 8 t ds
  | _ => Fit P 8 t [d]
def FitAll (P : Program) : List TypeId → List D → Prop
  | [], ds => ds = []
  | t :: ts, ds => ∃ d r, ds = d :: r ∧ FitArg P t d ∧ FitAll P ts r

theorem fit_arg {W : World} {sp : Nat → Bool} {held : Bool} {b0 : Nat} {t : TypeId} {v : Value} {d : DataW H} {ps : List MemPlace} (hd : dataT P 8 t = true) (hok : Value.okWide P W .any b0 t v) (h : DataW.Trod enc P W 0 sp held t v d ps) :
    ∃ a, FitArg P t a ∧ VRel ph0 (FzW W) W a v := by
  obtain ⟨n, hn⟩ := h
  obtain ⟨ds, h1, h2, h3⟩ := fit_of_trod 8 n t _ _ hn hd
  have one_ : v.cells.toList = [v] → ∀ x, ds = [x] → VRel ph0 (FzW W) W x v := by
    intro hv x hx
    rw [hv, hx] at h1
    obtain ⟨v', _, hv', hr, _⟩ := h1.head
    simp only [List.cons.injEq] at hv'
    rw [hv'.1]
    exact .pure hr
  unfold FitArg
  unfold Value.okWide at hok
  cases hu : P.underlying t with
  | none => unfold dataT at hd; simp only [hu] at hd; cases hd
  | some ty =>
    simp only [hu] at hok ⊢
    have h3' := h3
    cases ty <;> unfold dataT at hd <;> simp only [hu] at hd <;> try (cases hd; done)
    case struct fs =>
      obtain ⟨cs, rfl, _, _⟩ := hok
      refine ⟨.g ds, ⟨ds, rfl, h3⟩, ?_⟩
      have := vrel_g (φ := ph0) (F := FzW W) (w := W) (cs := ds) (vs := cs.toList) (fun v hv => h2 v hv) (h1.imp fun d v h => .pure h)
      simpa using this
    all_goals
      simp only [Cell.okWide, Cell.ok, hu] at hok
      unfold Fit at h3'
      simp only [hu] at h3'
    case bool =>
      obtain ⟨b, e⟩ := h3'
      refine ⟨_, e ▸ h3, one_ ?_ _ e⟩
      cases v <;> first | rfl | (exact hok.elim)
    case int k =>
      obtain ⟨x, e, _⟩ := h3'
      refine ⟨_, e ▸ h3, one_ ?_ _ e⟩
      cases v <;> first | rfl | (exact hok.elim)
    case string =>
      obtain ⟨s, e⟩ := h3'
      refine ⟨_, e ▸ h3, one_ ?_ _ e⟩
      cases v <;> first | rfl | (exact hok.elim)
    case pointer e0 =>
      have hv : v.cells.toList = [v] := by cases v <;> first | rfl | (exact hok.elim)
      rcases h3' with e | ⟨cs, e, _⟩
      · exact ⟨_, e ▸ h3, one_ hv _ e⟩
      · exact ⟨_, e ▸ h3, one_ hv _ e⟩
    case slice e0 =>
      have hv : v.cells.toList = [v] := by cases v <;> first | rfl | (exact hok.elim)
      rcases h3' with e | ⟨es, e, _⟩
      · exact ⟨_, e ▸ h3, one_ hv _ e⟩
      · exact ⟨_, e ▸ h3, one_ hv _ e⟩

theorem fit_all {W : World} {sp : Nat → Bool} {held : Bool} {b0 : Nat} : ∀ {ts : List TypeId} {vs : List Value} {ds : List (DataW H)} {ps : List MemPlace}, (∀ t ∈ ts, dataT P 8 t = true) → (∀ (j : Nat) t v, ts[j]? = some t → vs[j]? = some v → Value.okWide P W .any b0 t v) →
    DataW.TrodAll enc P W 0 sp held ts vs ds ps → ∃ as, FitAll P ts as ∧ LRel (VRel ph0 (FzW W) W) as vs
  | [], [], [], ps, _, _, h => ⟨[], rfl, .nil⟩
  | t :: ts, v :: vs, d :: ds, ps, ht, hok, h => by
    obtain ⟨p, q, h1, h2, rfl⟩ := h
    obtain ⟨a, g1, g2⟩ := fit_arg (ht t (by simp)) (hok 0 t v rfl rfl) h1
    obtain ⟨as, g3, g4⟩ := fit_all (fun t ht' => ht t (List.mem_cons_of_mem _ ht')) (fun j t v hj hv => hok (j + 1) t v (by simpa using hj) (by simpa using hv)) h2
    exact ⟨a :: as, ⟨a, as, rfl, g1, g3⟩, .cons g2 g4⟩
  | [], _ :: _, _, _, _, _, h => h.elim
  | [], [], _ :: _, _, _, _, h => h.elim
  | _ :: _, [], _, _, _, _, h => h.elim
  | _ :: _, _ :: _, [], _, _, _, h => h.elim

end
end Vm
end Go.Proofs.YtffgjmfkkfinlaaGreat

/-
  With more fuel a run gives the same.
-/
namespace Go.Proofs.YtffgjmfkkfinlaaGreat
namespace Vm
open Go Go.RowKit

def Sub (call call' : Vm.Callee) : Prop := ∀ f a b r, call f a b = some r → call' f a b = some r

section
variable {P : Program} {c : Cfg} {fr : Fr} {dr : Bool} {call call' : Vm.Callee} (hc : Sub call call')
include hc

theorem callD_sub {f : Nat} {args : List D} {st : St} {r : D × St} (h : callD c fr dr call f args st = some r) : callD c fr dr call' f args st = some r := by
  unfold callD at h ⊢
  split at h
  · cases h
  · dsimp only at h ⊢
    split at h
    · cases h
    · rename_i h1
      rw [if_neg h1]
      split at h
      · cases h
      · split at h
        · cases h
        · rename_i hcall
          rw [hc _ _ _ _ hcall]
          exact h

theorem op1_sub {st : St} {o : Oper} {r : D × St} (h : op1 P c fr dr call st o = some r) : op1 P c fr dr call' st o = some r := by
  unfold op1 at h ⊢
  cases ho : o.op <;> simp only [ho] at h ⊢ <;> try exact h
  case call cl =>
    cases hcal : cl.callee with
    | invoke r m => simp only [hcal] at h; cases h
    | builtin b => simp only [hcal] at h ⊢; cases b <;> exact h
    | value fx =>
      simp only [hcal] at h ⊢
      cases fx with
      | func g => exact callD_sub hc h
      | _ =>
        simp only at h ⊢
        split at h
        · split at h
          · cases h
          · rename_i h1; rw [if_neg h1]; exact callD_sub hc h
        · cases h

theorem opD_sub {st : St} {o : Oper} {r : D × St} (h : opD P c fr dr call st o = some r) : opD P c fr dr call' st o = some r := by
  unfold opD at h ⊢
  split at h
  · exact h
  · exact op1_sub hc h

theorem operD_sub {ops : Array Oper} {st : St} {o : Oper} {r : St} (h : operD P c fr dr call ops st o = some r) : operD P c fr dr call' ops st o = some r := by
  have go : ∀ {k : Option (D × St) → Option St}, (k none = none) → k (opD P c fr dr call st o) = some r → k (opD P c fr dr call' st o) = some r := by
    intro k hk h
    cases hx : opD P c fr dr call st o with
    | none => rw [hx, hk] at h; cases h
    | some x => rw [hx] at h; rw [opD_sub hc hx]; exact h
  unfold operD at h ⊢
  dsimp only at h ⊢
  split at h
  · exact go (k := fun x => match x with | some (d, st') => some (match o.dst with | some t => { st' with tm := (t, d) :: st'.tm } | none => st') | none => none) rfl h
  · split at h
    · split at h
      · split at h
        · rename_i h1
          rw [if_pos h1]
          exact go (k := fun x => match x with | some (d, st') => some (match o.dst with | some t => { st' with tm := (t, d) :: st'.tm } | none => st') | none => none) rfl h
        · rename_i h1; rw [if_neg h1]; exact h
      · exact h
      · cases h
    · cases h

theorem opsD_sub {ops : Array Oper} : ∀ {l : List Oper} {st r : St}, opsD P c fr dr call ops l st = some r → opsD P c fr dr call' ops l st = some r
  | [], st, r, h => h
  | o :: l, st, r, h => by
    simp only [opsD] at h ⊢
    split at h
    · rename_i st1 h1
      rw [operD_sub hc h1]
      exact opsD_sub h
    · cases h
end

theorem iter_sub {run run' : St → Option (Ex × St)} {head : St → Option St} (hr : ∀ st r, run st = some r → run' st = some r) : ∀ {n n' : Nat}, n ≤ n' → ∀ {st : St} {r : Ex × St}, iter run head n st = some r → iter run' head n' st = some r
  | 0, n', _, st, r, h => by simp [iter] at h
  | n + 1, 0, hn, st, r, h => by omega
  | n + 1, n' + 1, hn, st, r, h => by
    simp only [iter] at h ⊢
    split at h
    · cases h
    · split at h
      · rename_i h1
        rw [hr _ _ h1]
        exact iter_sub hr (by omega) h
      · rename_i hne
        rw [hr _ _ h]
        obtain ⟨x, st2⟩ := r
        cases x with
        | normal => exact absurd h (hne _)
        | _ => rfl

theorem exec_sub {P : Program} {c : Cfg} {fr : Fr} {call call' : Vm.Callee} (hc : Sub call call') {n n' : Nat} (hn : n ≤ n') {jump jump' : Code → Code → St → Option (Ex × St)} (hj : ∀ b s st r, jump b s st = some r → jump' b s st = some r) :
    ∀ (code : Code) {st : St} {r : Ex × St}, exec P c fr call n jump code st = some r → exec P c fr call' n' jump' code st = some r
  | .skip, st, r, h => h
  | .label _, st, r, h => h
  | .exit _, st, r, h => h
  | .goto _, st, r, h => h
  | .ret, st, r, h => h
  | .region id ops dr, st, r, h => by
    simp only [exec] at h ⊢
    split at h
    · split at h
      · rename_i h2
        rw [opsD_sub hc h2]; exact h
      · cases h
    · cases h
  | .seq p q, st, r, h => by
    simp only [exec] at h ⊢
    split at h
    · rename_i h1
      rw [exec_sub hc hn hj p h1]
      exact exec_sub hc hn hj q h
    · rename_i hne
      rw [exec_sub hc hn hj p h]
      obtain ⟨x, st2⟩ := r
      cases x with
      | normal => exact absurd h (hne _)
      | _ => rfl
  | .cond x p q, st, r, h => by
    simp only [exec] at h ⊢
    split at h
    · split at h
      · rename_i h1; rw [if_pos h1]; exact exec_sub hc hn hj p h
      · rename_i h1; rw [if_neg h1]; exact exec_sub hc hn hj q h
    · cases h
  | .block id p, st, r, h => by
    simp only [exec] at h ⊢
    split at h
    · rename_i h1
      rw [exec_sub hc hn hj p h1]; exact h
    · rename_i hne
      rw [exec_sub hc hn hj p h]
      obtain ⟨x, st2⟩ := r
      cases x with
      | exit _ => exact absurd h (hne _ _)
      | _ => rfl
  | .loop p, st, r, h => by
    simp only [exec] at h ⊢
    exact iter_sub (fun st r h => exec_sub hc hn hj p h) hn h
  | .scope p, st, r, h => by
    simp only [exec] at h ⊢
    split at h
    · rename_i h1
      rw [exec_sub hc hn hj p h1]
      simp only
      split at h
      · split at h
        · exact hj _ _ _ _ h
        · cases h
      · exact h
    · rename_i hne
      rw [exec_sub hc hn hj p h]
      obtain ⟨x, st2⟩ := r
      cases x with
      | goto _ => exact absurd h (hne _ _)
      | _ => rfl
  | .rangeFunc .., st, r, h => by simp [exec] at h
  | .refuse .., st, r, h => by simp [exec] at h

theorem jumpN_sub {P : Program} {c : Cfg} {fr : Fr} {call call' : Vm.Callee} (hc : Sub call call') {n n' : Nat} (hn : n ≤ n') : ∀ {m m' : Nat}, m ≤ m' → ∀ (b s : Code) (st : St) (r : Ex × St), jumpN P c fr call n m b s st = some r → jumpN P c fr call' n' m' b s st = some r
  | 0, _, _, b, s, st, r, h => by simp [jumpN] at h
  | m + 1, 0, hm, b, s, st, r, h => by omega
  | m + 1, m' + 1, hm, b, s, st, r, h => by
    simp only [jumpN] at h ⊢
    have ih := jumpN_sub hc hn (m := m) (m' := m') (by omega) (P := P) (c := c) (fr := fr)
    split at h
    · rename_i h1
      rw [exec_sub hc hn ih s h1]
      simp only
      split at h
      · split at h
        · exact ih _ _ _ _ h
        · cases h
      · exact h
    · rename_i hne
      rw [exec_sub hc hn ih s h]
      obtain ⟨x, st2⟩ := r
      cases x with
      | goto _ => exact absurd h (hne _ _)
      | _ => rfl

theorem callN_sub {P : Program} {c : Cfg} : ∀ {n n' : Nat}, n ≤ n' → Sub (callN P c n) (callN P c n')
  | 0, _, _ => fun f a b r h => by simp [callN] at h
  | n + 1, 0, hn => by omega
  | n + 1, n' + 1, hn => fun f a b r h => by
    have ih := callN_sub (P := P) (c := c) (n := n) (n' := n') (by omega)
    rw [callN] at h ⊢
    split at h
    · rename_i h1
      rw [if_pos h1]; exact h
    · rename_i h1
      rw [if_neg h1]
      split at h
      · cases h
      · split at h
        · cases h
        · dsimp only at h ⊢
          split at h
          · rename_i hx
            rw [exec_sub ih (by omega) (jumpN_sub ih (by omega) (by omega)) _ hx]; exact h
          · rename_i hx
            rw [exec_sub ih (by omega) (jumpN_sub ih (by omega) (by omega)) _ hx]; exact h
          · cases h

theorem callN_le {P : Program} {c : Cfg} {n n' f : Nat} {a : List D} {b : List Blk} {r : List D × List Blk} (hn : n ≤ n') (h : callN P c n f a b = some r) : callN P c n' f a b = some r := callN_sub hn f a b r h
end Vm
end Go.Proofs.YtffgjmfkkfinlaaGreat

/-
  The machine of values without fuel: what a run comes to with whatever fuel is enough; equations to go on with.
-/
namespace Go.Proofs.YtffgjmfkkfinlaaGreat
namespace Vm
open Go Go.RowKit

/-! What a growing sequence comes to -/
def Mono {α : Type} (g : Nat → Option α) : Prop := ∀ n n' r, n ≤ n' → g n = some r → g n' = some r
open Classical in
noncomputable def lim {α : Type} (g : Nat → Option α) : Option α := if h : ∃ r n, g n = some r then some (Classical.choose h) else none

theorem lim_iff {α : Type} {g : Nat → Option α} (hm : Mono g) {r : α} : lim g = some r ↔ ∃ n, g n = some r := by
  unfold lim
  constructor
  · intro h
    split at h
    · rename_i h1
      have := Classical.choose_spec h1
      cases h
      exact this
    · cases h
  · rintro ⟨n, hn⟩
    have h1 : ∃ r n, g n = some r := ⟨r, n, hn⟩
    rw [dif_pos h1]
    obtain ⟨n', hn'⟩ := Classical.choose_spec h1
    have a := hm _ _ _ (Nat.le_max_left n n') hn
    have b := hm _ _ _ (Nat.le_max_right n n') hn'
    rw [a] at b
    exact b.symm

theorem opt_ext {α : Type} {a b : Option α} (h : ∀ r, a = some r ↔ b = some r) : a = b := by
  cases a with
  | none => cases b with
    | none => rfl
    | some y => exact ((h y).2 rfl)
  | some x => exact ((h x).1 rfl).symm

section
variable {P : Program} {c : Cfg}

noncomputable def callI (P : Program) (c : Cfg) (f : Nat) (a : List D) (b : List Blk) : Option (List D × List Blk) := lim fun n => callN P c n f a b
theorem callI_iff {f : Nat} {a : List D} {b : List Blk} {r : List D × List Blk} : callI P c f a b = some r ↔ ∃ n, callN P c n f a b = some r :=
  lim_iff fun _ _ _ hn h => callN_le hn h
theorem callN_subI (n : Nat) : Sub (callN P c n) (callI P c) := fun _ _ _ _ h => callI_iff.2 ⟨n, h⟩

/-! One call more or less: what is found with the limit is found with enough fuel -/
theorem callD_I {fr : Fr} {dr : Bool} {f : Nat} {args : List D} {st : St} {r : D × St} (h : callD c fr dr (callI P c) f args st = some r) : ∃ n, callD c fr dr (callN P c n) f args st = some r := by
  unfold callD at h ⊢
  split at h
  · cases h
  · dsimp only at h ⊢
    split at h
    · cases h
    · rename_i h1
      simp only [if_neg h1]
      split at h
      · cases h
      · split at h
        · cases h
        · rename_i hcall
          obtain ⟨n, hn⟩ := callI_iff.1 hcall
          exact ⟨n, by simp only [hn]; exact h⟩

theorem op1_I {fr : Fr} {dr : Bool} {st : St} {o : Oper} {r : D × St} (h : op1 P c fr dr (callI P c) st o = some r) : ∃ n, op1 P c fr dr (callN P c n) st o = some r := by
  unfold op1 at h ⊢
  cases ho : o.op <;> simp only [ho] at h ⊢ <;> try exact ⟨0, h⟩
  case call cl =>
    cases hcal : cl.callee with
    | invoke r m => simp only [hcal] at h; cases h
    | builtin b => simp only [hcal] at h ⊢; cases b <;> exact ⟨0, h⟩
    | value fx =>
      simp only [hcal] at h ⊢
      cases fx with
      | func g => exact callD_I h
      | _ =>
        simp only at h ⊢
        split at h
        · split at h
          · cases h
          · rename_i h1; simp only [if_neg h1]; exact callD_I h
        · cases h

theorem opD_I {fr : Fr} {dr : Bool} {st : St} {o : Oper} {r : D × St} (h : opD P c fr dr (callI P c) st o = some r) : ∃ n, opD P c fr dr (callN P c n) st o = some r := by
  unfold opD at h ⊢
  split at h
  · exact ⟨0, h⟩
  · exact op1_I h

theorem operD_I {fr : Fr} {dr : Bool} {ops : Array Oper} {st : St} {o : Oper} {r : St} (h : operD P c fr dr (callI P c) ops st o = some r) : ∃ n, operD P c fr dr (callN P c n) ops st o = some r := by
  have go : ∀ {k : Option (D × St) → Option St}, (k none = none) → k (opD P c fr dr (callI P c) st o) = some r → ∃ n, k (opD P c fr dr (callN P c n) st o) = some r := by
    intro k hk h
    cases hx : opD P c fr dr (callI P c) st o with
    | none => rw [hx, hk] at h; cases h
    | some x => rw [hx] at h; obtain ⟨n, hn⟩ := opD_I hx; exact ⟨n, by rw [hn]; exact h⟩
  unfold operD at h ⊢
  dsimp only at h ⊢
  split at h
  · exact go (k := fun x => match x with | some (d, st') => some (match o.dst with | some t => { st' with tm := (t, d) :: st'.tm } | none => st') | none => none) rfl h
  · split at h
    · split at h
      · split at h
        · rename_i h1
          simp only [if_pos h1]
          exact go (k := fun x => match x with | some (d, st') => some (match o.dst with | some t => { st' with tm := (t, d) :: st'.tm } | none => st') | none => none) rfl h
        · rename_i h1; simp only [if_neg h1]; exact ⟨0, h⟩
      · exact ⟨0, h⟩
      · cases h
    · cases h

theorem opsD_I {fr : Fr} {dr : Bool} {ops : Array Oper} : ∀ {l : List Oper} {st r : St}, opsD P c fr dr (callI P c) ops l st = some r → ∃ n, opsD P c fr dr (callN P c n) ops l st = some r
  | [], st, r, h => ⟨0, h⟩
  | o :: l, st, r, h => by
    simp only [opsD] at h ⊢
    split at h
    · rename_i st1 h1
      obtain ⟨n, hn⟩ := operD_I h1
      obtain ⟨m, hm⟩ := opsD_I h
      refine ⟨max n m, ?_⟩
      rw [operD_sub (callN_sub (Nat.le_max_left n m)) hn]
      exact opsD_sub (callN_sub (Nat.le_max_right n m)) hm
    · cases h

/-! Runs -/
def E (P : Program) (c : Cfg) (fr : Fr) (code : Code) (st : St) (n : Nat) : Option (Ex × St) := exec P c fr (callN P c n) n (jumpN P c fr (callN P c n) n n) code st
def J (P : Program) (c : Cfg) (fr : Fr) (body rest : Code) (st : St) (n : Nat) : Option (Ex × St) := jumpN P c fr (callN P c n) n n body rest st
theorem E_mono (fr : Fr) (code : Code) (st : St) : Mono (E P c fr code st) := fun _ _ _ hn h => exec_sub (callN_sub hn) hn (jumpN_sub (callN_sub hn) hn hn) code h
theorem J_mono (fr : Fr) (body rest : Code) (st : St) : Mono (J P c fr body rest st) := fun _ _ _ hn h => jumpN_sub (callN_sub hn) hn hn body rest st _ h
noncomputable def exe (P : Program) (c : Cfg) (fr : Fr) (code : Code) (st : St) : Option (Ex × St) := lim (E P c fr code st)
noncomputable def jmp (P : Program) (c : Cfg) (fr : Fr) (body rest : Code) (st : St) : Option (Ex × St) := lim (J P c fr body rest st)
variable {fr : Fr}
theorem exe_iff {code : Code} {st : St} {r : Ex × St} : exe P c fr code st = some r ↔ ∃ n, E P c fr code st n = some r := lim_iff (E_mono fr code st)
theorem jmp_iff {body rest : Code} {st : St} {r : Ex × St} : jmp P c fr body rest st = some r ↔ ∃ n, J P c fr body rest st n = some r := lim_iff (J_mono fr body rest st)
theorem exe_const {code : Code} {st : St} {r : Option (Ex × St)} (h : ∀ n, E P c fr code st n = r) : exe P c fr code st = r :=
  opt_ext fun x => by rw [exe_iff]; exact ⟨fun ⟨n, hn⟩ => by rw [← h n, hn], fun hr => ⟨0, by rw [h 0, hr]⟩⟩

/-! What goes on with what came out -/
noncomputable def kX (P : Program) (c : Cfg) (fr : Fr) (b : Code) (r : Option (Ex × St)) : Option (Ex × St) := match r with
  | some (.normal, st') => exe P c fr b st'
  | r => r
def kB (id : Nat) (r : Option (Ex × St)) : Option (Ex × St) := match r with
  | some (.exit j, st') => if j = id then some (.normal, st') else some (.exit j, st')
  | r => r
def kO (P : Program) (c : Cfg) (fr : Fr) (dr : Bool) (call : Vm.Callee) (ops : Array Oper) (l : List Oper) (r : Option St) : Option St := match r with
  | some st' => opsD P c fr dr call ops l st'
  | none => none
def kN (r : Option St) : Option (Ex × St) := match r with
  | some st' => some (.normal, st')
  | none => none
noncomputable def kC (P : Program) (c : Cfg) (fr : Fr) (a b : Code) (st : St) (d : D) : Option (Ex × St) := match d with
  | .s (.bool t) => if t then exe P c fr a st else exe P c fr b st
  | _ => none
noncomputable def kL (P : Program) (c : Cfg) (fr : Fr) (a : Code) (r : Option (Ex × St)) : Option (Ex × St) := match r with
  | some (.normal, st') => exe P c fr (.loop a) st'
  | r => r
noncomputable def kH (P : Program) (c : Cfg) (fr : Fr) (a : Code) (r : Option St) : Option (Ex × St) := match r with
  | some st => kL P c fr a (exe P c fr a st)
  | none => none
noncomputable def kJ (P : Program) (c : Cfg) (fr : Fr) (a : Code) (r : Option (Ex × St)) : Option (Ex × St) := match r with
  | some (.goto l, st') => (match findLabel a l with
    | some rest => (match headJ c fr l st' with
      | some st' => jmp P c fr a rest st'
      | none => none)
    | none => some (.goto l, st'))
  | r => r

theorem e_skip (st : St) : exe P c fr .skip st = some (.normal, st) := exe_const fun _ => rfl
theorem e_exit (id : Nat) (st : St) : exe P c fr (.exit id) st = some (.exit id, st) := exe_const fun _ => rfl
theorem e_ret (st : St) : exe P c fr .ret st = some (.ret, st) := exe_const fun _ => rfl
theorem e_label (l : Nat) (st : St) : exe P c fr (.label l) st = some (.normal, st) := exe_const fun _ => rfl
theorem e_goto (l : Nat) (st : St) : exe P c fr (.goto l) st = some (.goto l, st) := exe_const fun _ => rfl

theorem e_seq (a b : Code) (st : St) : exe P c fr (.seq a b) st = kX P c fr b (exe P c fr a st) := opt_ext fun r => by
  rw [exe_iff]
  constructor
  · rintro ⟨n, hn⟩
    simp only [E, exec] at hn
    split at hn
    · rename_i st' h1
      rw [show exe P c fr a st = some (.normal, st') from exe_iff.2 ⟨n, h1⟩]
      exact exe_iff.2 ⟨n, hn⟩
    · rename_i hne
      rw [show exe P c fr a st = some r from exe_iff.2 ⟨n, hn⟩]
      obtain ⟨x, st2⟩ := r
      cases x with
      | normal => exact absurd hn (hne _)
      | _ => rfl
  · intro h
    cases ha : exe P c fr a st with
    | none => rw [ha] at h; cases h
    | some q =>
      obtain ⟨x, st'⟩ := q
      rw [ha] at h
      obtain ⟨n, hn⟩ := exe_iff.1 ha
      cases x with
      | normal =>
        obtain ⟨m, hm⟩ := exe_iff.1 h
        refine ⟨max n m, ?_⟩
        have h1 := E_mono fr a st _ _ _ (Nat.le_max_left n m) hn
        have h2 := E_mono fr b st' _ _ _ (Nat.le_max_right n m) hm
        simp only [E, exec] at h1 h2 ⊢
        rw [h1]; exact h2
      | _ =>
        refine ⟨n, ?_⟩
        simp only [E, exec] at hn ⊢
        rw [hn]; exact h

theorem e_block (id : Nat) (a : Code) (st : St) : exe P c fr (.block id a) st = kB id (exe P c fr a st) := opt_ext fun r => by
  have e : ∀ n, E P c fr (.block id a) st n = kB id (E P c fr a st n) := fun n => rfl
  rw [exe_iff]
  constructor
  · rintro ⟨n, hn⟩
    rw [e] at hn
    cases ha : E P c fr a st n with
    | none => rw [ha] at hn; cases hn
    | some q => rw [ha] at hn; rw [show exe P c fr a st = some q from exe_iff.2 ⟨n, ha⟩]; exact hn
  · intro h
    cases ha : exe P c fr a st with
    | none => rw [ha] at h; cases h
    | some q =>
      rw [ha] at h
      obtain ⟨n, hn⟩ := exe_iff.1 ha
      exact ⟨n, by rw [e, hn]; exact h⟩

theorem e_cond (x : Operand) (a b : Code) (st : St) : exe P c fr (.cond x a b) st = kC P c fr a b st (ev st.tm x) := by
  have e : ∀ n, E P c fr (.cond x a b) st n = (match ev st.tm x with
    | .s (.bool t) => if t then E P c fr a st n else E P c fr b st n
    | _ => none) := fun n => rfl
  cases hx : ev st.tm x with
  | s v =>
    cases v with
    | bool t =>
      simp only [kC]
      cases t with
      | true => exact opt_ext fun r => by rw [if_pos rfl, exe_iff, exe_iff]; simp only [e, hx, if_true]
      | false => exact opt_ext fun r => by rw [if_neg (by simp), exe_iff, exe_iff]; simp only [e, hx, Bool.false_eq_true, if_false]
    | _ => exact exe_const fun n => by rw [e, hx]; rfl
  | _ => exact exe_const fun n => by rw [e, hx]; rfl

theorem e_region {ops : Array Oper} (id : Nat) (dr : Bool) (st : St) (h : c.lock fr.fn id = []) : exe P c fr (.region id ops dr) st = kN (opsD P c fr dr (callI P c) ops ops.toList st) := opt_ext fun r => by
  have e : ∀ n, E P c fr (.region id ops dr) st n = kN (opsD P c fr dr (callN P c n) ops ops.toList st) := fun n => by
    have e : E P c fr (.region id ops dr) st n = (match lockD (c.lock fr.fn id) st with
      | some st => (match opsD P c fr dr (callN P c n) ops ops.toList st with
        | some st' => some (.normal, st')
        | none => none)
      | none => none) := rfl
    rw [e, h]
    rfl
  rw [exe_iff]
  constructor
  · rintro ⟨n, hn⟩
    rw [e] at hn
    cases ho : opsD P c fr dr (callN P c n) ops ops.toList st with
    | none => rw [ho] at hn; cases hn
    | some q => rw [ho] at hn; rw [opsD_sub (callN_subI n) ho]; exact hn
  · intro h
    cases ho : opsD P c fr dr (callI P c) ops ops.toList st with
    | none => rw [ho] at h; cases h
    | some q =>
      rw [ho] at h
      obtain ⟨n, hn⟩ := opsD_I ho
      exact ⟨n, by rw [e, hn]; exact h⟩

theorem e_regionL {ops : Array Oper} (id : Nat) (dr : Bool) (st : St) : exe P c fr (.region id ops dr) st = (match lockD (c.lock fr.fn id) st with
    | some st => kN (opsD P c fr dr (callI P c) ops ops.toList st)
    | none => none) := by
  have e : ∀ n, E P c fr (.region id ops dr) st n = (match lockD (c.lock fr.fn id) st with
      | some st => kN (opsD P c fr dr (callN P c n) ops ops.toList st)
      | none => none) := fun n => rfl
  cases hl : lockD (c.lock fr.fn id) st with
  | none => exact exe_const fun n => by rw [e, hl]
  | some st1 =>
    refine opt_ext fun r => ?_
    rw [exe_iff]
    simp only [e, hl]
    constructor
    · rintro ⟨n, hn⟩
      cases ho : opsD P c fr dr (callN P c n) ops ops.toList st1 with
      | none => rw [ho] at hn; cases hn
      | some q => rw [ho] at hn; rw [opsD_sub (callN_subI n) ho]; exact hn
    · intro h
      cases ho : opsD P c fr dr (callI P c) ops ops.toList st1 with
      | none => rw [ho] at h; cases h
      | some q =>
        rw [ho] at h
        obtain ⟨n, hn⟩ := opsD_I ho
        exact ⟨n, by rw [hn]; exact h⟩

theorem e_loop (a : Code) (st : St) : exe P c fr (.loop a) st = kH P c fr a (headD c fr a st) := opt_ext fun r => by
  have e : ∀ st n, E P c fr (.loop a) st n = iter (fun st => E P c fr a st n) (headD c fr a) n st := fun st n => rfl
  rw [exe_iff]
  constructor
  · rintro ⟨n, hn⟩
    rw [e] at hn
    cases n with
    | zero => cases hn
    | succ m =>
      simp only [iter] at hn
      split at hn
      · cases hn
      · rename_i st1 hh
        simp only [hh, kH]
        split at hn
        · rename_i st2 h1
          rw [show exe P c fr a st1 = some (.normal, st2) from exe_iff.2 ⟨_, h1⟩]
          exact exe_iff.2 ⟨m + 1, by rw [e]; exact iter_sub (fun _ _ h => h) (by omega) hn⟩
        · rename_i hne
          rw [show exe P c fr a st1 = some r from exe_iff.2 ⟨_, hn⟩]
          obtain ⟨x, st2⟩ := r
          cases x with
          | normal => exact absurd hn (hne _)
          | _ => rfl
  · intro h
    cases hh : headD c fr a st with
    | none => rw [hh] at h; cases h
    | some st1 =>
      simp only [hh, kH] at h
      cases ha : exe P c fr a st1 with
      | none => rw [ha] at h; cases h
      | some q =>
        obtain ⟨x, st2⟩ := q
        rw [ha] at h
        obtain ⟨n, hn⟩ := exe_iff.1 ha
        cases x with
        | normal =>
          obtain ⟨m, hm⟩ := exe_iff.1 h
          refine ⟨max n m + 1, ?_⟩
          rw [e] at hm ⊢
          simp only [iter, hh]
          rw [E_mono fr a st1 n _ _ (by omega) hn]
          exact iter_sub (fun s q hq => E_mono fr a s m _ q (by omega) hq) (by omega) hm
        | _ =>
          refine ⟨n + 1, ?_⟩
          rw [e]
          simp only [iter, hh]
          rw [E_mono fr a st1 n _ _ (by omega) hn]
          exact h

theorem j_eq (body rest : Code) (st : St) : jmp P c fr body rest st = kJ P c fr body (exe P c fr rest st) := opt_ext fun r => by
  have e : ∀ n, J P c fr body rest st (n + 1) = (match exec P c fr (callN P c (n + 1)) (n + 1) (jumpN P c fr (callN P c (n + 1)) (n + 1) n) rest st with
    | some (.goto l, st') => (match findLabel body l with
      | some rest' => (match headJ c fr l st' with
        | some st' => jumpN P c fr (callN P c (n + 1)) (n + 1) n body rest' st'
        | none => none)
      | none => some (.goto l, st'))
    | r => r) := fun n => rfl
  rw [jmp_iff]
  constructor
  · rintro ⟨n, hn⟩
    cases n with
    | zero => cases hn
    | succ n =>
      rw [e] at hn
      have up : ∀ q, exec P c fr (callN P c (n + 1)) (n + 1) (jumpN P c fr (callN P c (n + 1)) (n + 1) n) rest st = some q → exe P c fr rest st = some q := fun q h =>
        exe_iff.2 ⟨n + 1, exec_sub (fun _ _ _ _ h => h) (Nat.le_refl _) (jumpN_sub (fun _ _ _ _ h => h) (Nat.le_refl _) (by omega)) rest h⟩
      split at hn
      · rename_i l st' h1
        rw [up _ h1]
        simp only [kJ]
        split at hn
        · rename_i rest' hf
          split at hn
          · rename_i st2 hj
            exact jmp_iff.2 ⟨n + 1, jumpN_sub (fun _ _ _ _ h => h) (Nat.le_refl _) (by omega) _ _ _ _ hn⟩
          · cases hn
        · rename_i hf
          exact hn
      · rename_i hne
        rw [up _ hn]
        obtain ⟨x, st2⟩ := r
        cases x with
        | goto _ => exact absurd hn (hne _ _)
        | _ => rfl
  · intro h
    cases ha : exe P c fr rest st with
    | none => rw [ha] at h; cases h
    | some q =>
      obtain ⟨x, st2⟩ := q
      rw [ha] at h
      obtain ⟨n, hn⟩ := exe_iff.1 ha
      have dn : ∀ m, n ≤ m → exec P c fr (callN P c (m + 1)) (m + 1) (jumpN P c fr (callN P c (m + 1)) (m + 1) m) rest st = some (x, st2) := fun m hm =>
        exec_sub (callN_sub (by omega)) (by omega) (jumpN_sub (callN_sub (by omega)) (by omega) hm) rest hn
      cases x with
      | goto l =>
        simp only [kJ] at h
        split at h
        · rename_i rest' hf
          split at h
          · rename_i st3 hj
            obtain ⟨m, hm⟩ := jmp_iff.1 h
            refine ⟨max n m + 1, ?_⟩
            rw [e, dn _ (Nat.le_max_left n m)]
            simp only [hf, hj]
            exact jumpN_sub (callN_sub (by omega)) (by omega) (by omega) _ _ _ _ hm
          · cases h
        · rename_i hf
          refine ⟨n + 1, ?_⟩
          rw [e, dn _ (Nat.le_refl n)]
          simp only [hf]; exact h
      | _ =>
        refine ⟨n + 1, ?_⟩
        rw [e, dn _ (Nat.le_refl n)]
        exact h

theorem e_scope (a : Code) (st : St) : exe P c fr (.scope a) st = kJ P c fr a (exe P c fr a st) := opt_ext fun r => by
  have e : ∀ n, E P c fr (.scope a) st n = (match E P c fr a st n with
    | some (.goto l, st') => (match findLabel a l with
      | some rest => (match headJ c fr l st' with
        | some st' => J P c fr a rest st' n
        | none => none)
      | none => some (.goto l, st'))
    | r => r) := fun n => rfl
  rw [exe_iff]
  constructor
  · rintro ⟨n, hn⟩
    rw [e] at hn
    split at hn
    · rename_i l st' h1
      rw [show exe P c fr a st = some (.goto l, st') from exe_iff.2 ⟨n, h1⟩]
      simp only [kJ]
      split at hn
      · rename_i rest' hf
        split at hn
        · rename_i st2 hj
          exact jmp_iff.2 ⟨n, hn⟩
        · cases hn
      · rename_i hf
        exact hn
    · rename_i hne
      rw [show exe P c fr a st = some r from exe_iff.2 ⟨n, hn⟩]
      obtain ⟨x, st2⟩ := r
      cases x with
      | goto _ => exact absurd hn (hne _ _)
      | _ => rfl
  · intro h
    cases ha : exe P c fr a st with
    | none => rw [ha] at h; cases h
    | some q =>
      obtain ⟨x, st2⟩ := q
      rw [ha] at h
      obtain ⟨n, hn⟩ := exe_iff.1 ha
      cases x with
      | goto l =>
        simp only [kJ] at h
        split at h
        · rename_i rest' hf
          split at h
          · rename_i st3 hj
            obtain ⟨m, hm⟩ := jmp_iff.1 h
            refine ⟨max n m, ?_⟩
            rw [e, E_mono fr a st _ _ _ (Nat.le_max_left n m) hn]
            simp only [hf, hj]
            exact J_mono fr a rest' st3 _ _ _ (Nat.le_max_right n m) hm
          · cases h
        · rename_i hf
          refine ⟨n, ?_⟩
          rw [e, hn]
          simp only [hf]; exact h
      | _ => exact ⟨n, by rw [e, hn]; exact h⟩

def endE (P : Program) (c : Cfg) (fr : Fr) (rs : List ResultVar) (r : Option (Ex × St)) : Option (List D × List Blk) := match r with
  | some (.normal, st) | some (.ret, st) => (match resVars P st rs with
    | some res => leave c fr st res
    | none => none)
  | _ => none
theorem callI_eq {f : Nat} {fn : Func} {code : Code} (hf : P.funcs[f]? = some fn) (hok : c.ok f = true) (hb : fn.body = some code) (args : List D) (bs : List Blk) :
    callI P c f args bs = endE P c ⟨bs.length, fn.ntmps, f, !c.wr f⟩ fn.results.toList (exe P c ⟨bs.length, fn.ntmps, f, !c.wr f⟩ code { tm := initT 0 args, hp := initH 0 bs, nx := bs.length + fn.ntmps }) := by
  have e : ∀ n, callN P c (n + 1) f args bs = endE P c ⟨bs.length, fn.ntmps, f, !c.wr f⟩ fn.results.toList (E P c ⟨bs.length, fn.ntmps, f, !c.wr f⟩ code { tm := initT 0 args, hp := initH 0 bs, nx := bs.length + fn.ntmps } n) := fun n => by
    rw [callN]
    simp only [hok, hf, hb, Bool.not_true, Bool.false_eq_true, if_false]
    unfold endE
    rfl
  refine opt_ext fun r => ?_
  rw [callI_iff]
  constructor
  · rintro ⟨n, hn⟩
    cases n with
    | zero => cases hn
    | succ n =>
      rw [e] at hn
      cases hx : E P c ⟨bs.length, fn.ntmps, f, !c.wr f⟩ code { tm := initT 0 args, hp := initH 0 bs, nx := bs.length + fn.ntmps } n with
      | none => rw [hx] at hn; cases hn
      | some q => rw [hx] at hn; rw [show exe P c _ code _ = some q from exe_iff.2 ⟨n, hx⟩]; exact hn
  · intro h
    cases hx : exe P c ⟨bs.length, fn.ntmps, f, !c.wr f⟩ code { tm := initT 0 args, hp := initH 0 bs, nx := bs.length + fn.ntmps } with
    | none => rw [hx] at h; cases h
    | some q =>
      rw [hx] at h
      obtain ⟨n, hn⟩ := exe_iff.1 hx
      exact ⟨n + 1, by rw [e, hn]; exact h⟩

theorem callI_orc {f : Nat} (h : c.ok f = false) (args : List D) (bs : List Blk) : callI P c f args bs = c.orc f args bs := by
  have e : ∀ n, callN P c (n + 1) f args bs = c.orc f args bs := fun n => by
    rw [callN]
    simp only [h, Bool.not_false, if_true]
  refine opt_ext fun r => ?_
  rw [callI_iff]
  constructor
  · rintro ⟨n, hn⟩
    cases n with
    | zero => cases hn
    | succ n => rw [← e n]; exact hn
  · intro hr
    exact ⟨1, by rw [e 0]; exact hr⟩
theorem law_callsI (hmix : P.follows .mixedOrders = true) (hok : ∀ f, c.ok f = true → funOk P c f = true) (horc : OrcOk P c) {f : Nat} {args : List D} {v : Value} {bs' : List Blk}
    (hrun : callI P c f args [] = some ([.s v], bs')) {w : World} {vs : List Value} (hargs : LRel (VRel ph0 (FzW w) w) args vs) :
    Calls P f vs.toArray w fun e w' => e = .returned v ∧ Below w.heap.size w w' := by
  obtain ⟨n, hn⟩ := callI_iff.1 hrun
  exact law_calls hmix hok horc hn hargs
end
end Vm
end Go.Proofs.YtffgjmfkkfinlaaGreat

/-
  The library's sort of numbers, as the machine of values has it: what its contract says of a run.
-/
namespace Go.Proofs.YtffgjmfkkfinlaaGreat
namespace Vm
open Go Go.RowKit Go.Sort

def intsD : List (List D) → Option (List Int)
  | [] => some []
  | [.s (.int .i64 x)] :: r => (match intsD r with | some l => some (x :: l) | none => none)
  | _ :: _ => none
def insZ (x : Int) : List Int → List Int
  | [] => [x]
  | y :: r => if x ≤ y then x :: y :: r else y :: insZ x r
def sortZ : List Int → List Int
  | [] => []
  | x :: r => insZ x (sortZ r)
def ieD (x : Int) : List D := [.s (.int .i64 x)]

theorem insZ_perm (x : Int) : ∀ l, (insZ x l).Perm (x :: l)
  | [] => .refl _
  | y :: r => by
    unfold insZ
    split
    · exact .refl _
    · exact ((insZ_perm x r).cons y).trans (.swap x y r)
theorem sortZ_perm : ∀ l, (sortZ l).Perm l
  | [] => .refl _
  | x :: r => (insZ_perm x (sortZ r)).trans ((sortZ_perm r).cons x)
theorem insZ_sorted (x : Int) : ∀ l, l.Pairwise (· ≤ ·) → (insZ x l).Pairwise (· ≤ ·)
  | [], _ => by simp [insZ]
  | y :: r, h => by
    unfold insZ
    obtain ⟨h1, h2⟩ := List.pairwise_cons.1 h
    split
    · rename_i hxy
      refine List.pairwise_cons.2 ⟨fun z hz => ?_, h⟩
      rcases List.mem_cons.1 hz with rfl | hz
      · exact hxy
      · exact Int.le_trans hxy (h1 z hz)
    · rename_i hxy
      refine List.pairwise_cons.2 ⟨fun z hz => ?_, insZ_sorted x r h2⟩
      rcases List.mem_cons.1 ((insZ_perm x r).mem_iff.1 hz) with rfl | hz
      · omega
      · exact h1 z hz
theorem sortZ_sorted : ∀ l, (sortZ l).Pairwise (· ≤ ·)
  | [] => .nil
  | x :: r => insZ_sorted x _ (sortZ_sorted r)
theorem sorted_unique : ∀ {l l' : List Int}, l.Perm l' → l.Pairwise (· ≤ ·) → l'.Pairwise (· ≤ ·) → l = l'
  | [], l', h, _, _ => by simpa using h.symm.eq_nil
  | x :: r, [], h, _, _ => by simpa using h.eq_nil
  | x :: r, y :: q, h, h1, h2 => by
    obtain ⟨a1, a2⟩ := List.pairwise_cons.1 h1
    obtain ⟨b1, b2⟩ := List.pairwise_cons.1 h2
    have hx : x ∈ y :: q := h.mem_iff.1 (by simp)
    have hy : y ∈ x :: r := h.mem_iff.2 (by simp)
    have e : x = y := by
      rcases List.mem_cons.1 hx with rfl | hx
      · rfl
      · rcases List.mem_cons.1 hy with rfl | hy
        · rfl
        · have := b1 x hx; have := a1 y hy; omega
    subst e
    rw [sorted_unique ((List.perm_cons x).1 h) a2 b2]
theorem sortZ_eq (l : List Int) : l.mergeSort (fun x y => decide (x ≤ y)) = sortZ l := by
  refine sorted_unique ((List.mergeSort_perm l _).trans (sortZ_perm l).symm) ?_ (sortZ_sorted l)
  have := List.pairwise_mergeSort (le := fun x y : Int => decide (x ≤ y)) (fun a b c h1 h2 => by simp at h1 h2 ⊢; omega) (fun a b => by simp; omega) l
  exact this.imp (by simp)

/-- A whole row of numbers that the call may write: sorted. -/
def sortO (args : List D) (bs : List Blk) : Option (List D × List Blk) := match args, bs with
  | [.a 0 0 n 1], [b] => if b.arr = true ∧ b.md = 0 ∧ b.pu = true ∧ n = b.es.length ∧ 0 < n ∧ n < 4611686018427387904 then
      (match intsD b.es with
      | some zs => some ([], [⟨(sortZ zs).map ieD, b.arr, b.md, b.pu, b.cap⟩])
      | none => none) else none
  | _, _ => none

theorem intsD_map : ∀ {es : List (List D)} {zs : List Int}, intsD es = some zs → es = zs.map ieD
  | [], zs, h => by simp only [intsD, Option.some.injEq] at h; subst h; rfl
  | e :: r, zs, h => by
    unfold intsD at h
    split at h
    · cases h; rename_i he; cases he
    · rename_i x r' he
      cases he
      cases hr : intsD r with
      | none => rw [hr] at h; cases h
      | some l => rw [hr] at h; cases h; rw [intsD_map hr]; rfl
    · cases h

/-- The contract of a sort of numbers. -/
def SortCalls (P : Program) (f : Nat) : Prop := ∀ (blk off cap : Nat) (zs : List Int) (w : World), Holds (Value.int .i64) w blk off zs.toArray → blk < w.heap.size → zs.length < 4611686018427387904 →
    Calls P f #[.slice (some ⟨blk, off, none⟩) zs.length cap] w fun e w' =>
      e = .returned (.tuple #[]) ∧ ∃ n os, w' = grow (putRow (Value.int .i64) (Sort.ahead w n) blk off (zs.mergeSort fun x y => decide (x ≤ y)).toArray) os

theorem sortO_ok {P : Program} {c : Cfg} {f : Nat} (hc : SortCalls P f) (hwr : c.wr f = true) {args : List D} {bs bs' : List Blk} {res : List D} (h : sortO args bs = some (res, bs')) {φ : Ph} {F : Fz} {w : World} {vs : List Value} (hargs : LRel (VRel φ F w) args vs) (hm : MR φ F w (initH 0 bs) bs.length) :
    Calls P f vs.toArray w fun e w' => ∃ φ' F' us, e = .returned (retV us) ∧ LRel (VRel φ' F' w') res us ∧ Ext bs.length (WC c f bs.length) φ F w φ' F' w' ∧ MR φ' F' w' (initH 0 bs') bs'.length ∧ bs.length ≤ bs'.length := by
  unfold sortO at h
  split at h
  · rename_i n b
    split at h
    · rename_i hcond
      obtain ⟨harr, hmd, hpu, hn, hpos, hlt⟩ := hcond
      cases hz : intsD b.es with
      | none => rw [hz] at h; cases h
      | some zs =>
        rw [hz] at h
        simp only [Option.some.injEq, Prod.mk.injEq] at h
        obtain ⟨rfl, rfl⟩ := h
        have hes := intsD_map hz
        have hlen : zs.length = n := by rw [hn, hes, List.length_map]
        obtain ⟨v, vs', rfl, hv, hvs⟩ := hargs.head
        rw [hvs.of_nil]
        have hr0 : rdH (initH 0 [b]) 0 = b := rfl
        cases hv with
        | pure hp => cases hp
        | a _ _ _ bk cp _ ad hφ hnc had =>
          have had := had (by omega)
          have hB := hm.blk 0 bk cp 1 hφ (by rw [hr0, hmd]; decide)
          rw [hr0] at hB
          obtain ⟨cs, ty, hheap, hcs⟩ := hB.heap
          have hblt := hm.pb 0 bk cp 1 hφ
          have hcell : ∀ i x, zs[i]? = some x → cellAt w bk i = some (.int .i64 x) := by
            intro i x hx
            have he : b.es[i]? = some (ieD x) := by rw [hes, List.getElem?_map, hx]; rfl
            obtain ⟨v, h1, _, h3⟩ := hB.cell i _ 0 (.s (.int .i64 x)) he rfl
            rw [vrel_s_inv h3] at h1
            simpa using h1
          have hH : Holds (Value.int .i64) w bk 0 zs.toArray := by
            intro j hj
            simp only [List.size_toArray] at hj
            refine ⟨?_, by simp [World.frozen?, hheap]⟩
            rw [Nat.zero_add]
            have := hcell j zs[j] (by simp [hj])
            unfold cellAt at this
            rw [this]
            simp [hj]
          have key := hc bk 0 (cp - 0) zs w hH hblt (by omega)
          have ead : ad = ⟨bk, 0, none⟩ := by rw [had]
          rw [hlen] at key
          rw [ead]
          refine key.mono ?_
          rintro e w' ⟨rfl, k, os, rfl⟩
          rw [sortZ_eq]
          have hsz : (sortZ zs).length = n := by rw [(sortZ_perm zs).length_eq, hlen]
          have hh : (grow (putRow (Value.int .i64) (Sort.ahead w k) bk 0 (sortZ zs).toArray) os).heap[bk]? = some (.cells (putCells (Value.int .i64) 0 (sortZ zs).toArray cs) ty (0, 0)) := by
            rw [heap_grow_old _ _ (by simpa [putRow, mapBlock, Sort.ahead] using hblt)]
            simp [putRow, mapBlock, Sort.ahead, Array.getElem?_modify, hheap, onCells]
          have ho : ∀ k2, k2 < w.heap.size → k2 ≠ bk → (grow (putRow (Value.int .i64) (Sort.ahead w k) bk 0 (sortZ zs).toArray) os).heap[k2]? = w.heap[k2]? := by
            intro k2 h2 hne
            rw [heap_grow_old _ _ (by simpa [putRow, mapBlock, Sort.ahead] using h2)]
            have : bk ≠ k2 := fun e => hne e.symm
            simp [putRow, mapBlock, Sort.ahead, Array.getElem?_modify, this]
          have hncs : n ≤ cs.size := by have := hcs harr; omega
          have hnF : ∀ o, ¬ F bk o := hm.rw 0 bk cp 1 hφ (by rw [hr0]; exact hmd)
          have hwsz : w.heap.size ≤ (grow (putRow (Value.int .i64) (Sort.ahead w k) bk 0 (sortZ zs).toArray) os).heap.size := by
            rw [size_grow]; simp [putRow, mapBlock, Sort.ahead]
          have hcells : ∀ b' o, F b' o → cellAt (grow (putRow (Value.int .i64) (Sort.ahead w k) bk 0 (sortZ zs).toArray) os) b' o = cellAt w b' o := by
            intro b' o hF
            refine cellAt_block (ho b' (hm.Fb b' o hF) (fun e => ?_)) o
            subst e; exact hnF o hF
          have hW : WC c f ([b] : List Blk).length 0 := .inl hwr
          have hrd : ∀ id, id ≠ 0 → rdH (initH 0 [(⟨(sortZ zs).map ieD, b.arr, b.md, b.pu, b.cap⟩ : Blk)]) id = noBlk := by
            intro id hid
            simp only [initH, rdH]
            rw [if_neg (fun e => hid e.symm)]
          have hrd0 : rdH (initH 0 [(⟨(sortZ zs).map ieD, b.arr, b.md, b.pu, b.cap⟩ : Blk)]) 0 = ⟨(sortZ zs).map ieD, b.arr, b.md, b.pu, b.cap⟩ := rfl
          have only0 : ∀ id, (rdH (initH 0 [(⟨(sortZ zs).map ieD, b.arr, b.md, b.pu, b.cap⟩ : Blk)]) id).md < 2 → id = 0 := by
            intro id h2
            rcases Nat.eq_zero_or_pos id with h0 | h0
            · exact h0
            · rw [hrd id (by omega)] at h2; exact absurd h2 (by decide)
          refine ⟨φ, F, [], rfl, .nil, ⟨rfl, rfl, rfl, hwsz, fun _ _ => rfl, fun id b' c' z' h => .inr ⟨id, c', z', h, fun x => x⟩, fun _ _ h => h, hcells, fun b' hb' hnone => ?_, fun _ _ h => .inl h⟩, ?_, Nat.le_refl _⟩
          · refine ho b' hb' fun e => ?_
            subst e
            exact hnone 0 cp 1 hφ hW
          · refine ⟨fun id b' c' z' h h2 => ?_, fun id b' c' z' h h2 o => ?_, fun id b' c' z' h h2 _ o => ?_, fun id id' b' c' z' c2 z2 _ _ h1 h2 => ?_, fun id hid => hm.fresh id hid, fun b' o h => Nat.lt_of_lt_of_le (hm.Fb b' o h) hwsz, fun id b' c' z' h => Nat.lt_of_lt_of_le (hm.pb id b' c' z' h) hwsz⟩
            · have := only0 id h2
              subst this
              rw [hφ] at h
              cases h
              rw [hrd0]
              have hget : ∀ (i : Nat) (e : List D), ((sortZ zs).map ieD)[i]? = some e → ∃ x, (sortZ zs)[i]? = some x ∧ e = ieD x ∧ i < n := by
                intro i e he
                rw [List.getElem?_map] at he
                cases hx : (sortZ zs)[i]? with
                | none => rw [hx] at he; cases he
                | some x =>
                  rw [hx] at he
                  simp only [Option.map_some, Option.some.injEq] at he
                  have := (List.getElem?_eq_some_iff.1 hx).1
                  exact ⟨x, rfl, he.symm, by omega⟩
              refine ⟨⟨_, ty, hh, fun ha => ?_⟩, fun i e j d he hd => ?_, fun ha i e he => ?_, fun ha => ?_, hB.pos, hB.cap, fun ha => ?_, fun hp i e j d he hd => ?_⟩
              · have := hcs ha; simpa [putCells] using this
              · obtain ⟨x, hx, rfl, hi⟩ := hget i e he
                cases j with
                | succ j => simp [ieD] at hd
                | zero =>
                  simp only [ieD, List.getElem?_cons_zero, Option.some.injEq] at hd
                  subst hd
                  refine ⟨.int .i64 x, ?_, rfl, vrel_s _⟩
                  unfold cellAt World.cell?
                  simp only [hh, Nat.mul_one, Nat.add_zero]
                  have hi2 : i < (sortZ zs).length := by omega
                  have hics : i < cs.size := by omega
                  have hxe : (sortZ zs)[i] = x := (List.getElem?_eq_some_iff.1 hx).2
                  simp [putCells, hi2, hics, hxe]
              · obtain ⟨x, _, rfl, _⟩ := hget i e he; rfl
              · have := hB.le ha
                rw [List.length_map, hsz]
                rw [← hn] at this; exact this
              · simp only at ha; rw [harr] at ha; cases ha
              · obtain ⟨x, _, rfl, _⟩ := hget i e he
                cases j with
                | succ j => simp [ieD] at hd
                | zero => simp only [ieD, List.getElem?_cons_zero, Option.some.injEq] at hd; subst hd; rfl
            · have := only0 id (by omega)
              subst this
              rw [hφ] at h
              cases h
              exact hnF o
            · have := only0 id h2
              subst this
              rw [hφ] at h
              cases h
              exact fun _ => hnF o
            · rw [only0 id h1, only0 id' h2]
    · cases h
  · cases h
end Vm
end Go.Proofs.YtffgjmfkkfinlaaGreat
