/-
  RunNew: for every table and every code the statement's call returns true, and its arguments read as before. No condition.
-/
import Derived.Test.YtffgjmfkkfinlaaGreatRows
import Derived.ProofKit
import Derived.Test.YtffgjmfkkfinlaaGreatJd
import Derived.Test.YtffgjmfkkfinlaaGreatJf
namespace Go.Proofs.YtffgjmfkkfinlaaGreat
open Go.ChangeShapes Go.WideShapes Go.ChangeAt Go.RowKit Go Vm

theorem Tryz.own : ownKnob Tryz.prog.godebug = none := by kernel_rfl
theorem Tryz.laidOut : laidOutB Tryz.prog = true := by kernel_rfl

set_option maxRecDepth 100000 in
theorem new_lifted (os : Os) (started : os.Started) (H : Type) (enc : TypeId × Value → H) :
    ReturnsInHanded {} Tryz.checked os 3 .any (Rows.runNewSpec.pre6 enc Tryz.prog Tryz.f3 Rows.runNewRow.domain false) (Rows.runNewSpec.post enc Tryz.prog Tryz.f3 false true false false) := by
  refine returnsInHanded_of_change (C := Tryz.checked) Tryz.own started (by kernel_rfl) Tryz.func3
    (ChangeSpec.witness6 (enc := enc) (C := Tryz.checked) false ⟨#[], #[.agg #[.slice none 0 0, .slice none 0 0, .slice none 0 0, .int .i64 0, .int .i64 0], .agg #[.int .i64 0, .int .i64 0, .int .i64 0, .int .i64 0, .bool false]], []⟩ 8 (by kernel_rfl) (by kernel_rfl) (by kernel_rfl) (by kernel_rfl)) ?_
  intro W base args ds gs before hval0 hW hcnd _
  have hval : ∀ (j : Nat) t v, Tryz.f3.params[j]? = some t → args[j]? = some v → Value.okWide Tryz.prog W .any base t v := hval0
  have hW' := hW
  obtain ⟨p, q, hA0, hV, rfl, hfz, hnd⟩ := hW
  have hA : DataW.TrodAll enc Tryz.prog W 0 (fun _ => true) true Tryz.f3.params.toList args.toList ds p := hA0
  rw [Tryz.params3] at hA hval
  obtain ⟨rfl, rfl⟩ := trodVars_none hV
  obtain ⟨v0, v1, d0, d1, p0, p1, rfl, rfl, rfl, g0, g1⟩ := trodAll_two hA
  have hlt : ∀ x ∈ p0 ++ p1, x.block < W.heap.size := fun x hx => hW'.lt x (by simpa using hx)
  obtain ⟨vs, hfit, hrel⟩ := fit_all (P := Tryz.prog) (ts := [26, 28]) (by decide +kernel) (fun j t v ht hv => hval j t v (by simpa using ht) (by simpa using hv)) hA
  obtain ⟨a0, r0, rfl, f0, hfit⟩ := fitAll_cons hfit
  obtain ⟨a1, r1, rfl, f1, hfit⟩ := fitAll_cons hfit
  cases fitAll_nil hfit
  obtain ⟨ds0, rfl, e0⟩ := fitArg_struct Tryz.underlying26 f0
  obtain ⟨t, rfl, q0⟩ := fit26 e0
  obtain ⟨ds1, rfl, e1⟩ := fitArg_struct Tryz.underlying28 f1
  obtain ⟨c, rfl, q1⟩ := fit28 e1
  refine (law_callsI mix cfgOk cfgOrc (law_RunNew t c) hrel).mono fun e W' ⟨he, hb⟩ => ?_
  subst he
  exact ⟨_, rfl, post_of_below hW' (fun _ _ _ => trodAll_mk1 (shut_bool Tryz.underlying4 true)) (fun sp hsp => trodAll_below Tryz.laidOut hb (by decide +kernel) hA hlt sp (fun x hx => hsp x (by simpa using hx))) (fun _ _ => rfl) rfl hb (ok_one (by kernel_rfl) rfl (okWide_bool_mk Tryz.underlying4 true))⟩

theorem new_holds : Rows.RunNewSaid :=
  OpenClaim.holds_of_wide 3 Tryz.f3 rfl rfl rfl rfl rfl rfl rfl ⟨rfl, rfl, rfl, rfl, rfl⟩ rfl rfl rfl rfl rfl (by kernel_rfl) Tryz.func3 (by kernel_rfl)
    (of_decide_eq_true (by kernel_rfl)) (by unfold Func.isWrapper; first | (rw [if_pos (by decide +kernel)]; kernel_rfl) | (rw [if_neg (by decide +kernel)]; exact ⟨rfl, rfl⟩))
    (fun os started H enc _ => new_lifted os started H enc)

end Go.Proofs.YtffgjmfkkfinlaaGreat
