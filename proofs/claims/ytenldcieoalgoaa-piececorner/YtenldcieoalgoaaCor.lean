/-
  PieceCorner: for every three numbers the statement's call returns true, and its arguments read as before. No condition.
-/
import Derived.Test.YtenldcieoalgoaaRows
import Derived.ProofKit
import Derived.Test.YtenldcieoalgoaaJd
namespace Go.Proofs.Ytenldcieoalgoaa
open Go.ChangeShapes Go.WideShapes Go.ChangeAt Go.RowKit Go Vm

theorem Try.own : ownKnob Try.prog.godebug = none := by kernel_rfl
theorem Try.laidOut : laidOutB Try.prog = true := by kernel_rfl

set_option maxRecDepth 100000 in
theorem corner_lifted (os : Os) (started : os.Started) (H : Type) (enc : TypeId × Value → H) :
    ReturnsInHanded {} Try.checked os 7 .any (Rows.pieceCornerSpec.pre6 enc Try.prog Try.f7 Rows.pieceCornerRow.domain false) (Rows.pieceCornerSpec.post enc Try.prog Try.f7 false true false false) := by
  refine returnsInHanded_of_change (C := Try.checked) Try.own started (by kernel_rfl) Try.func7
    (ChangeSpec.witness6 (enc := enc) (C := Try.checked) false ⟨#[], #[.int .i64 0, .int .i64 0, .int .i64 0], []⟩ 8 (by kernel_rfl) (by kernel_rfl) (by kernel_rfl) (by kernel_rfl)) ?_
  intro W base args ds gs before hval0 hW hcnd _
  have hval : ∀ (j : Nat) t v, Try.f7.params[j]? = some t → args[j]? = some v → Value.okWide Try.prog W .any base t v := hval0
  have hW' := hW
  obtain ⟨p, q, hA0, hV, rfl, hfz, hnd⟩ := hW
  have hA : DataW.TrodAll enc Try.prog W 0 (fun _ => true) true Try.f7.params.toList args.toList ds p := hA0
  rw [Try.params7] at hA hval
  obtain ⟨rfl, rfl⟩ := trodVars_none hV
  obtain ⟨v0, v1, v2, d0, d1, d2, p0, p1, p2, rfl, rfl, rfl, g0, g1, g2⟩ := trodAll_three hA
  have hlt : ∀ x ∈ p0 ++ p1 ++ p2, x.block < W.heap.size := fun x hx => hW'.lt x (by simpa using hx)
  obtain ⟨vs, hfit, hrel⟩ := fit_all (P := Try.prog) (ts := [2, 3, 2]) (by decide +kernel) (fun j t v ht hv => hval j t v (by simpa using ht) (by simpa using hv)) hA
  obtain ⟨a0, r0, rfl, f0, hfit⟩ := fitAll_cons hfit
  obtain ⟨a1, r1, rfl, f1, hfit⟩ := fitAll_cons hfit
  obtain ⟨a2, r2, rfl, f2, hfit⟩ := fitAll_cons hfit
  cases fitAll_nil hfit
  obtain ⟨c, rfl, w0⟩ := fitArg_int Try.underlying2 f0
  obtain ⟨r, rfl, w1⟩ := fitArg_int Try.underlying3 f1
  obtain ⟨x, rfl, w2⟩ := fitArg_int Try.underlying2 f2
  refine (law_callsI mix cfgOk cfgOrc (corner7 c r x) hrel).mono fun e W' ⟨he, hb⟩ => ?_
  subst he
  exact ⟨_, rfl, post_of_below hW' (fun _ _ _ => trodAll_mk1 (shut_bool Try.underlying4 true)) (fun sp hsp => trodAll_below Try.laidOut hb (by decide +kernel) hA hlt sp (fun x hx => hsp x (by simpa using hx))) (fun _ _ => rfl) rfl hb (ok_one (by kernel_rfl) rfl (okWide_bool_mk Try.underlying4 true))⟩

theorem corner_holds : Rows.PieceCornerSaid :=
  OpenClaim.holds_of_wide 7 Try.f7 rfl rfl rfl rfl rfl rfl rfl ⟨rfl, rfl, rfl, rfl, rfl⟩ rfl rfl rfl rfl rfl (by kernel_rfl) Try.func7 (by kernel_rfl)
    (of_decide_eq_true (by kernel_rfl)) (by unfold Func.isWrapper; first | (rw [if_pos (by decide +kernel)]; kernel_rfl) | (rw [if_neg (by decide +kernel)]; exact ⟨rfl, rfl⟩))
    (fun os started H enc _ => corner_lifted os started H enc)

end Go.Proofs.Ytenldcieoalgoaa
