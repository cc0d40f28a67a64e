/-
  YearPosts: for every number of contributions and every list of payslips the statement's call returns true, and its arguments read as before. No condition.
-/
import Derived.Test.YtjkojcnimnhclaaRows
import Derived.ProofKit
import Derived.Test.YtjkojcnimnhclaaJd
namespace Go.Proofs.Ytjkojcnimnhclaa
open Go.ChangeShapes Go.WideShapes Go.ChangeAt Go.RowKit Go Vm

theorem Try.own : ownKnob Try.prog.godebug = none := by kernel_rfl
theorem Try.laidOut : laidOutB Try.prog = true := by kernel_rfl

set_option maxRecDepth 100000 in
theorem posts_lifted (os : Os) (started : os.Started) (H : Type) (enc : TypeId × Value → H) :
    ReturnsInHanded {} Try.checked os 4 .any (Rows.yearPostsSpec.pre6 enc Try.prog Try.f4 Rows.yearPostsRow.domain false) (Rows.yearPostsSpec.post enc Try.prog Try.f4 false true false false) := by
  refine returnsInHanded_of_change (C := Try.checked) Try.own started (by kernel_rfl) Try.func4
    (ChangeSpec.witness6 (enc := enc) (C := Try.checked) false ⟨#[], #[.int .i64 0, .slice none 0 0], []⟩ 8 (by kernel_rfl) (by kernel_rfl) (by kernel_rfl) (by kernel_rfl)) ?_
  intro W base args ds gs before hval0 hW hcnd _
  have hval : ∀ (j : Nat) t v, Try.f4.params[j]? = some t → args[j]? = some v → Value.okWide Try.prog W .any base t v := hval0
  have hW' := hW
  obtain ⟨p, q, hA0, hV, rfl, hfz, hnd⟩ := hW
  have hA : DataW.TrodAll enc Try.prog W 0 (fun _ => true) true Try.f4.params.toList args.toList ds p := hA0
  rw [Try.params4] at hA hval
  obtain ⟨rfl, rfl⟩ := trodVars_none hV
  obtain ⟨v0, v1, d0, d1, p0, p1, rfl, rfl, rfl, g0, g1⟩ := trodAll_two hA
  have hlt : ∀ x ∈ p0 ++ p1, x.block < W.heap.size := fun x hx => hW'.lt x (by simpa using hx)
  obtain ⟨vs, hfit, hrel⟩ := fit_all (P := Try.prog) (ts := [3, 30]) (by decide +kernel) (fun j t v ht hv => hval j t v (by simpa using ht) (by simpa using hv)) hA
  obtain ⟨a0, r0, rfl, f0, hfit⟩ := fitAll_cons hfit
  obtain ⟨a1, r1, rfl, f1, hfit⟩ := fitAll_cons hfit
  cases fitAll_nil hfit
  obtain ⟨n, rfl, w0⟩ := fitArg_int Try.underlying3 f0
  obtain ⟨xs, rfl, l1, q1⟩ := fitArg_sl Try.underlying30 (fun x hx => fit27 hx) f1
  have l1 := maxLen_lt l1
  refine (law_callsI mix cfgOk (posts4 n xs l1) hrel).mono fun e W' ⟨he, hb⟩ => ?_
  subst he
  exact ⟨_, rfl, post_of_below hW' (fun _ _ _ => trodAll_mk1 (shut_bool Try.underlying4 true)) (fun sp hsp => trodAll_below Try.laidOut hb (by decide +kernel) hA hlt sp (fun x hx => hsp x (by simpa using hx))) (fun _ _ => rfl) rfl hb (ok_one (by kernel_rfl) rfl (okWide_bool_mk Try.underlying4 true))⟩

theorem posts_holds : Rows.YearPostsSaid :=
  OpenClaim.holds_of_wide 4 Try.f4 rfl rfl rfl rfl rfl rfl rfl ⟨rfl, rfl, rfl, rfl, rfl⟩ rfl rfl rfl rfl rfl (by kernel_rfl) Try.func4 (by kernel_rfl)
    (of_decide_eq_true (by kernel_rfl)) (by unfold Func.isWrapper; first | (rw [if_pos (by decide +kernel)]; kernel_rfl) | (rw [if_neg (by decide +kernel)]; exact ⟨rfl, rfl⟩))
    (fun os started H enc _ => posts_lifted os started H enc)

end Go.Proofs.Ytjkojcnimnhclaa
