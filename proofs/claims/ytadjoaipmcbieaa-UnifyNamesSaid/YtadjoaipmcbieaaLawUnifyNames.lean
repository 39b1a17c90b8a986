/- UnifyNames: the law 'ropewalklaw06.UnifyNames' returns true: the fixed calls are answered so, the error's number is the document's. No condition. -/
import Derived.Test.YtadjoaipmcbieaaRows
import Derived.Test.YtadjoaipmcbieaaUZ
import Derived.Test.YtadjoaipmcbieaaK0
import Derived.WalkKit
import Derived.ProofKit
import Derived.OpenShut
import Derived.ChangeOld
import Derived.Below
namespace Go.Proofs.Ytadjoaipmcbieaa.unifyNames
open Go.ChangeShapes Go.WideShapes Go.ChangeAt Go.RowKit
theorem own : ownKnob Try.prog.godebug = none := by kernel_rfl

set_option maxHeartbeats 1000000 in
theorem walk (w : World) : Calls Try.prog 12 #[] w fun e w' => e = .returned (.bool true) ∧ Below w.heap.size w w' := by
  go_enter Try.func12, Try.ntmps12
  go_wp2_with (go_at_call 53; refine (awake06 w).mono ?_; rintro e w1 ⟨rfl, hb⟩)
  go_ret
  exact ⟨rfl, hb⟩

set_option maxRecDepth 100000 in
theorem lifted (os : Os) (started : os.Started) (H : Type) (enc : TypeId × Value → H) :
    ReturnsInHanded {} Try.checked os 12 .any (Rows.unifyNamesSpec.pre6 enc Try.prog Try.f12 Rows.unifyNamesRow.domain false) (Rows.unifyNamesSpec.post enc Try.prog Try.f12 false true false false) := by
  refine returnsInHanded_of_change (C := Try.checked) own started (by kernel_rfl) Try.func12
    (ChangeSpec.witness6 (enc := enc) (C := Try.checked) false ⟨#[], #[], []⟩ 8 (by kernel_rfl) (by kernel_rfl) (by kernel_rfl) (by kernel_rfl)) ?_
  intro W base args ds gs before hval0 hW hcnd _
  have hW' := hW
  obtain ⟨p, q, hA0, hV, rfl, hfz, hnd⟩ := hW
  have hA : DataW.TrodAll enc Try.prog W 0 (fun _ => true) true Try.f12.params.toList args.toList ds p := hA0
  rw [Try.params12] at hA
  obtain ⟨ha, rfl, rfl⟩ := trodAll_none hA
  obtain rfl : args = #[] := by cases args; simp_all
  obtain ⟨rfl, rfl⟩ := trodVars_none hV
  clear hA0 hval0
  refine (walk W).mono fun e W' ⟨he, bel⟩ => ?_
  subst he
  exact ⟨_, rfl, _, _, _, [], _, [], hW', trodAll_mk1 (shut_bool Try.underlying4 _), trodAll_mk0, rfl, bel.frame _, fun h => by cases h⟩

theorem named3 : Try.prog.funcNamed Rows.unifyNamesRow.func = some 12 := by kernel_rfl
theorem rest3 : Closed.rest Try.prog 12 Try.f12 Rows.unifyNamesSpec Rows.unifyNamesRow = true := by kernel_rfl
theorem inst3 : Try.f12.isInstance Try.prog Rows.unifyNamesRow.origin Rows.unifyNamesRow.targs := of_decide_eq_true (by kernel_rfl)
theorem over : Rows.unifyNamesRow.holds Try.pinned (OpenSpec.ofChange Rows.unifyNamesSpec) :=
  OpenClaim.holds_of_wide 12 Try.f12 rfl rfl rfl rfl rfl rfl rfl ⟨rfl, rfl, rfl, rfl, rfl⟩ rfl rfl rfl rfl rfl named3 Try.func12 (Closed.closed_of rest3)
    inst3 (by unfold Func.isWrapper; first | (rw [if_pos (by decide +kernel)]; kernel_rfl) | (rw [if_neg (by decide +kernel)]; exact ⟨rfl, rfl⟩))
    (fun os started H enc _ => lifted os started H enc)
theorem proved : Rows.UnifyNamesSaid := over
#print axioms proved
end Go.Proofs.Ytadjoaipmcbieaa.unifyNames
namespace Go.Proofs.Ytadjoaipmcbieaa
/-- The row, under a short name, for the claim. -/
theorem unifyNames_holds : Rows.UnifyNamesSaid := unifyNames.proved
end Go.Proofs.Ytadjoaipmcbieaa
