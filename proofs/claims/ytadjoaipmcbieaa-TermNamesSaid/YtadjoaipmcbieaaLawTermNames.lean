/- TermNames: the law 'ropewalklaw02.TermNames' returns true: the fixed calls are answered so, the errors' numbers and the limits are the document's. No condition. -/
import Derived.Test.YtadjoaipmcbieaaRows
import Derived.Test.YtadjoaipmcbieaaN0
import Derived.Test.YtadjoaipmcbieaaK0
import Derived.WalkKit
import Derived.ProofKit
import Derived.OpenShut
import Derived.ChangeOld
import Derived.Below
namespace Go.Proofs.Ytadjoaipmcbieaa.termNames
open Go.ChangeShapes Go.WideShapes Go.ChangeAt Go.RowKit
theorem own : ownKnob Try.prog.godebug = none := by kernel_rfl

set_option maxHeartbeats 1000000 in
theorem walk (w : World) : Calls Try.prog 3 #[] w fun e w' => e = .returned (.bool true) ∧ Below w.heap.size w w' := by
  go_enter Try.func3, Try.ntmps3
  go_wp2_with (go_at_call 25; refine (awake02 w).mono ?_; rintro e w1 ⟨rfl, hb⟩)
  go_ret
  exact ⟨rfl, hb⟩

set_option maxRecDepth 100000 in
theorem lifted (os : Os) (started : os.Started) (H : Type) (enc : TypeId × Value → H) :
    ReturnsInHanded {} Try.checked os 3 .any (Rows.termNamesSpec.pre6 enc Try.prog Try.f3 Rows.termNamesRow.domain false) (Rows.termNamesSpec.post enc Try.prog Try.f3 false true false false) := by
  refine returnsInHanded_of_change (C := Try.checked) own started (by kernel_rfl) Try.func3
    (ChangeSpec.witness6 (enc := enc) (C := Try.checked) false ⟨#[], #[], []⟩ 8 (by kernel_rfl) (by kernel_rfl) (by kernel_rfl) (by kernel_rfl)) ?_
  intro W base args ds gs before hval0 hW hcnd _
  have hW' := hW
  obtain ⟨p, q, hA0, hV, rfl, hfz, hnd⟩ := hW
  have hA : DataW.TrodAll enc Try.prog W 0 (fun _ => true) true Try.f3.params.toList args.toList ds p := hA0
  rw [Try.params3] at hA
  obtain ⟨ha, rfl, rfl⟩ := trodAll_none hA
  obtain rfl : args = #[] := by cases args; simp_all
  obtain ⟨rfl, rfl⟩ := trodVars_none hV
  clear hA0 hval0
  refine (walk W).mono fun e W' ⟨he, bel⟩ => ?_
  subst he
  exact ⟨_, rfl, _, _, _, [], _, [], hW', trodAll_mk1 (shut_bool Try.underlying4 _), trodAll_mk0, rfl, bel.frame _, fun h => by cases h⟩

theorem named3 : Try.prog.funcNamed Rows.termNamesRow.func = some 3 := by kernel_rfl
theorem rest3 : Closed.rest Try.prog 3 Try.f3 Rows.termNamesSpec Rows.termNamesRow = true := by kernel_rfl
theorem inst3 : Try.f3.isInstance Try.prog Rows.termNamesRow.origin Rows.termNamesRow.targs := of_decide_eq_true (by kernel_rfl)
theorem over : Rows.termNamesRow.holds Try.pinned (OpenSpec.ofChange Rows.termNamesSpec) :=
  OpenClaim.holds_of_wide 3 Try.f3 rfl rfl rfl rfl rfl rfl rfl ⟨rfl, rfl, rfl, rfl, rfl⟩ rfl rfl rfl rfl rfl named3 Try.func3 (Closed.closed_of rest3)
    inst3 (by unfold Func.isWrapper; first | (rw [if_pos (by decide +kernel)]; kernel_rfl) | (rw [if_neg (by decide +kernel)]; exact ⟨rfl, rfl⟩))
    (fun os started H enc _ => lifted os started H enc)
theorem proved : Rows.TermNamesSaid := over
#print axioms proved
end Go.Proofs.Ytadjoaipmcbieaa.termNames
namespace Go.Proofs.Ytadjoaipmcbieaa
/-- The row, under a short name, for the claim. -/
theorem termNames_holds : Rows.TermNamesSaid := termNames.proved
end Go.Proofs.Ytadjoaipmcbieaa
