/- UnifyTells: the row of the law, out of its walk. No condition. Printed by wip/print_row6.py. -/
import Derived.Test.YtadjoaipmcbieaaRows
import Derived.Test.YtadjoaipmcbieaaOB8
import Derived.WalkKit
import Derived.ProofKit
import Derived.OpenShut
import Derived.ChangeOld
import Derived.Below
import Derived.Carry
import Derived.SizedLaws
namespace Go.Proofs.Ytadjoaipmcbieaa.unifyTells
open Go.ChangeShapes Go.WideShapes Go.ChangeAt Go.RowKit
theorem own : ownKnob Try.prog.godebug = none := by kernel_rfl

set_option maxRecDepth 100000 in
theorem lifted (os : Os) (started : os.Started) (H : Type) (enc : TypeId × Value → H) :
    ReturnsInHanded {} Try.checked os 13 .any (Rows.unifyTellsSpec.pre6 enc Try.prog Try.f13 Rows.unifyTellsRow.domain false) (Rows.unifyTellsSpec.post enc Try.prog Try.f13 false true false false) := by
  refine returnsInHanded_of_change_sized (C := Try.checked) own started (by kernel_rfl) Try.func13
    (ChangeSpec.witness6 (enc := enc) (C := Try.checked) false ⟨#[], #[.agg #[.slice none 0 0, .slice none 0 0, .slice none 0 0, .slice none 0 0]], []⟩ 8 (by kernel_rfl) (by kernel_rfl) (by kernel_rfl) (by kernel_rfl)) ?_
  intro W base args ds gs before hval0 hW hcnd hsz0 _
  have hsz : (DataW.weightsEach Try.prog (Try.f13.params.toList ++ Rows.unifyTellsSpec.plain.varTypes Try.prog) (ds ++ gs)).all (· ≤ reachBytes) = true := hsz0
  have hval : ∀ (j : Nat) t v, Try.f13.params[j]? = some t → args[j]? = some v → Value.okWide Try.prog W .any base t v := hval0
  have hW' := hW
  obtain ⟨p, q, hA0, hV, rfl, hfz, hnd⟩ := hW
  have hA : DataW.TrodAll enc Try.prog W 0 (fun _ => true) true Try.f13.params.toList args.toList ds p := hA0
  rw [Try.params13] at hA hval hsz
  obtain ⟨v0, vs0, d0, ds0, p0, q0, hargs, rfl, rfl, h0, r0⟩ := trodAll_cons hA
  obtain ⟨rfl, rfl, rfl⟩ := trodAll_nil r0
  obtain rfl : args = #[v0] := by cases args; simp_all
  obtain ⟨rfl, rfl⟩ := trodVars_none hV
  have lt0 : ∀ x ∈ p0, x.block < W.heap.size := by obtain ⟨m, hm⟩ := h0; exact DataW.trod_lt m _ _ _ hm
  have hwt : ∀ m ∈ d0.weights Try.prog 62, m ≤ reachBytes := fun m hm => by
    have := List.all_eq_true.1 hsz m (DataW.weights_mem_each (j := 0) (t := 62) (d := d0) rfl rfl m hm)
    simpa using this
  obtain ⟨A0, c0, L, A1, c1, A, A2, c2, B, A3, c3, T, rfl, hin⟩ := open_case6 (hval 0 62 v0 rfl rfl) h0 hwt
  clear hA0 hval0 hsz0 hsz hwt
  refine (tells_walk W hin).mono fun e W' ⟨he, bel⟩ => ?_
  subst he
  exact ⟨_, rfl, _, _, _, [], _, [], hW', trodAll_mk1 (shut_bool Try.underlying4 _), (trodAll_cons_mk (Below.trod Closed.s_laid (by kernel_rfl) (of_decide_eq_true (by kernel_rfl)) h0 bel lt0) trodAll_mk0), rfl, bel.frame _, fun h => by cases h⟩

theorem named : Try.prog.funcNamed Rows.unifyTellsRow.func = some 13 := by kernel_rfl
theorem rest : Closed.rest Try.prog 13 Try.f13 Rows.unifyTellsSpec Rows.unifyTellsRow = true := by kernel_rfl
theorem inst : Try.f13.isInstance Try.prog Rows.unifyTellsRow.origin Rows.unifyTellsRow.targs := of_decide_eq_true (by kernel_rfl)
theorem over : Rows.unifyTellsRow.holds Try.pinned (OpenSpec.ofChange Rows.unifyTellsSpec) :=
  OpenClaim.holds_of_wide 13 Try.f13 rfl rfl rfl rfl rfl rfl rfl ⟨rfl, rfl, rfl, rfl, rfl⟩ rfl rfl rfl rfl rfl named Try.func13 (Closed.closed_of rest)
    inst (by unfold Func.isWrapper; first | (rw [if_pos (by decide +kernel)]; kernel_rfl) | (rw [if_neg (by decide +kernel)]; exact ⟨rfl, rfl⟩))
    (fun os started H enc _ => lifted os started H enc)
theorem proved : Rows.UnifyTellsSaid := over
#print axioms proved
end Go.Proofs.Ytadjoaipmcbieaa.unifyTells
namespace Go.Proofs.Ytadjoaipmcbieaa
/-- The row, under a short name, for the claim. -/
theorem unifyTells_holds : Rows.UnifyTellsSaid := unifyTells.proved
end Go.Proofs.Ytadjoaipmcbieaa
