/- UnifyNil: the law 'ropewalklaw06.UnifyNil' returns true: of no signature Unify, Overlap and Clash tell ErrArg. No condition. -/
import Derived.Test.YtadjoaipmcbieaaRows
import Derived.Test.YtadjoaipmcbieaaUZ
import Derived.Test.YtadjoaipmcbieaaE0
import Derived.Test.YtadjoaipmcbieaaK0
import Derived.WalkKit
import Derived.ProofKit
import Derived.OpenShut
import Derived.ChangeOld
import Derived.Below
import Derived.Carry
import Derived.SizedLaws
namespace Go.Proofs.Ytadjoaipmcbieaa.unifyNil
open Go.ChangeShapes Go.WideShapes Go.ChangeAt Go.RowKit Go.Proofs.YtadjoaipmcbieaaW.PrintWords Go.Proofs.YtadjoaipmcbieaaW.PrintLast Go.Proofs.YtadjoaipmcbieaaW.PrintMore A
theorem own : ownKnob Try.prog.godebug = none := by kernel_rfl

set_option maxRecDepth 100000 in
set_option maxHeartbeats 1000000 in
theorem walk (A : Option Addr) (n c : Nat) (w : World) : Calls Try.prog 17 #[.slice A n c] w fun e w' => e = .returned (.bool true) ∧ Below w.heap.size w w' := by
  go_enter Try.func17, Try.ntmps17
  go_wp2_with fail
  refine (awake06 _).mono ?_
  rintro e w1 ⟨rfl, h1⟩
  have H1 := Aside0.mk h1
  clear h1
  go_wp2_with fail
  refine (Unify_nil A n c A n c _).mono ?_
  rintro e w2 ⟨rfl, h2⟩
  have H2 := Aside0.mk (below_then H1.out H1.out.size h2)
  clear h2
  go_wp2_with fail
  refine (Overlap_nil A n c A n c _).mono ?_
  rintro e w3 ⟨rfl, h3⟩
  have H3 := Aside0.mk (below_then H2.out H2.out.size h3)
  clear h3
  go_wp2_with fail
  refine (Clash_nil A n c A n c _).mono ?_
  rintro e w4 ⟨rfl, h4⟩
  have H4 := Aside0.mk (below_then H3.out H3.out.size h4)
  clear h4
  go_wp2_with fail
  go_ret
  exact ⟨rfl, H4.out⟩

set_option maxRecDepth 100000 in
theorem lifted (os : Os) (started : os.Started) (H : Type) (enc : TypeId × Value → H) :
    ReturnsInHanded {} Try.checked os 17 .any (Rows.unifyNilSpec.pre6 enc Try.prog Try.f17 Rows.unifyNilRow.domain false) (Rows.unifyNilSpec.post enc Try.prog Try.f17 false true false false) := by
  refine returnsInHanded_of_change_sized (C := Try.checked) own started (by kernel_rfl) Try.func17
    (ChangeSpec.witness6 (enc := enc) (C := Try.checked) false ⟨#[], #[.slice none 0 0], []⟩ 8 (by kernel_rfl) (by kernel_rfl) (by kernel_rfl) (by kernel_rfl)) ?_
  intro W base args ds gs before hval0 hW hcnd hsz0 _
  have hsz : (DataW.weightsEach Try.prog (Try.f17.params.toList ++ Rows.unifyNilSpec.plain.varTypes Try.prog) (ds ++ gs)).all (· ≤ reachBytes) = true := hsz0
  have hval : ∀ (j : Nat) t v, Try.f17.params[j]? = some t → args[j]? = some v → Value.okWide Try.prog W .any base t v := hval0
  have hW' := hW
  obtain ⟨p, q, hA0, hV, rfl, hfz, hnd⟩ := hW
  have hA : DataW.TrodAll enc Try.prog W 0 (fun _ => true) true Try.f17.params.toList args.toList ds p := hA0
  rw [Try.params17] at hA hval hsz
  obtain ⟨v0, vs0, d0, ds0, p0, q0, hargs, rfl, rfl, h0, r0⟩ := trodAll_cons hA
  obtain ⟨rfl, rfl, rfl⟩ := trodAll_nil r0
  obtain rfl : args = #[v0] := by cases args; simp_all
  obtain ⟨rfl, rfl⟩ := trodVars_none hV
  have lt0 : ∀ x ∈ p0, x.block < W.heap.size := by obtain ⟨m, hm⟩ := h0; exact DataW.trod_lt m _ _ _ hm
  have hwt : ∀ m ∈ d0.weights Try.prog 25, m ≤ reachBytes := fun m hm => by
    have := List.all_eq_true.1 hsz m (DataW.weights_mem_each (j := 0) (t := 25) (d := d0) rfl rfl m hm)
    simpa using this
  obtain ⟨A, n, c, rfl⟩ := okWide_slice Try.underlying25 (hval 0 25 v0 rfl rfl)
  clear hA0 hval0 hsz0 hsz hwt
  refine (walk A n c W).mono fun e W' ⟨he, bel⟩ => ?_
  subst he
  exact ⟨_, rfl, _, _, _, [], _, [], hW', trodAll_mk1 (shut_bool Try.underlying4 _), (trodAll_cons_mk (Below.trod Closed.s_laid (by kernel_rfl) (of_decide_eq_true (by kernel_rfl)) h0 bel lt0) trodAll_mk0), rfl, bel.frame _, fun h => by cases h⟩

theorem named : Try.prog.funcNamed Rows.unifyNilRow.func = some 17 := by kernel_rfl
theorem rest : Closed.rest Try.prog 17 Try.f17 Rows.unifyNilSpec Rows.unifyNilRow = true := by kernel_rfl
theorem inst : Try.f17.isInstance Try.prog Rows.unifyNilRow.origin Rows.unifyNilRow.targs := of_decide_eq_true (by kernel_rfl)
theorem over : Rows.unifyNilRow.holds Try.pinned (OpenSpec.ofChange Rows.unifyNilSpec) :=
  OpenClaim.holds_of_wide 17 Try.f17 rfl rfl rfl rfl rfl rfl rfl ⟨rfl, rfl, rfl, rfl, rfl⟩ rfl rfl rfl rfl rfl named Try.func17 (Closed.closed_of rest)
    inst (by unfold Func.isWrapper; first | (rw [if_pos (by decide +kernel)]; kernel_rfl) | (rw [if_neg (by decide +kernel)]; exact ⟨rfl, rfl⟩))
    (fun os started H enc _ => lifted os started H enc)
theorem proved : Rows.UnifyNilSaid := over
#print axioms proved
end Go.Proofs.Ytadjoaipmcbieaa.unifyNil
namespace Go.Proofs.Ytadjoaipmcbieaa
/-- The row, under a short name, for the claim. -/
theorem unifyNil_holds : Rows.UnifyNilSaid := unifyNil.proved
end Go.Proofs.Ytadjoaipmcbieaa
