/- TermNil: the law 'ropewalklaw02.TermNil' returns true: of no signature every function of term tells ErrArg. No condition. -/
import Derived.Test.YtadjoaipmcbieaaRows
import Derived.Test.YtadjoaipmcbieaaN0
import Derived.Test.YtadjoaipmcbieaaN1
import Derived.Test.YtadjoaipmcbieaaK0
import Derived.WalkKit
import Derived.ProofKit
import Derived.OpenShut
import Derived.ChangeOld
import Derived.Below
import Derived.Carry
namespace Go.Proofs.Ytadjoaipmcbieaa.termNil
open Go.ChangeShapes Go.WideShapes Go.ChangeAt Go.RowKit Go.Proofs.YtadjoaipmcbieaaW.PrintWords Go.Proofs.YtadjoaipmcbieaaW.PrintLast Go.Proofs.YtadjoaipmcbieaaW.PrintMore A
theorem own : ownKnob Try.prog.godebug = none := by kernel_rfl

set_option maxRecDepth 100000 in
set_option maxHeartbeats 1000000 in
theorem walk (v : Value) (p : Int) (w : World) : Calls Try.prog 11 #[v, .int .i64 p] w fun e w' => e = .returned (.bool true) ∧ Below w.heap.size w w' := by
  go_enter Try.func11, Try.ntmps11
  go_wp2_with (go_at_call 25; refine (awake02 w).mono ?_; rintro e w1 ⟨rfl, h1⟩)
  have H1 := Aside0.mk h1
  clear h1
  refine (End_nil v p _).mono ?_
  rintro e w2 ⟨rfl, h2⟩
  have H2 := Aside0.mk (below_then H1.out H1.out.size h2)
  clear h2
  go_wp2_with fail
  refine (Args_nil v p _).mono ?_
  rintro e w3 ⟨rfl, h3⟩
  have H3 := Aside0.mk (below_then H2.out H2.out.size h3)
  clear h3
  go_wp2_with fail
  refine (Sub_nil v p _).mono ?_
  rintro e w4 ⟨rfl, h4⟩
  have H4 := Aside0.mk (below_then H3.out H3.out.size h4)
  clear h4
  go_wp2_with fail
  refine (Put_nil v v p _).mono ?_
  rintro e w5 ⟨rfl, h5⟩
  have H5 := Aside0.mk (below_then H4.out H4.out.size h5)
  clear h5
  go_wp2_with fail
  refine (Path_nil v p _).mono ?_
  rintro e w6 ⟨rfl, h6⟩
  have H6 := Aside0.mk (below_then H5.out H5.out.size h6)
  clear h6
  go_wp2_with fail
  refine (Place_nil v _ _).mono ?_
  rintro e w7 ⟨rfl, h7⟩
  have H7 := Aside0.mk (below_then (below_alloc' H6.out _ H6.out.size) (by have := H6.out.size; simp; omega) h7)
  clear h7
  go_wp2_with fail
  refine (Depth_nil v _).mono ?_
  rintro e w8 ⟨rfl, h8⟩
  have H8 := Aside0.mk (below_then H7.out H7.out.size h8)
  clear h8
  go_wp2_with fail
  refine (check_nil v _).mono ?_
  rintro e w9 ⟨rfl, h9⟩
  have H9 := Aside0.mk (below_then H8.out H8.out.size h9)
  clear h9
  go_wp2_with fail
  go_ret
  exact ⟨rfl, H9.out⟩

set_option maxRecDepth 100000 in
theorem lifted (os : Os) (started : os.Started) (H : Type) (enc : TypeId × Value → H) :
    ReturnsInHanded {} Try.checked os 11 .any (Rows.termNilSpec.pre6 enc Try.prog Try.f11 Rows.termNilRow.domain false) (Rows.termNilSpec.post enc Try.prog Try.f11 false true false false) := by
  refine returnsInHanded_of_change (C := Try.checked) own started (by kernel_rfl) Try.func11
    (ChangeSpec.witness6 (enc := enc) (C := Try.checked) false ⟨#[], #[.slice none 0 0, .int .i64 0], []⟩ 8 (by kernel_rfl) (by kernel_rfl) (by kernel_rfl) (by kernel_rfl)) ?_
  intro W base args ds gs before hval0 hW hcnd _
  have hval : ∀ (j : Nat) t v, Try.f11.params[j]? = some t → args[j]? = some v → Value.okWide Try.prog W .any base t v := hval0
  have hW' := hW
  obtain ⟨p, q, hA0, hV, rfl, hfz, hnd⟩ := hW
  have hA : DataW.TrodAll enc Try.prog W 0 (fun _ => true) true Try.f11.params.toList args.toList ds p := hA0
  rw [Try.params11] at hA hval
  obtain ⟨v0, vs0, d0, ds0, p0, q0, hargs, rfl, rfl, h0, r0⟩ := trodAll_cons hA
  obtain ⟨v1, vs1, d1, ds1, p1, q1, rfl, rfl, rfl, h1, r1⟩ := trodAll_cons r0
  obtain ⟨rfl, rfl, rfl⟩ := trodAll_nil r1
  obtain rfl : args = #[v0, v1] := by cases args; simp_all
  obtain ⟨rfl, rfl⟩ := trodVars_none hV
  have lt0 : ∀ x ∈ p0, x.block < W.heap.size := by obtain ⟨m, hm⟩ := h0; exact DataW.trod_lt m _ _ _ hm
  obtain ⟨a1, rfl, rfl, rfl, w1⟩ := open_int Try.underlying3 (hval 1 3 v1 rfl rfl) h1
  clear hA0 hval0
  refine (walk v0 a1 W).mono fun e W' ⟨he, bel⟩ => ?_
  subst he
  exact ⟨_, rfl, _, _, _, [], _, [], hW', trodAll_mk1 (shut_bool Try.underlying4 _), (trodAll_cons_mk (Below.trod Closed.s_laid (by kernel_rfl) (of_decide_eq_true (by kernel_rfl)) h0 bel lt0) (trodAll_cons_mk (shut_int Try.underlying3 w1) trodAll_mk0)), rfl, bel.frame _, fun h => by cases h⟩

theorem named : Try.prog.funcNamed Rows.termNilRow.func = some 11 := by kernel_rfl
theorem rest : Closed.rest Try.prog 11 Try.f11 Rows.termNilSpec Rows.termNilRow = true := by kernel_rfl
theorem inst : Try.f11.isInstance Try.prog Rows.termNilRow.origin Rows.termNilRow.targs := of_decide_eq_true (by kernel_rfl)
theorem over : Rows.termNilRow.holds Try.pinned (OpenSpec.ofChange Rows.termNilSpec) :=
  OpenClaim.holds_of_wide 11 Try.f11 rfl rfl rfl rfl rfl rfl rfl ⟨rfl, rfl, rfl, rfl, rfl⟩ rfl rfl rfl rfl rfl named Try.func11 (Closed.closed_of rest)
    inst (by unfold Func.isWrapper; first | (rw [if_pos (by decide +kernel)]; kernel_rfl) | (rw [if_neg (by decide +kernel)]; exact ⟨rfl, rfl⟩))
    (fun os started H enc _ => lifted os started H enc)
theorem proved : Rows.TermNilSaid := over
#print axioms proved
end Go.Proofs.Ytadjoaipmcbieaa.termNil
namespace Go.Proofs.Ytadjoaipmcbieaa
/-- The row, under a short name, for the claim. -/
theorem termNil_holds : Rows.TermNilSaid := termNil.proved
end Go.Proofs.Ytadjoaipmcbieaa
