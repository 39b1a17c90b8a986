/- TermPlainsUpto: the law 'ropewalklaw02.TermPlains' returns true where what it reads is of bulk at most 1048576: Variables and Plain of any lists are as the document says. The condition: the bound of the statement itself. -/
import Derived.Test.YtadjoaipmcbieaaRows
import Derived.Test.YtadjoaipmcbieaaOC6
import Derived.WalkKit
import Derived.ProofKit
import Derived.OpenShut
import Derived.ChangeOld
import Derived.Below
import Derived.Carry
import Derived.SizedLaws
import Derived.JoinedCond
namespace Go.Proofs.Ytadjoaipmcbieaa.termPlains
open Go.ChangeShapes Go.WideShapes Go.ChangeAt Go.RowKit Go.Proofs.YtadjoaipmcbieaaW.PrintWords Go.Proofs.YtadjoaipmcbieaaW.PrintLast Go.Proofs.YtadjoaipmcbieaaW.PrintMore A
theorem own : ownKnob Try.prog.godebug = none := by kernel_rfl

set_option maxRecDepth 100000 in
theorem lifted (os : Os) (started : os.Started) (H : Type) (enc : TypeId × Value → H) (F : Stop.Interp) :
    ReturnsInHanded {} Try.checked os 10 .any ((Rows.OpenSpec.upto Rows.termPlainsSpec).pre6 enc Try.prog Try.f10 Rows.termPlainsUptoRow.domain false) (((Rows.OpenSpec.upto Rows.termPlainsSpec).at F).post enc Try.prog Try.f10 false true false false) := by
  refine returnsInHanded_of_cond (C := Try.checked) (s := Rows.OpenSpec.upto Rows.termPlainsSpec) (k := Rows.uptoSmall) rfl own started (by kernel_rfl) Try.func10
    (OpenSpec.witness (enc := enc) (C := Try.checked) (s := Rows.OpenSpec.upto Rows.termPlainsSpec) (k := Rows.uptoSmall) rfl false ⟨#[], #[.slice none 0 0], []⟩ 8 (by kernel_rfl) (by kernel_rfl) (by kernel_rfl)
      (x := ([.nil], [], [])) (by kernel_rfl) rfl (by kernel_rfl)) ?_
  intro W base args ds gs before hval0 hW _ hk _
  have hval : ∀ (j : Nat) t v, Try.f10.params[j]? = some t → args[j]? = some v → Value.okWide Try.prog W .any base t v := hval0
  have hW' := hW
  obtain ⟨p, q, hA0, hV, rfl, hfz, hnd⟩ := hW
  have hA : DataW.TrodAll enc Try.prog W 0 (fun _ => true) true Try.f10.params.toList args.toList ds p := hA0
  rw [Try.params10] at hA hval
  obtain ⟨v0, vs0, d0, ds0, p0, q0, hargs, rfl, rfl, h0, r0⟩ := trodAll_cons hA
  obtain ⟨rfl, rfl, rfl⟩ := trodAll_nil r0
  obtain rfl : args = #[v0] := by cases args; simp_all
  obtain ⟨rfl, rfl⟩ := trodVars_none hV
  have lt0 : ∀ x ∈ p0, x.block < W.heap.size := by obtain ⟨m, hm⟩ := h0; exact DataW.trod_lt m _ _ _ hm
  have hbulk : Rows.uptoBulk d0 ≤ 1048576 := by
    have h := of_decide_eq_true hk
    simp only [List.append_nil, Rows.uptoBulkAll] at h
    omega
  obtain ⟨A, c, ls, rfl, hc, hC, hn, hl⟩ : ∃ (A : Option Addr) (c : Nat) (ls : List (List Int)), v0 = .slice A ls.length c ∧ ls.length ≤ c ∧ Kd.C (Kd.slice 3 (Kd.int .i64)) W A ls.length ls ∧ ls.length ≤ 1048576 ∧ ∀ t ∈ ls, t.length ≤ 1048576 := by
    obtain ⟨fuel, hf⟩ := h0
    obtain ⟨A, n, c, rfl⟩ := okWide_slice Try.underlying54 (hval 0 54 v0 rfl rfl)
    exact open_terms (fuel := fuel) hf hbulk
  clear hA0 hval0
  refine (plains_walk A c ls W hC hc hn hl).mono fun e W' ⟨he, bel⟩ => ?_
  subst he
  exact ⟨_, rfl, _, _, _, [], _, [], hW', trodAll_mk1 (shut_bool Try.underlying4 _), (trodAll_cons_mk (Below.trod Closed.s_laid (by kernel_rfl) (of_decide_eq_true (by kernel_rfl)) h0 bel lt0) trodAll_mk0), rfl, bel.frame _, fun h => by cases h⟩

theorem named : Try.prog.funcNamed Rows.termPlainsUptoRow.func = some 10 := by kernel_rfl
theorem rest : Closed.rest Try.prog 10 Try.f10 Rows.termPlainsSpec Rows.termPlainsUptoRow = true := by kernel_rfl
theorem inst : Try.f10.isInstance Try.prog Rows.termPlainsUptoRow.origin Rows.termPlainsUptoRow.targs := of_decide_eq_true (by kernel_rfl)
theorem over : Rows.termPlainsUptoRow.holds Try.pinned (Rows.OpenSpec.upto Rows.termPlainsSpec) :=
  OpenClaim.holds_of_cond 10 Try.f10 rfl rfl rfl rfl rfl rfl rfl ⟨rfl, rfl, rfl, rfl, rfl⟩ rfl rfl rfl rfl rfl named Try.func10 (Closed.closed_of rest)
    inst (by unfold Func.isWrapper; first | (rw [if_pos (by decide +kernel)]; kernel_rfl) | (rw [if_neg (by decide +kernel)]; exact ⟨rfl, rfl⟩))
    (fun os started H enc _ F => lifted os started H enc F)
theorem proved : Rows.TermPlainsUptoSaid := over
#print axioms proved
end Go.Proofs.Ytadjoaipmcbieaa.termPlains
namespace Go.Proofs.Ytadjoaipmcbieaa
/-- The row, under a short name, for the claim. -/
theorem termPlains_holds : Rows.TermPlainsUptoSaid := termPlains.proved
end Go.Proofs.Ytadjoaipmcbieaa
