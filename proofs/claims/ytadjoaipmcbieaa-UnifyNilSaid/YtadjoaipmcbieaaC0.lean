/- The laws' Case: what came in, and where its box stands. -/
import Derived.Test.YtadjoaipmcbieaaN0
import Derived.Test.YtadjoaipmcbieaaL0
import Derived.Test.YtadjoaipmcbieaaQ1
import Derived.Test.YtadjoaipmcbieaaQ2
namespace Go.Proofs.Ytadjoaipmcbieaa
open Go.RowKit Go.Proofs.YtadjoaipmcbieaaW.PrintWords Go.Proofs.YtadjoaipmcbieaaW.PrintLast Go.Proofs.YtadjoaipmcbieaaW.PrintMore A

/-- A box's five cells. -/
def Box (w : World) (b : Nat) (v0 v1 v2 v3 v4 : Value) : Prop :=
  w.cell? ⟨b, 0, none⟩ = some v0 ∧ w.cell? ⟨b, 1, none⟩ = some v1 ∧ w.cell? ⟨b, 2, none⟩ = some v2 ∧ w.cell? ⟨b, 3, none⟩ = some v3 ∧ w.cell? ⟨b, 4, none⟩ = some v4
theorem Box.below {w w' : World} {b : Nat} {v0 v1 v2 v3 v4 : Value} (h : Box w b v0 v1 v2 v3 v4) (hb : Below w.heap.size w w') : Box w' b v0 v1 v2 v3 v4 :=
  ⟨pw_cell_below hb h.1, pw_cell_below hb h.2.1, pw_cell_below hb h.2.2.1, pw_cell_below hb h.2.2.2.1, pw_cell_below hb h.2.2.2.2⟩
theorem box_new (w : World) (v0 v1 v2 v3 v4 : Value) (t : TypeId) : Box (w.alloc (.cells #[v0, v1, v2, v3, v4] t)) w.heap.size v0 v1 v2 v3 v4 := by
  refine ⟨?_, ?_, ?_, ?_, ?_⟩ <;> (rw [cell_of_row _ _ _ _ _ _ (heap_alloc_new w _)]; rfl)

/-- What a law's Case leads to. -/
structure CaseIn (w : World) (A0 : Option Addr) (c0 : Nat) (L : List S89) (A1 : Option Addr) (c1 : Nat) (T : List Int) (p : Int) (A3 : Option Addr) (c3 : Nat) (U : List Int) (A4 : Option Addr) (c4 : Nat) (P : List Int) : Prop where
  l : Kd.C k89 w A0 L.length L
  lc : L.length ≤ c0
  ln : ∀ x ∈ L, x.f0.size ≤ maxLen
  t : Kd.C (Kd.int .i64) w A1 T.length T
  tc : T.length ≤ c1
  tl : T.length ≤ 17592186044415
  p0 : -9223372036854775808 ≤ p
  p1 : p ≤ 9223372036854775807
  u : Kd.C (Kd.int .i64) w A3 U.length U
  uc : U.length ≤ c3
  ul : U.length ≤ 17592186044415
  q : Kd.C (Kd.int .i64) w A4 P.length P
  qc : P.length ≤ c4
  ql : P.length ≤ 17592186044415
theorem CaseIn.below {w w' : World} {A0 : Option Addr} {c0 : Nat} {L : List S89} {A1 : Option Addr} {c1 : Nat} {T : List Int} {p : Int} {A3 : Option Addr} {c3 : Nat} {U : List Int} {A4 : Option Addr} {c4 : Nat} {P : List Int}
    (h : CaseIn w A0 c0 L A1 c1 T p A3 c3 U A4 c4 P) (hb : Below w.heap.size w w') : CaseIn w' A0 c0 L A1 c1 T p A3 c3 U A4 c4 P :=
  ⟨Kd.C_below h.l hb, h.lc, h.ln, Kd.C_below h.t hb, h.tc, h.tl, h.p0, h.p1, Kd.C_below h.u hb, h.uc, h.ul, Kd.C_below h.q hb, h.qc, h.ql⟩
/-- The box, and what its fields lead to. -/
def Held (w : World) (b : Nat) (A0 : Option Addr) (c0 : Nat) (L : List S89) (A1 : Option Addr) (c1 : Nat) (T : List Int) (p : Int) (A3 : Option Addr) (c3 : Nat) (U : List Int) (A4 : Option Addr) (c4 : Nat) (P : List Int) : Prop :=
  Box w b (.slice A0 L.length c0) (.slice A1 T.length c1) (.int .i64 p) (.slice A3 U.length c3) (.slice A4 P.length c4) ∧ CaseIn w A0 c0 L A1 c1 T p A3 c3 U A4 c4 P
theorem Held.below {w w' : World} {b : Nat} {A0 : Option Addr} {c0 : Nat} {L : List S89} {A1 : Option Addr} {c1 : Nat} {T : List Int} {p : Int} {A3 : Option Addr} {c3 : Nat} {U : List Int} {A4 : Option Addr} {c4 : Nat} {P : List Int}
    (h : Held w b A0 c0 L A1 c1 T p A3 c3 U A4 c4 P) (hb : Below w.heap.size w w') : Held w' b A0 c0 L A1 c1 T p A3 c3 U A4 c4 P := ⟨h.1.below hb, h.2.below hb⟩
theorem held_new {w : World} {A0 : Option Addr} {c0 : Nat} {L : List S89} {A1 : Option Addr} {c1 : Nat} {T : List Int} {p : Int} {A3 : Option Addr} {c3 : Nat} {U : List Int} {A4 : Option Addr} {c4 : Nat} {P : List Int}
    (h : CaseIn w A0 c0 L A1 c1 T p A3 c3 U A4 c4 P) : Held (w.alloc (.cells #[.slice A0 L.length c0, .slice A1 T.length c1, .int .i64 p, .slice A3 U.length c3, .slice A4 P.length c4] 27)) w.heap.size A0 c0 L A1 c1 T p A3 c3 U A4 c4 P :=
  ⟨box_new w _ _ _ _ _ _, h.below (below_alloc (Below.refl _ _) _)⟩

/-- Where a law stands: what it has kept, the box, the signature, the document's list of symbols. -/
structure St (w W : World) (g : Nat) (Ar : Option Addr) (M : List S89) (A0 : Option Addr) (c0 : Nat) (L : List S89) (A1 : Option Addr) (c1 : Nat) (T : List Int) (p : Int) (A3 : Option Addr) (c3 : Nat) (U : List Int) (A4 : Option Addr) (c4 : Nat) (P : List Int) : Prop where
  b : Below w.heap.size w W
  h : Held W w.heap.size A0 c0 L A1 c1 T p A3 c3 U A4 c4 P
  s : SigC W g M
  r : Kd.C k89 W Ar M.length M
theorem St.below {w W W' : World} {g : Nat} {Ar : Option Addr} {M : List S89} {A0 : Option Addr} {c0 : Nat} {L : List S89} {A1 : Option Addr} {c1 : Nat} {T : List Int} {p : Int} {A3 : Option Addr} {c3 : Nat} {U : List Int} {A4 : Option Addr} {c4 : Nat} {P : List Int}
    (h : St w W g Ar M A0 c0 L A1 c1 T p A3 c3 U A4 c4 P) (hb : Below W.heap.size W W') : St w W' g Ar M A0 c0 L A1 c1 T p A3 c3 U A4 c4 P :=
  ⟨below_then h.b h.b.size hb, h.h.below hb, h.s.below hb, Kd.C_below h.r hb⟩
end Go.Proofs.Ytadjoaipmcbieaa
