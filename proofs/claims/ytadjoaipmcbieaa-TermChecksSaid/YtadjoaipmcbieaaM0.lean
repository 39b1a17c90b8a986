/- sig.New; a signature while it is being made: its list and its index. -/
import Derived.Test.YtadjoaipmcbieaaS1
import Derived.StillTailTactics
namespace Go.Proofs.Ytadjoaipmcbieaa
open Go.RowKit Go.Proofs.YtadjoaipmcbieaaW.PrintWords Go.Proofs.YtadjoaipmcbieaaW.PrintLast Go.Proofs.YtadjoaipmcbieaaW.PrintMore A
open Go.Maps

theorem keyed9 : Keyed Try.prog 9 := string_keyed Try.underlying9
theorem zero3 (w : World) : (zeroValue 3).run Try.prog w = .ok (.int .i64 0) w := by kernel_rfl

/-- The block m is a map that has just these keys. -/
def IdxM (w : World) (m : Nat) (ks : List ByteArray) : Prop :=
  ∃ D : DataW Unit, w.ownsMap Try.prog 9 (plainElem Try.prog 3) m ks.length D ∧ ∀ k : ByteArray, Maps.has D (.string k.data.toList) = ks.any (fun x => decide (x = k))
theorem IdxM.kept {w w' : World} {m : Nat} {ks : List ByteArray} {row : Option Nat} (h : IdxM w m ks) (hg : w.grownBy w' row) (hne : some m ≠ row) : IdxM w' m ks := by
  obtain ⟨D, h1, h2⟩ := h
  exact ⟨D, h1.kept hg hne, h2⟩
theorem IdxM.lt {w : World} {m : Nat} {ks : List ByteArray} (h : IdxM w m ks) : m < w.heap.size := by
  obtain ⟨D, h1, _⟩ := h
  exact h1.lt
theorem IdxM.below {w w' : World} {m : Nat} {ks : List ByteArray} (h : IdxM w m ks) (hb : Below w.heap.size w w') : IdxM w' m ks := h.kept (grown_of_below hb none) (by simp)

theorem new_any (w : World) :
    Calls Try.prog 72 #[] w fun e w' => e = .returned (.pointer (some ⟨w.heap.size + 1, 0, none⟩)) ∧ w' = (w.alloc (.map #[] 0)).alloc (.cells #[.slice none 0 0, .map (some w.heap.size)] 126) := by
  have hmm := @run_makeMap Try.prog
  go_enter Try.func72, Try.ntmps72
  go_wp2
  go_ret
  exact ⟨rfl, rfl⟩
end Go.Proofs.Ytadjoaipmcbieaa
