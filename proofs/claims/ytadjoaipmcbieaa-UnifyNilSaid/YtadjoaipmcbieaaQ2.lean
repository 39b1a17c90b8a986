/- ropewalklaw02.apart: of the same lists, each an own row, it answers true. -/
import Derived.Test.YtadjoaipmcbieaaGD
import Derived.Test.YtadjoaipmcbieaaR0
import Derived.Test.YtadjoaipmcbieaaQ0
namespace Go.Proofs.Ytadjoaipmcbieaa
open Go.RowKit Go.Proofs.YtadjoaipmcbieaaW.PrintWords Go.Proofs.YtadjoaipmcbieaaW.PrintLast Go.Proofs.YtadjoaipmcbieaaW.PrintMore A

theorem rsame_self (l : List Int) (hl : l.length ≤ 9223372036854775807) {k : Nat} (hk : l.length < k) : ropewalkref02_Same.f k l l = some true := by
  unfold ropewalkref02_Same.f
  rw [if_pos rfl, show (0 : Int) = ((0 : Nat) : Int) from rfl, same_l0 l l rfl hl l.length 0 k (by omega) hk]
  simp
theorem rapart_l1 (l : List Int) (hl : l.length ≤ 100000) : ∀ (n i k : Nat) (x : List Int), i + n = 9 → n + l.length + 1 < k → x.length + n ≤ 100010 → ropewalklaw02_apart.l1 k x l l true i = some true
  | 0, i, k + 1, x, h, hk, hx => by
    simp only [ropewalklaw02_apart.l1]
    rw [if_neg (by omega), if_pos trivial, rsame_self l (by omega) (by omega)]; rfl
  | n + 1, i, k + 1, x, h, hk, hx => by
    simp only [ropewalklaw02_apart.l1]
    rw [if_pos (by omega), if_pos (by omega), wrap_id (by omega) (by omega), show (i : Int) + 1 = ((i + 1 : Nat) : Int) by omega]
    exact rapart_l1 l hl n (i + 1) k _ (by omega) (by omega) (by simp; omega)
theorem rapart_l0 (l : List Int) (hl : l.length ≤ 100000) : ∀ (n i k : Nat) (x : List Int), i + n = x.length → n + l.length + 12 < k → x.length ≤ 100000 → ropewalklaw02_apart.l0 k x l l true i = some true
  | 0, i, k + 1, x, h, hk, hx => by
    simp only [ropewalklaw02_apart.l0]
    rw [if_neg (by omega), show (0 : Int) = ((0 : Nat) : Int) from rfl]
    exact rapart_l1 l hl 9 0 k x (by omega) (by omega) (by omega)
  | n + 1, i, k + 1, x, h, hk, hx => by
    simp only [ropewalklaw02_apart.l0]
    rw [if_pos (by omega), if_pos (by omega), wrap_id (by omega) (by omega), show (i : Int) + 1 = ((i + 1 : Nat) : Int) by omega]
    exact rapart_l0 l hl n (i + 1) k _ (by simp; omega) (by omega) (by simpa using hx)
theorem rapart (l : List Int) (hl : l.length ≤ 100000) {k : Nat} (hk : 2 * l.length + 12 < k) : ropewalklaw02_apart.f k l l l = some true := by
  unfold ropewalklaw02_apart.f
  rw [rsame_self l (by omega) (by omega), Option.bind_some, show (0 : Int) = ((0 : Nat) : Int) from rfl]
  exact rapart_l0 l hl l.length 0 k l (by omega) (by omega) hl

theorem apart_any (w0 w : World) (hB : Below w0.heap.size w0 w) (l : List Int) (hl : l.length ≤ 100000) (va vb vc : Value) (bb bc : Nat) (ob oc : Nat → Prop) (ha : Kd.R (Kd.int .i64) 3 w w0.heap.size (fun _ => True) va l)
    (hb : Kd.R (Kd.int .i64) 3 w bb ob vb l) (hob : ∀ k, ob k → some k ≠ va.ownBlock) (hc : Kd.R (Kd.int .i64) 3 w bc oc vc l) (hoc : ∀ k, oc k → some k ≠ va.ownBlock) :
    Calls Try.prog 33 #[va, vb, vc] w fun e w' => e = .returned (.bool true) ∧ Below w0.heap.size w0 w' ∧ Kept w w' (fun k => some k = va.ownBlock) := by
  obtain ⟨A1, c1, rfl, hc1, _⟩ := Kd.R_reads hb
  obtain ⟨A2, c2, rfl, hc2, _⟩ := Kd.R_reads hc
  exact ropewalklaw02_apart.calls _ _ va l A1 c1 l A2 c2 l true w0 w hB (Kd.R_tight rfl ha) (Kd.C_kept_own hb (fun k hk h => hob k hk h)) hc1 (Kd.C_kept_own hc (fun k hk h => hoc k hk h)) hc2 (rapart l hl (Nat.lt_succ_self _))
end Go.Proofs.Ytadjoaipmcbieaa
