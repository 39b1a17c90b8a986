/- ropewalkref02.Same: whether two lists are the same. -/
import Derived.Test.YtadjoaipmcbieaaGA
namespace Go.Proofs.Ytadjoaipmcbieaa
open Go.RowKit Go.Proofs.YtadjoaipmcbieaaW.PrintWords Go.Proofs.YtadjoaipmcbieaaW.PrintLast Go.Proofs.YtadjoaipmcbieaaW.PrintMore A

theorem wrap_suc (i n : Nat) (h : i < n) (hn : n ≤ 9223372036854775807) : wrap64 ((i : Int) + 1) = ((i + 1 : Nat) : Int) := by unfold wrap64; omega
theorem rd_nat (xs : List Int) (i : Nat) (h : i < xs.length) : rd xs i = xs[i] := by simp [rd, List.getD_eq_getElem?_getD, List.getElem?_eq_getElem h]

theorem same_l0 (l0 l1 : List Int) (hl : l0.length = l1.length) (hm : l0.length ≤ 9223372036854775807) : ∀ (n i k : Nat), i + n = l0.length → n < k →
    ropewalkref02_Same.l0 k l0 l1 i = some (decide (l0.drop i = l1.drop i))
  | 0, i, k + 1, h, _ => by
    simp only [ropewalkref02_Same.l0]; rw [if_neg (by omega), List.drop_eq_nil_of_le (by omega), List.drop_eq_nil_of_le (by omega)]; simp
  | n + 1, i, k + 1, h, hk => by
    have h0 : i < l0.length := by omega
    have h1 : i < l1.length := by omega
    simp only [ropewalkref02_Same.l0]
    rw [if_pos (by omega), if_pos (by omega), if_pos (by omega), rd_nat l0 i h0, rd_nat l1 i h1, wrap_suc i _ h0 hm, List.drop_eq_getElem_cons h0, List.drop_eq_getElem_cons h1]
    by_cases e : l0[i] = l1[i]
    · rw [if_pos e, same_l0 l0 l1 hl hm n (i + 1) k (by omega) (by omega)]; simp only [e, List.cons.injEq, true_and]
    · rw [if_neg e]; simp only [List.cons.injEq, e, false_and, decide_false]
theorem same_f (l0 l1 : List Int) (hm : l0.length ≤ 9223372036854775807) : ropewalkref02_Same.f (l0.length + 1) l0 l1 = some (decide (l0 = l1)) := by
  unfold ropewalkref02_Same.f
  by_cases h : l0.length = l1.length
  · rw [if_pos (by omega)]
    exact same_l0 l0 l1 h hm l0.length 0 _ (by omega) (by omega)
  · rw [if_neg (by omega), decide_eq_false (fun e => h (by rw [e]))]

theorem same_any (A0 : Option Addr) (c0 : Nat) (l0 : List Int) (A1 : Option Addr) (c1 : Nat) (l1 : List Int) (w : World) (hr0 : Kd.C (Kd.int .i64) w A0 l0.length l0) (hc0 : l0.length ≤ c0)
    (hr1 : Kd.C (Kd.int .i64) w A1 l1.length l1) (hc1 : l1.length ≤ c1) :
    Calls Try.prog 42 #[.slice A0 l0.length c0, .slice A1 l1.length c1] w fun e w' => e = .returned (.bool (decide (l0 = l1))) ∧ Drawn0 w w' :=
  ropewalkref02_Same.calls _ A0 c0 l0 A1 c1 l1 _ w hr0 hc0 hr1 hc1 (same_f l0 l1 hr0.2.1)
theorem same_n (A0 : Option Addr) (n0 c0 : Nat) (l0 : List Int) (A1 : Option Addr) (n1 c1 : Nat) (l1 : List Int) (w : World) (hr0 : Kd.C (Kd.int .i64) w A0 n0 l0) (hc0 : n0 ≤ c0)
    (hr1 : Kd.C (Kd.int .i64) w A1 n1 l1) (hc1 : n1 ≤ c1) :
    Calls Try.prog 42 #[.slice A0 n0 c0, .slice A1 n1 c1] w fun e w' => e = .returned (.bool (decide (l0 = l1))) ∧ Drawn0 w w' := by
  obtain rfl : l0.length = n0 := hr0.1
  obtain rfl : l1.length = n1 := hr1.1
  exact same_any A0 c0 l0 A1 c1 l1 w hr0 hc0 hr1 hc1
end Go.Proofs.Ytadjoaipmcbieaa
