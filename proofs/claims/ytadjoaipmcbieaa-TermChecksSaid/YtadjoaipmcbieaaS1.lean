/- term.end: the place behind a subterm, as a function on the list. -/
import Derived.Test.YtadjoaipmcbieaaS0
namespace Go.Proofs.Ytadjoaipmcbieaa
open Go.RowKit Go.Proofs.YtadjoaipmcbieaaW.PrintWords Go.Proofs.YtadjoaipmcbieaaW.PrintLast Go.Proofs.YtadjoaipmcbieaaW.PrintMore A

/-- What the loop of term.end tells: the rest of the list, how many terms must come yet, the place. -/
def fin (a : Int → Int) : List Int → Int → Nat → Int
  | [], o, p => if 0 < o then p + 1 else p
  | n :: r, o, p => if 0 < o then fin a r (o + (a n - 1)) (p + 1) else p

/-- A signature as sig.Add makes it. -/
structure GoodL (l : List S89) : Prop where
  len : l.length ≤ 64
  ar : ∀ x ∈ l, 0 ≤ x.f1 ∧ x.f1 ≤ 6
theorem ar_bd {l : List S89} (h : GoodL l) (n : Int) : 0 ≤ ar l n ∧ ar l n ≤ 6 := by
  unfold ar; split
  · omega
  · unfold rd_T89
    rcases Nat.lt_or_ge n.toNat l.length with hl | hl
    · rw [List.getD_eq_getElem?_getD, List.getElem?_eq_getElem hl]
      exact h.ar _ (List.getElem_mem hl)
    · rw [List.getD_eq_getElem?_getD, List.getElem?_eq_none hl]; simp [z89]

theorem drop_rd (t : List Int) (p : Nat) (h : p < t.length) : t.drop p = rd t p :: t.drop (p + 1) := by
  rw [List.drop_eq_getElem_cons h]; simp [rd, List.getD_eq_getElem?_getD, List.getElem?_eq_getElem h]

theorem int_at {w : World} {A : Option Addr} {n : Nat} {xs : List Int} (h : Kd.C (Kd.int .i64) w A n xs) (p : Nat) (hp : p < n) : ∃ ad, A = some ad ∧ w.cell? (ad.add p) = some (.int .i64 (rd xs p)) := by
  obtain ⟨ad, e, hc⟩ := Kd.at_int h p (by omega) (by omega)
  exact ⟨ad, e, by simpa using hc⟩
theorem fin_stop {a : Int → Int} {r : List Int} {k : Int} {p : Nat} (h : ¬ 0 < k) : fin a r k p = p := by cases r <;> simp [fin, h]
theorem fin_end {a : Int → Int} {t : List Int} {k : Int} {p : Nat} (h : 0 < k) (hp : t.length ≤ p) : fin a (t.drop p) k p = p + 1 := by
  rw [List.drop_eq_nil_of_le hp]; simp [fin, h]
theorem fin_step {a : Int → Int} {t : List Int} {k : Int} {p : Nat} (h : 0 < k) (hp : p < t.length) : fin a (t.drop p) k p = fin a (t.drop (p + 1)) (k + (a (rd t p) - 1)) (p + 1) := by
  rw [drop_rd t p hp]; simp [fin, h]
theorem ret_int {k : IntKind} {a b : Int} (h : a = b) : Ending.returned (.int k a) = .returned (.int k b) := by rw [h]

set_option maxHeartbeats 1000000 in
theorem end_any (g : Nat) (l : List S89) (A : Option Addr) (c : Nat) (t : List Int) (p : Nat) (w : World) (hs : SigC w g l) (hl : GoodL l)
    (ht : Kd.C (Kd.int .i64) w A t.length t) (h2 : t.length ≤ 2000) (hp : p ≤ t.length) :
    Calls Try.prog 77 #[.pointer (some ⟨g, 0, none⟩), .slice A t.length c, .int .i64 p] w fun e w' => e = .returned (.int .i64 (fin (ar l) (t.drop p) 1 p)) ∧ Below w.heap.size w w' := by
  have HS := Aside0.mk hs
  have HL := Aside0.mk hl
  have HT := Aside0.mk ht
  clear hs hl ht
  generalize hR : fin (ar l) (t.drop p) 1 p = R
  have HR := Aside0.mk hR
  clear hR
  go_enter Try.func77, Try.ntmps77
  go_wp2
  go_loopw [2, 7] (fun a o wr => ∃ (p : Nat) (k : Int), a = .int .i64 p ∧ o = .int .i64 k ∧ p ≤ t.length ∧ Aside0 (0 ≤ k ∧ k ≤ 1 + 6 * p) ∧ Aside0 (fin (ar l) (t.drop p) k p = R) ∧ Aside0 (Below w.heap.size w wr)) (fun a _ _ => t.length + 1 - (intOf a).toNat)
  case atStart => exact ⟨p, 1, rfl, rfl, hp, ⟨by omega⟩, HR, ⟨Below.refl _ _⟩⟩
  case round =>
    obtain ⟨p, k, rfl, rfl, hp, ⟨hk0, hk1⟩, HR, HB⟩ := hrel
    by_cases hk : 0 < k
    · have e1 : decide (0 < k) = true := decide_eq_true hk
      by_cases hq : p = t.length
      · have e2 : ((p : Int) == (t.length : Int)) = true := beq_iff_eq.2 (by omega)
        have HE := Aside0.mk (HR.out.symm.trans (fin_end hk (by omega)))
        clear hq
        go_wp2
        go_ret
        exact ⟨ret_int HE.out.symm, HB.out⟩
      · have e2 : ((p : Int) == (t.length : Int)) = false := beq_eq_false_iff_ne.2 (by omega)
        obtain ⟨ad, e, hc⟩ := int_at (Kd.C_below HT.out HB.out) p (by omega)
        cases e
        have hA := ar_bd HL.out (rd t p)
        have HE := Aside0.mk ((fin_step (a := ar l) hk (show p < t.length by omega)).symm.trans HR.out)
        go_wp2_with (go_at_call 104; refine (arity_any g l (rd t p) _ (HS.out.below HB.out)).mono ?_; rintro e w1 ⟨rfl, hb⟩)
        go_roundw
        case rel => exact ⟨p + 1, _, by go_num, rfl, by omega, ⟨by omega⟩, HE, ⟨below_then HB.out (by have := HB.out.size; omega) hb⟩⟩
        case measure => simp [intOf]; omega
    · have e1 : decide (0 < k) = false := decide_eq_false hk
      have HE := Aside0.mk (HR.out.symm.trans (fin_stop hk))
      go_wp2
      go_ret
      exact ⟨ret_int HE.out.symm, HB.out⟩
end Go.Proofs.Ytadjoaipmcbieaa
