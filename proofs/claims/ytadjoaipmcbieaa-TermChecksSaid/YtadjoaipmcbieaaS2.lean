/- term.Check: what is wrong with a list, as a function. -/
import Derived.Test.YtadjoaipmcbieaaS1
namespace Go.Proofs.Ytadjoaipmcbieaa
open Go.RowKit Go.Proofs.YtadjoaipmcbieaaW.PrintWords Go.Proofs.YtadjoaipmcbieaaW.PrintLast Go.Proofs.YtadjoaipmcbieaaW.PrintMore A

def badN (L : Int) (n : Int) : Int := if L ≤ n then 21 else if n < -99 then 22 else 0
def bads (L : Int) : List Int → Int → Int
  | [], z => z
  | n :: r, z => if badN L n = 0 then bads L r z else badN L n
def shape (l : List S89) (t : List Int) : Int := if t.length = 0 then 23 else if fin (ar l) t 1 0 = t.length then 0 else 23
def chk (l : List S89) (t : List Int) : Int := if 2000 < t.length then 20 else bads l.length t (shape l t)

theorem bads_step {L z : Int} {t : List Int} {p : Nat} (hp : p < t.length) : bads L (t.drop p) z = if badN L (rd t p) = 0 then bads L (t.drop (p + 1)) z else badN L (rd t p) := by
  rw [drop_rd t p hp]; simp [bads]
theorem bads_end {L z : Int} {t : List Int} {p : Nat} (hp : t.length ≤ p) : bads L (t.drop p) z = z := by
  rw [List.drop_eq_nil_of_le hp]; simp [bads]
theorem badN_sym {L n : Int} (h : L ≤ n) : badN L n = 21 := if_pos h
theorem badN_var {L n : Int} (h : ¬ L ≤ n) (h2 : n < -99) : badN L n = 22 := by unfold badN; rw [if_neg h, if_pos h2]
theorem badN_ok {L n : Int} (h : ¬ L ≤ n) (h2 : ¬ n < -99) : badN L n = 0 := by unfold badN; rw [if_neg h, if_neg h2]

set_option maxHeartbeats 1000000 in
theorem check_nil (v : Value) (w : World) :
    Calls Try.prog 38 #[.pointer none, v] w fun e w' => e = .returned (.int .i64 1) ∧ Below w.heap.size w w' := by
  go_enter Try.func38, Try.ntmps38
  go_wp2
  go_ret
  exact ⟨rfl, Below.refl _ _⟩

set_option maxHeartbeats 1000000 in
theorem check_long (g : Nat) (A : Option Addr) (c n : Nat) (w : World) (h : 2000 < n) :
    Calls Try.prog 38 #[.pointer (some ⟨g, 0, none⟩), .slice A n c] w fun e w' => e = .returned (.int .i64 20) ∧ Below w.heap.size w w' := by
  have e1 : decide (2000 < (n : Int)) = true := decide_eq_true (by omega)
  go_enter Try.func38, Try.ntmps38
  go_wp2
  go_ret
  exact ⟨rfl, Below.refl _ _⟩

set_option maxHeartbeats 1000000 in
theorem check_any (g : Nat) (l : List S89) (A : Option Addr) (c : Nat) (t : List Int) (w : World) (hs : SigC w g l) (hl : GoodL l)
    (ht : Kd.C (Kd.int .i64) w A t.length t) :
    Calls Try.prog 38 #[.pointer (some ⟨g, 0, none⟩), .slice A t.length c] w fun e w' => e = .returned (.int .i64 (chk l t)) ∧ Below w.heap.size w w' := by
  by_cases h2 : 2000 < t.length
  · rw [chk, if_pos h2]
    exact check_long g A c _ w h2
  · have hR : chk l t = bads l.length (t.drop 0) (shape l t) := by rw [chk, if_neg h2]; rfl
    generalize chk l t = R at hR ⊢
    have HS := Aside0.mk hs
    have HL := Aside0.mk hl
    have HT := Aside0.mk ht
    have HR := Aside0.mk hR.symm
    clear hs hl ht hR
    have e1 : decide (2000 < (t.length : Int)) = false := decide_eq_false (by omega)
    go_enter Try.func38, Try.ntmps38
    go_wp2
    go_loopw [16] (fun i wr => ∃ (p : Nat), i = .int .i64 p ∧ p ≤ t.length ∧ Aside0 (bads l.length (t.drop p) (shape l t) = R) ∧ Aside0 (Below w.heap.size w wr)) (fun i _ => t.length - (intOf i).toNat)
    case atStart => exact ⟨0, rfl, by omega, HR, ⟨Below.refl _ _⟩⟩
    case round =>
      clear HR e1
      obtain ⟨p, rfl, hp, HR, HB⟩ := hrel
      by_cases hq : p < t.length
      · obtain ⟨ad, e, hc⟩ := int_at (Kd.C_below HT.out HB.out) p hq
        cases e
        have HE := HR.out
        rw [bads_step hq] at HE
        by_cases h3 : (l.length : Int) ≤ rd t p
        · rw [badN_sym h3] at HE
          replace HE := Aside0.mk HE
          go_wp2_with (go_at_call 79; refine (len_any g l _ (HS.out.below HB.out)).mono ?_; rintro e w1 ⟨rfl, rfl⟩)
          go_ret
          exact ⟨ret_int HE.out, HB.out⟩
        · by_cases h4 : rd t p < -99
          · rw [badN_var h3 h4] at HE
            replace HE := Aside0.mk HE
            have e2 : decide (rd t p < 0) = true := decide_eq_true (by omega)
            go_wp2_with (first | (go_at_call 79; refine (len_any g l _ (HS.out.below HB.out)).mono ?_; rintro e w1 ⟨rfl, rfl⟩) | (go_at_call 80; refine (term_isVariable.calls (rd t p) false _ (by unfold term_isVariable.f; rw [if_pos (by omega)]; simp; omega)).mono ?_; rintro e w1 ⟨rfl, hd⟩))
            go_ret
            exact ⟨ret_int HE.out, below_then HB.out (by have := HB.out.size; omega) hd.below⟩
          · rw [badN_ok h3 h4] at HE
            replace HE := Aside0.mk HE
            by_cases h5 : rd t p < 0
            · have e2 : decide (rd t p < 0) = true := decide_eq_true (by omega)
              go_wp2_with (first | (go_at_call 79; refine (len_any g l _ (HS.out.below HB.out)).mono ?_; rintro e w1 ⟨rfl, rfl⟩) | (go_at_call 80; refine (term_isVariable.calls (rd t p) true _ (by unfold term_isVariable.f; rw [if_pos (by omega)]; simp; omega)).mono ?_; rintro e w1 ⟨rfl, hd⟩))
              go_roundw
              case rel => exact ⟨p + 1, by go_num, by omega, HE, ⟨below_then HB.out (by have := HB.out.size; omega) hd.below⟩⟩
              case measure => simp [intOf]; omega
            · have e2 : decide (rd t p < 0) = false := decide_eq_false (by omega)
              go_wp2_with (first | (go_at_call 79; refine (len_any g l _ (HS.out.below HB.out)).mono ?_; rintro e w1 ⟨rfl, rfl⟩))
              go_roundw
              case rel => exact ⟨p + 1, by go_num, by omega, HE, HB⟩
              case measure => simp [intOf]; omega
      · have HE := HR.out
        rw [bads_end (by omega)] at HE
        by_cases h6 : t.length = 0
        · rw [shape, if_pos h6] at HE
          replace HE := Aside0.mk HE
          have e2 : ((t.length : Int) == 0) = true := beq_iff_eq.2 (by omega)
          clear h6
          go_wp2
          go_ret
          exact ⟨ret_int HE.out, HB.out⟩
        · rw [shape, if_neg h6] at HE
          have e2 : ((t.length : Int) == 0) = false := beq_eq_false_iff_ne.2 (by omega)
          by_cases h7 : fin (ar l) t 1 0 = t.length
          · rw [if_pos h7] at HE
            replace HE := Aside0.mk HE
            have h8 : (fin (ar l) (t.drop 0) 1 ((0 : Nat)) != (t.length : Int)) = false := by rw [List.drop_zero]; exact bne_eq_false_iff_eq.2 h7
            go_wp2_with (go_at_call 77; refine (end_any g l A c t 0 _ (HS.out.below HB.out) HL.out (Kd.C_below HT.out HB.out) (by omega) (by omega)).mono ?_; rintro e w1 ⟨rfl, hb⟩)
            go_ret
            exact ⟨ret_int HE.out, below_then HB.out (by have := HB.out.size; omega) hb⟩
          · rw [if_neg h7] at HE
            replace HE := Aside0.mk HE
            have h8 : (fin (ar l) (t.drop 0) 1 ((0 : Nat)) != (t.length : Int)) = true := by rw [List.drop_zero]; exact bne_iff_ne.2 h7
            go_wp2_with (go_at_call 77; refine (end_any g l A c t 0 _ (HS.out.below HB.out) HL.out (Kd.C_below HT.out HB.out) (by omega) (by omega)).mono ?_; rintro e w1 ⟨rfl, hb⟩)
            go_ret
            exact ⟨ret_int HE.out, below_then HB.out (by have := HB.out.size; omega) hb⟩

/-- What place tells. -/
def plc (l : List S89) (t : List Int) (at_ : Int) : Int := if chk l t = 0 then (if at_ < 0 then 24 else if (t.length : Int) ≤ at_ then 24 else 0) else chk l t

set_option maxHeartbeats 1000000 in
theorem place_any (g : Nat) (l : List S89) (A : Option Addr) (c : Nat) (t : List Int) (at_ : Int) (w : World) (hs : SigC w g l) (hl : GoodL l)
    (ht : Kd.C (Kd.int .i64) w A t.length t) :
    Calls Try.prog 76 #[.pointer (some ⟨g, 0, none⟩), .slice A t.length c, .int .i64 at_] w fun e w' => e = .returned (.int .i64 (plc l t at_)) ∧ Below w.heap.size w w' := by
  by_cases h0 : chk l t = 0
  · have e1 : (chk l t == 0) = true := beq_iff_eq.2 h0
    by_cases h1 : at_ < 0
    · have hR : plc l t at_ = 24 := by rw [plc, if_pos h0, if_pos h1]
      rw [hR]
      clear hR h0
      have e2 : decide (at_ < 0) = true := decide_eq_true h1
      go_enter Try.func76, Try.ntmps76
      go_wp2_with (go_at_call 38; refine (check_any g l A c t _ hs hl ht).mono ?_; rintro e w1 ⟨rfl, hb⟩)
      go_ret
      exact ⟨rfl, hb⟩
    · have e2 : decide (at_ < 0) = false := decide_eq_false h1
      by_cases h2 : (t.length : Int) ≤ at_
      · have hR : plc l t at_ = 24 := by rw [plc, if_pos h0, if_neg h1, if_pos h2]
        rw [hR]
        clear hR h0
        have e3 : decide ((t.length : Int) ≤ at_) = true := decide_eq_true h2
        go_enter Try.func76, Try.ntmps76
        go_wp2_with (go_at_call 38; refine (check_any g l A c t _ hs hl ht).mono ?_; rintro e w1 ⟨rfl, hb⟩)
        go_ret
        exact ⟨rfl, hb⟩
      · have hR : plc l t at_ = chk l t := by rw [plc, if_pos h0, if_neg h1, if_neg h2, h0]
        rw [hR]
        clear hR h0
        have e3 : decide ((t.length : Int) ≤ at_) = false := decide_eq_false h2
        go_enter Try.func76, Try.ntmps76
        go_wp2_with (go_at_call 38; refine (check_any g l A c t _ hs hl ht).mono ?_; rintro e w1 ⟨rfl, hb⟩)
        go_ret
        exact ⟨rfl, hb⟩
  · have hR : plc l t at_ = chk l t := by rw [plc, if_neg h0]
    rw [hR]
    have e1 : (chk l t == 0) = false := beq_eq_false_iff_ne.2 h0
    clear hR h0
    go_enter Try.func76, Try.ntmps76
    go_wp2_with (go_at_call 38; refine (check_any g l A c t _ hs hl ht).mono ?_; rintro e w1 ⟨rfl, hb⟩)
    go_ret
    exact ⟨rfl, hb⟩

/-- .. of no signature. -/
theorem place_nil (v : Value) (at_ : Int) (w : World) :
    Calls Try.prog 76 #[.pointer none, v, .int .i64 at_] w fun e w' => e = .returned (.int .i64 1) ∧ Below w.heap.size w w' := by
  go_enter Try.func76, Try.ntmps76
  go_wp2_with (go_at_call 38; refine (check_nil v _).mono ?_; rintro e w1 ⟨rfl, hb⟩)
  go_ret
  exact ⟨rfl, hb⟩
end Go.Proofs.Ytadjoaipmcbieaa
