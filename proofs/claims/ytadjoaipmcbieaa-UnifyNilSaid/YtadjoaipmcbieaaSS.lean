/- Signatures, ends, checks, places, arguments, subterms of layer 2 (term), and lists that are terms: the contracts of sig's and term's functions, and plain laws. -/
import Derived.Test.YtadjoaipmcbieaaGA
import Derived.WalkSpells
import Derived.WalkLawsBesides

/- The signature's readers: (*Sig).Len, (*Sig).At, term.arity: what each call answers, over any world in which the signature reads as a list. -/
namespace Go.Proofs.Ytadjoaipmcbieaa
open Go.RowKit Go.Proofs.YtadjoaipmcbieaaW.PrintWords Go.Proofs.YtadjoaipmcbieaaW.PrintLast Go.Proofs.YtadjoaipmcbieaaW.PrintMore A

/-- The block g is a signature whose list reads as l. -/
def SigC (w : World) (g : Nat) (l : List S89) : Prop := ∃ A c, w.cell? ⟨g, 0, none⟩ = some (.slice A l.length c) ∧ l.length ≤ c ∧ Kd.C k89 w A l.length l
theorem SigC.below {w w' : World} {g : Nat} {l : List S89} (h : SigC w g l) (hb : Below w.heap.size w w') : SigC w' g l := by
  obtain ⟨A, c, h1, h2, h3⟩ := h
  exact ⟨A, c, pw_cell_below hb h1, h2, Kd.C_below h3 hb⟩
theorem cell_alloc {w : World} {a : Addr} {v : Value} (h : w.cell? a = some v) (o : Obj) : (w.alloc o).cell? a = some v := pw_cell_below (below_alloc (Below.refl _ _) o) h

/-- Len: of a signature. -/
theorem len_any (g : Nat) (l : List S89) (w : World) (hs : SigC w g l) :
    Calls Try.prog 79 #[.pointer (some ⟨g, 0, none⟩)] w fun e w' => e = .returned (.int .i64 l.length) ∧ w = w' := by
  obtain ⟨A, c, h1, h2, h3⟩ := hs
  go_enter Try.func79, Try.ntmps79
  go_wp2
  go_ret
  exact ⟨rfl, rfl⟩

theorem at_in (g : Nat) (l : List S89) (n : Int) (w : World) (hs : SigC w g l) (h0 : 0 ≤ n) (hn : n < l.length) :
    Calls Try.prog 122 #[.pointer (some ⟨g, 0, none⟩), .int .i64 n] w fun e w' => e = .returned (.tuple #[.agg #[.string (rd_T89 l n).f0, .int .i64 (rd_T89 l n).f1, .bool (rd_T89 l n).f2], .int .i64 0]) ∧ Below w.heap.size w w' := by
  obtain ⟨A, c, h1, h2, h3⟩ := hs
  obtain ⟨ad, rfl, hc0, hc1, hc2⟩ := at_T89 h3 n h0 hn
  have e1 : decide (n < 0) = false := decide_eq_false (by omega)
  have e2 : decide ((l.length : Int) ≤ n) = false := decide_eq_false (by omega)
  replace h1 := cell_alloc h1
  replace hc0 := cell_alloc hc0
  replace hc1 := cell_alloc hc1
  replace hc2 := cell_alloc hc2
  go_enter Try.func122, Try.ntmps122
  go_wp2
  exact bodyPost_ret (v := .tuple #[.agg #[.string (rd_T89 l n).f0, .int .i64 (rd_T89 l n).f1, .bool (rd_T89 l n).f2], .int .i64 0]) (by simp [results, Try.results122, go_sem]) rfl ⟨rfl, (Below.refl _ _).alloc (Nat.le_refl _) _⟩

/-- At: no such symbol. -/
theorem at_out (g : Nat) (l : List S89) (n : Int) (w : World) (hs : SigC w g l) (h0 : n < 0 ∨ l.length ≤ n) :
    Calls Try.prog 122 #[.pointer (some ⟨g, 0, none⟩), .int .i64 n] w fun e w' => e = .returned (.tuple #[.agg #[.string ⟨#[]⟩, .int .i64 0, .bool false], .int .i64 14]) ∧ Below w.heap.size w w' := by
  obtain ⟨A, c, h1, h2, h3⟩ := hs
  replace h1 := cell_alloc h1
  by_cases hn : n < 0
  · have e1 : decide (n < 0) = true := decide_eq_true hn
    go_enter Try.func122, Try.ntmps122
    go_wp2
    exact bodyPost_ret (v := .tuple #[.agg #[.string ⟨#[]⟩, .int .i64 0, .bool false], .int .i64 14]) (by simp [results, Try.results122, go_sem]) rfl ⟨rfl, (Below.refl _ _).alloc (Nat.le_refl _) _⟩
  · have e1 : decide (n < 0) = false := decide_eq_false (by omega)
    have e2 : decide ((l.length : Int) ≤ n) = true := decide_eq_true (by omega)
    go_enter Try.func122, Try.ntmps122
    go_wp2
    exact bodyPost_ret (v := .tuple #[.agg #[.string ⟨#[]⟩, .int .i64 0, .bool false], .int .i64 14]) (by simp [results, Try.results122, go_sem]) rfl ⟨rfl, (Below.refl _ _).alloc (Nat.le_refl _) _⟩

/-- How many arguments stand behind a number. -/
def ar (l : List S89) (n : Int) : Int := if n < 0 then 0 else (rd_T89 l n).f1
theorem ar_neg {l : List S89} {n : Int} (h : n < 0) : ar l n = 0 := if_pos h
theorem ar_out {l : List S89} {n : Int} (h : l.length ≤ n) : ar l n = 0 := by
  unfold ar; split
  · rfl
  · unfold rd_T89; rw [List.getD_eq_getElem?_getD, List.getElem?_eq_none (by omega)]; rfl

theorem arity_any (g : Nat) (l : List S89) (n : Int) (w : World) (hs : SigC w g l) :
    Calls Try.prog 104 #[.pointer (some ⟨g, 0, none⟩), .int .i64 n] w fun e w' => e = .returned (.int .i64 (ar l n)) ∧ Below w.heap.size w w' := by
  by_cases h0 : n < 0
  · rw [ar_neg h0]
    have e1 : decide (n < 0) = true := decide_eq_true h0
    go_enter Try.func104, Try.ntmps104
    go_wp2
    go_ret
    exact ⟨rfl, Below.refl _ _⟩
  · have e1 : decide (n < 0) = false := decide_eq_false h0
    by_cases h1 : n < l.length
    · have e : ar l n = (rd_T89 l n).f1 := if_neg h0
      rw [e]
      clear e
      go_enter Try.func104, Try.ntmps104
      go_wp2_with (go_at_call 122; refine (at_in g l n _ hs (by omega) h1).mono ?_; rintro e w1 ⟨rfl, hb⟩)
      go_ret
      exact ⟨rfl, below_alloc hb _⟩
    · rw [ar_out (by omega)]
      go_enter Try.func104, Try.ntmps104
      go_wp2_with (go_at_call 122; refine (at_out g l n _ hs (by omega)).mono ?_; rintro e w1 ⟨rfl, hb⟩)
      go_ret
      exact ⟨rfl, below_alloc hb _⟩
end Go.Proofs.Ytadjoaipmcbieaa

/- term.end: the place behind a subterm, as a function on the list. -/
namespace Go.Proofs.Ytadjoaipmcbieaa
open Go.RowKit Go.Proofs.YtadjoaipmcbieaaW.PrintWords Go.Proofs.YtadjoaipmcbieaaW.PrintLast Go.Proofs.YtadjoaipmcbieaaW.PrintMore A

/-- What the loop of term.end tells: the rest of the list, how many terms must come yet, the place. -/
def fin (a : Int → Int) : List Int → Int → Nat → Int
  | [], o, p => if 0 < o then p + 1 else p
  | n :: r, o, p => if 0 < o then fin a r (o + (a n - 1)) (p + 1) else p

/-- A signature as sig.Add makes it. -/
structure GoodL (l : List S89) : Prop where
  len : l.length ≤ 64
  ar : ∀ x ∈ l, 0 ≤ x.f1 ∧ x.f1 ≤ 6
theorem ar_bd {l : List S89} (h : GoodL l) (n : Int) : 0 ≤ ar l n ∧ ar l n ≤ 6 := by
  unfold ar; split
  · omega
  · unfold rd_T89
    rcases Nat.lt_or_ge n.toNat l.length with hl | hl
    · rw [List.getD_eq_getElem?_getD, List.getElem?_eq_getElem hl]
      exact h.ar _ (List.getElem_mem hl)
    · rw [List.getD_eq_getElem?_getD, List.getElem?_eq_none hl]; simp [z89]

theorem drop_rd (t : List Int) (p : Nat) (h : p < t.length) : t.drop p = rd t p :: t.drop (p + 1) := by
  rw [List.drop_eq_getElem_cons h]; simp [rd, List.getD_eq_getElem?_getD, List.getElem?_eq_getElem h]

theorem int_at {w : World} {A : Option Addr} {n : Nat} {xs : List Int} (h : Kd.C (Kd.int .i64) w A n xs) (p : Nat) (hp : p < n) : ∃ ad, A = some ad ∧ w.cell? (ad.add p) = some (.int .i64 (rd xs p)) := by
  obtain ⟨ad, e, hc⟩ := Kd.at_int h p (by omega) (by omega)
  exact ⟨ad, e, by simpa using hc⟩
theorem fin_stop {a : Int → Int} {r : List Int} {k : Int} {p : Nat} (h : ¬ 0 < k) : fin a r k p = p := by cases r <;> simp [fin, h]
theorem fin_end {a : Int → Int} {t : List Int} {k : Int} {p : Nat} (h : 0 < k) (hp : t.length ≤ p) : fin a (t.drop p) k p = p + 1 := by
  rw [List.drop_eq_nil_of_le hp]; simp [fin, h]
theorem fin_step {a : Int → Int} {t : List Int} {k : Int} {p : Nat} (h : 0 < k) (hp : p < t.length) : fin a (t.drop p) k p = fin a (t.drop (p + 1)) (k + (a (rd t p) - 1)) (p + 1) := by
  rw [drop_rd t p hp]; simp [fin, h]
theorem ret_int {k : IntKind} {a b : Int} (h : a = b) : Ending.returned (.int k a) = .returned (.int k b) := by rw [h]

set_option maxHeartbeats 1000000 in
theorem end_any (g : Nat) (l : List S89) (A : Option Addr) (c : Nat) (t : List Int) (p : Nat) (w : World) (hs : SigC w g l) (hl : GoodL l)
    (ht : Kd.C (Kd.int .i64) w A t.length t) (h2 : t.length ≤ 2000) (hp : p ≤ t.length) :
    Calls Try.prog 77 #[.pointer (some ⟨g, 0, none⟩), .slice A t.length c, .int .i64 p] w fun e w' => e = .returned (.int .i64 (fin (ar l) (t.drop p) 1 p)) ∧ Below w.heap.size w w' := by
  have HS := Aside0.mk hs
  have HL := Aside0.mk hl
  have HT := Aside0.mk ht
  clear hs hl ht
  generalize hR : fin (ar l) (t.drop p) 1 p = R
  have HR := Aside0.mk hR
  clear hR
  go_enter Try.func77, Try.ntmps77
  go_wp2
  go_loopw [2, 7] (fun a o wr => ∃ (p : Nat) (k : Int), a = .int .i64 p ∧ o = .int .i64 k ∧ p ≤ t.length ∧ Aside0 (0 ≤ k ∧ k ≤ 1 + 6 * p) ∧ Aside0 (fin (ar l) (t.drop p) k p = R) ∧ Aside0 (Below w.heap.size w wr)) (fun a _ _ => t.length + 1 - (intOf a).toNat)
  case atStart => exact ⟨p, 1, rfl, rfl, hp, ⟨by omega⟩, HR, ⟨Below.refl _ _⟩⟩
  case round =>
    obtain ⟨p, k, rfl, rfl, hp, ⟨hk0, hk1⟩, HR, HB⟩ := hrel
    by_cases hk : 0 < k
    · have e1 : decide (0 < k) = true := decide_eq_true hk
      by_cases hq : p = t.length
      · have e2 : ((p : Int) == (t.length : Int)) = true := beq_iff_eq.2 (by omega)
        have HE := Aside0.mk (HR.out.symm.trans (fin_end hk (by omega)))
        clear hq
        go_wp2
        go_ret
        exact ⟨ret_int HE.out.symm, HB.out⟩
      · have e2 : ((p : Int) == (t.length : Int)) = false := beq_eq_false_iff_ne.2 (by omega)
        obtain ⟨ad, e, hc⟩ := int_at (Kd.C_below HT.out HB.out) p (by omega)
        cases e
        have hA := ar_bd HL.out (rd t p)
        have HE := Aside0.mk ((fin_step (a := ar l) hk (show p < t.length by omega)).symm.trans HR.out)
        go_wp2_with (go_at_call 104; refine (arity_any g l (rd t p) _ (HS.out.below HB.out)).mono ?_; rintro e w1 ⟨rfl, hb⟩)
        go_roundw
        case rel => exact ⟨p + 1, _, by go_num, rfl, by omega, ⟨by omega⟩, HE, ⟨below_then HB.out (by have := HB.out.size; omega) hb⟩⟩
        case measure => simp [intOf]; omega
    · have e1 : decide (0 < k) = false := decide_eq_false hk
      have HE := Aside0.mk (HR.out.symm.trans (fin_stop hk))
      go_wp2
      go_ret
      exact ⟨ret_int HE.out.symm, HB.out⟩
end Go.Proofs.Ytadjoaipmcbieaa

/- term.Check: what is wrong with a list, as a function. -/
namespace Go.Proofs.Ytadjoaipmcbieaa
open Go.RowKit Go.Proofs.YtadjoaipmcbieaaW.PrintWords Go.Proofs.YtadjoaipmcbieaaW.PrintLast Go.Proofs.YtadjoaipmcbieaaW.PrintMore A

def badN (L : Int) (n : Int) : Int := if L ≤ n then 21 else if n < -99 then 22 else 0
def bads (L : Int) : List Int → Int → Int
  | [], z => z
  | n :: r, z => if badN L n = 0 then bads L r z else badN L n
def shape (l : List S89) (t : List Int) : Int := if t.length = 0 then 23 else if fin (ar l) t 1 0 = t.length then 0 else 23
def chk (l : List S89) (t : List Int) : Int := if 2000 < t.length then 20 else bads l.length t (shape l t)

theorem bads_step {L z : Int} {t : List Int} {p : Nat} (hp : p < t.length) : bads L (t.drop p) z = if badN L (rd t p) = 0 then bads L (t.drop (p + 1)) z else badN L (rd t p) := by
  rw [drop_rd t p hp]; simp [bads]
theorem bads_end {L z : Int} {t : List Int} {p : Nat} (hp : t.length ≤ p) : bads L (t.drop p) z = z := by
  rw [List.drop_eq_nil_of_le hp]; simp [bads]
theorem badN_sym {L n : Int} (h : L ≤ n) : badN L n = 21 := if_pos h
theorem badN_var {L n : Int} (h : ¬ L ≤ n) (h2 : n < -99) : badN L n = 22 := by unfold badN; rw [if_neg h, if_pos h2]
theorem badN_ok {L n : Int} (h : ¬ L ≤ n) (h2 : ¬ n < -99) : badN L n = 0 := by unfold badN; rw [if_neg h, if_neg h2]

set_option maxHeartbeats 1000000 in
theorem check_nil (v : Value) (w : World) :
    Calls Try.prog 38 #[.pointer none, v] w fun e w' => e = .returned (.int .i64 1) ∧ Below w.heap.size w w' := by
  go_enter Try.func38, Try.ntmps38
  go_wp2
  go_ret
  exact ⟨rfl, Below.refl _ _⟩

set_option maxHeartbeats 1000000 in
theorem check_long (g : Nat) (A : Option Addr) (c n : Nat) (w : World) (h : 2000 < n) :
    Calls Try.prog 38 #[.pointer (some ⟨g, 0, none⟩), .slice A n c] w fun e w' => e = .returned (.int .i64 20) ∧ Below w.heap.size w w' := by
  have e1 : decide (2000 < (n : Int)) = true := decide_eq_true (by omega)
  go_enter Try.func38, Try.ntmps38
  go_wp2
  go_ret
  exact ⟨rfl, Below.refl _ _⟩

set_option maxHeartbeats 1000000 in
theorem check_any (g : Nat) (l : List S89) (A : Option Addr) (c : Nat) (t : List Int) (w : World) (hs : SigC w g l) (hl : GoodL l)
    (ht : Kd.C (Kd.int .i64) w A t.length t) :
    Calls Try.prog 38 #[.pointer (some ⟨g, 0, none⟩), .slice A t.length c] w fun e w' => e = .returned (.int .i64 (chk l t)) ∧ Below w.heap.size w w' := by
  by_cases h2 : 2000 < t.length
  · rw [chk, if_pos h2]
    exact check_long g A c _ w h2
  · have hR : chk l t = bads l.length (t.drop 0) (shape l t) := by rw [chk, if_neg h2]; rfl
    generalize chk l t = R at hR ⊢
    have HS := Aside0.mk hs
    have HL := Aside0.mk hl
    have HT := Aside0.mk ht
    have HR := Aside0.mk hR.symm
    clear hs hl ht hR
    have e1 : decide (2000 < (t.length : Int)) = false := decide_eq_false (by omega)
    go_enter Try.func38, Try.ntmps38
    go_wp2
    go_loopw [16] (fun i wr => ∃ (p : Nat), i = .int .i64 p ∧ p ≤ t.length ∧ Aside0 (bads l.length (t.drop p) (shape l t) = R) ∧ Aside0 (Below w.heap.size w wr)) (fun i _ => t.length - (intOf i).toNat)
    case atStart => exact ⟨0, rfl, by omega, HR, ⟨Below.refl _ _⟩⟩
    case round =>
      clear HR e1
      obtain ⟨p, rfl, hp, HR, HB⟩ := hrel
      by_cases hq : p < t.length
      · obtain ⟨ad, e, hc⟩ := int_at (Kd.C_below HT.out HB.out) p hq
        cases e
        have HE := HR.out
        rw [bads_step hq] at HE
        by_cases h3 : (l.length : Int) ≤ rd t p
        · rw [badN_sym h3] at HE
          replace HE := Aside0.mk HE
          go_wp2_with (go_at_call 79; refine (len_any g l _ (HS.out.below HB.out)).mono ?_; rintro e w1 ⟨rfl, rfl⟩)
          go_ret
          exact ⟨ret_int HE.out, HB.out⟩
        · by_cases h4 : rd t p < -99
          · rw [badN_var h3 h4] at HE
            replace HE := Aside0.mk HE
            have e2 : decide (rd t p < 0) = true := decide_eq_true (by omega)
            go_wp2_with (first | (go_at_call 79; refine (len_any g l _ (HS.out.below HB.out)).mono ?_; rintro e w1 ⟨rfl, rfl⟩) | (go_at_call 80; refine (term_isVariable.calls (rd t p) false _ (by unfold term_isVariable.f; rw [if_pos (by omega)]; simp; omega)).mono ?_; rintro e w1 ⟨rfl, hd⟩))
            go_ret
            exact ⟨ret_int HE.out, below_then HB.out (by have := HB.out.size; omega) hd.below⟩
          · rw [badN_ok h3 h4] at HE
            replace HE := Aside0.mk HE
            by_cases h5 : rd t p < 0
            · have e2 : decide (rd t p < 0) = true := decide_eq_true (by omega)
              go_wp2_with (first | (go_at_call 79; refine (len_any g l _ (HS.out.below HB.out)).mono ?_; rintro e w1 ⟨rfl, rfl⟩) | (go_at_call 80; refine (term_isVariable.calls (rd t p) true _ (by unfold term_isVariable.f; rw [if_pos (by omega)]; simp; omega)).mono ?_; rintro e w1 ⟨rfl, hd⟩))
              go_roundw
              case rel => exact ⟨p + 1, by go_num, by omega, HE, ⟨below_then HB.out (by have := HB.out.size; omega) hd.below⟩⟩
              case measure => simp [intOf]; omega
            · have e2 : decide (rd t p < 0) = false := decide_eq_false (by omega)
              go_wp2_with (first | (go_at_call 79; refine (len_any g l _ (HS.out.below HB.out)).mono ?_; rintro e w1 ⟨rfl, rfl⟩))
              go_roundw
              case rel => exact ⟨p + 1, by go_num, by omega, HE, HB⟩
              case measure => simp [intOf]; omega
      · have HE := HR.out
        rw [bads_end (by omega)] at HE
        by_cases h6 : t.length = 0
        · rw [shape, if_pos h6] at HE
          replace HE := Aside0.mk HE
          have e2 : ((t.length : Int) == 0) = true := beq_iff_eq.2 (by omega)
          clear h6
          go_wp2
          go_ret
          exact ⟨ret_int HE.out, HB.out⟩
        · rw [shape, if_neg h6] at HE
          have e2 : ((t.length : Int) == 0) = false := beq_eq_false_iff_ne.2 (by omega)
          by_cases h7 : fin (ar l) t 1 0 = t.length
          · rw [if_pos h7] at HE
            replace HE := Aside0.mk HE
            have h8 : (fin (ar l) (t.drop 0) 1 ((0 : Nat)) != (t.length : Int)) = false := by rw [List.drop_zero]; exact bne_eq_false_iff_eq.2 h7
            go_wp2_with (go_at_call 77; refine (end_any g l A c t 0 _ (HS.out.below HB.out) HL.out (Kd.C_below HT.out HB.out) (by omega) (by omega)).mono ?_; rintro e w1 ⟨rfl, hb⟩)
            go_ret
            exact ⟨ret_int HE.out, below_then HB.out (by have := HB.out.size; omega) hb⟩
          · rw [if_neg h7] at HE
            replace HE := Aside0.mk HE
            have h8 : (fin (ar l) (t.drop 0) 1 ((0 : Nat)) != (t.length : Int)) = true := by rw [List.drop_zero]; exact bne_iff_ne.2 h7
            go_wp2_with (go_at_call 77; refine (end_any g l A c t 0 _ (HS.out.below HB.out) HL.out (Kd.C_below HT.out HB.out) (by omega) (by omega)).mono ?_; rintro e w1 ⟨rfl, hb⟩)
            go_ret
            exact ⟨ret_int HE.out, below_then HB.out (by have := HB.out.size; omega) hb⟩

/-- What place tells. -/
def plc (l : List S89) (t : List Int) (at_ : Int) : Int := if chk l t = 0 then (if at_ < 0 then 24 else if (t.length : Int) ≤ at_ then 24 else 0) else chk l t

set_option maxHeartbeats 1000000 in
theorem place_any (g : Nat) (l : List S89) (A : Option Addr) (c : Nat) (t : List Int) (at_ : Int) (w : World) (hs : SigC w g l) (hl : GoodL l)
    (ht : Kd.C (Kd.int .i64) w A t.length t) :
    Calls Try.prog 76 #[.pointer (some ⟨g, 0, none⟩), .slice A t.length c, .int .i64 at_] w fun e w' => e = .returned (.int .i64 (plc l t at_)) ∧ Below w.heap.size w w' := by
  by_cases h0 : chk l t = 0
  · have e1 : (chk l t == 0) = true := beq_iff_eq.2 h0
    by_cases h1 : at_ < 0
    · have hR : plc l t at_ = 24 := by rw [plc, if_pos h0, if_pos h1]
      rw [hR]
      clear hR h0
      have e2 : decide (at_ < 0) = true := decide_eq_true h1
      go_enter Try.func76, Try.ntmps76
      go_wp2_with (go_at_call 38; refine (check_any g l A c t _ hs hl ht).mono ?_; rintro e w1 ⟨rfl, hb⟩)
      go_ret
      exact ⟨rfl, hb⟩
    · have e2 : decide (at_ < 0) = false := decide_eq_false h1
      by_cases h2 : (t.length : Int) ≤ at_
      · have hR : plc l t at_ = 24 := by rw [plc, if_pos h0, if_neg h1, if_pos h2]
        rw [hR]
        clear hR h0
        have e3 : decide ((t.length : Int) ≤ at_) = true := decide_eq_true h2
        go_enter Try.func76, Try.ntmps76
        go_wp2_with (go_at_call 38; refine (check_any g l A c t _ hs hl ht).mono ?_; rintro e w1 ⟨rfl, hb⟩)
        go_ret
        exact ⟨rfl, hb⟩
      · have hR : plc l t at_ = chk l t := by rw [plc, if_pos h0, if_neg h1, if_neg h2, h0]
        rw [hR]
        clear hR h0
        have e3 : decide ((t.length : Int) ≤ at_) = false := decide_eq_false h2
        go_enter Try.func76, Try.ntmps76
        go_wp2_with (go_at_call 38; refine (check_any g l A c t _ hs hl ht).mono ?_; rintro e w1 ⟨rfl, hb⟩)
        go_ret
        exact ⟨rfl, hb⟩
  · have hR : plc l t at_ = chk l t := by rw [plc, if_neg h0]
    rw [hR]
    have e1 : (chk l t == 0) = false := beq_eq_false_iff_ne.2 h0
    clear hR h0
    go_enter Try.func76, Try.ntmps76
    go_wp2_with (go_at_call 38; refine (check_any g l A c t _ hs hl ht).mono ?_; rintro e w1 ⟨rfl, hb⟩)
    go_ret
    exact ⟨rfl, hb⟩

/-- .. of no signature. -/
theorem place_nil (v : Value) (at_ : Int) (w : World) :
    Calls Try.prog 76 #[.pointer none, v, .int .i64 at_] w fun e w' => e = .returned (.int .i64 1) ∧ Below w.heap.size w w' := by
  go_enter Try.func76, Try.ntmps76
  go_wp2_with (go_at_call 38; refine (check_nil v _).mono ?_; rintro e w1 ⟨rfl, hb⟩)
  go_ret
  exact ⟨rfl, hb⟩
end Go.Proofs.Ytadjoaipmcbieaa

/- term.args, Args, End: the places of the arguments. -/
namespace Go.Proofs.Ytadjoaipmcbieaa
open Go.RowKit Go.Proofs.YtadjoaipmcbieaaW.PrintWords Go.Proofs.YtadjoaipmcbieaaW.PrintLast Go.Proofs.YtadjoaipmcbieaaW.PrintMore A

/-- The place behind the subterm at p. -/
def endN (l : List S89) (t : List Int) (p : Nat) : Nat := (fin (ar l) (t.drop p) 1 p).toNat
theorem fin_ge {a : Int → Int} : ∀ (r : List Int) (k : Int) (p : Nat), (p : Int) ≤ fin a r k p ∧ fin a r k p ≤ p + r.length + 1
  | [], k, p => by simp only [fin, List.length_nil]; split <;> omega
  | n :: r, k, p => by
    simp only [fin, List.length_cons]
    split
    · have := fin_ge (a := a) r (k + (a n - 1)) (p + 1); omega
    · omega
theorem endN_cast {l : List S89} {t : List Int} {p : Nat} : ((endN l t p : Nat) : Int) = fin (ar l) (t.drop p) 1 p := by
  have := (fin_ge (a := ar l) (t.drop p) 1 p).1
  unfold endN; omega

/-- The places of k subterms, one behind the other, from nx on. -/
def argsF (l : List S89) (t : List Int) : Nat → Nat → List Nat
  | 0, _ => []
  | k + 1, nx => nx :: argsF l t k (endN l t nx)
theorem argsF_length (l : List S89) (t : List Int) : ∀ (k nx : Nat), (argsF l t k nx).length = k
  | 0, _ => rfl
  | k + 1, nx => by simp [argsF, argsF_length l t k]
def toI (xs : List Nat) : List Int := xs.map Int.ofNat
theorem toI_append (xs ys : List Nat) : toI (xs ++ ys) = toI xs ++ toI ys := by simp [toI]
theorem toI_length (xs : List Nat) : (toI xs).length = xs.length := by simp [toI]
def argsL (l : List S89) (t : List Int) (p : Nat) : List Nat := argsF l t (ar l (rd t p)).toNat (p + 1)

set_option maxHeartbeats 1000000 in
theorem args_any (g : Nat) (l : List S89) (A : Option Addr) (c : Nat) (t : List Int) (p : Nat) (w : World) (hs : SigC w g l) (hl : GoodL l)
    (ht : Kd.C (Kd.int .i64) w A t.length t) (h2 : t.length ≤ 2000) (hp : p < t.length) (hv : ∀ x ∈ argsL l t p, x ≤ t.length) :
    Calls Try.prog 78 #[.pointer (some ⟨g, 0, none⟩), .slice A t.length c, .int .i64 p] w fun e w' => ∃ v, e = .returned v ∧ Kd.R (Kd.int .i64) 3 w' w.heap.size (fun _ => True) v (toI (argsL l t p)) ∧ Below w.heap.size w w' := by
  have HS := Aside0.mk hs
  have HL := Aside0.mk hl
  have HT := Aside0.mk ht
  have HV := Aside0.mk hv
  obtain ⟨ad, e, hc⟩ := int_at ht p hp
  cases e
  have hA := ar_bd hl (rd t p)
  obtain ⟨K, hK⟩ := Int.eq_ofNat_of_zero_le hA.1
  have hK6 : K ≤ 6 := by omega
  have HG : Aside0 (argsL l t p = argsF l t K (p + 1)) := ⟨by unfold argsL; rw [hK]; rfl⟩
  have HK := Aside0.mk hK
  clear hs hl ht hv hK hA
  go_enter Try.func78, Try.ntmps78
  go_wp2_with (go_at_call 104; refine (arity_any g l (rd t p) _ HS.out).mono ?_; rintro e w1 ⟨rfl, hb⟩)
  rw [HK.out]
  go_loopw [7, 8, 17] (fun o x i wr => ∃ (k nx : Nat) (done : List Nat), x = .int .i64 nx ∧ i = .int .i64 k ∧ k ≤ K ∧ Aside0 (argsL l t p = done ++ argsF l t (K - k) nx) ∧ Aside0 (done.length = k) ∧ Aside0 (Kd.R (Kd.int .i64) 3 wr w.heap.size (fun _ => True) o (toI done)) ∧ Aside0 (Below w.heap.size w wr)) (fun _ _ i _ => K - (intOf i).toNat)
  case atStart => exact ⟨0, p + 1, [], by go_num, rfl, by omega, HG, ⟨rfl⟩, ⟨Kd.R_nil _ _ _ _ _⟩, ⟨hb⟩⟩
  case round =>
    clear HG
    obtain ⟨k, nx, done, rfl, rfl, hk, HG, HD, HO, HB⟩ := hrel
    by_cases hlt : k < K
    · obtain ⟨m, hm⟩ : ∃ m, K - k = m + 1 := ⟨K - k - 1, by omega⟩
      have hG2 := HG.out
      rw [hm, argsF] at hG2
      have hnx : nx ≤ t.length := HV.out nx (by rw [hG2]; simp)
      have hcast := endN_cast (l := l) (t := t) (p := nx)
      have HC := Aside0.mk hcast
      have HN := Aside0.mk (show argsL l t p = (done ++ [nx]) ++ argsF l t (K - (k + 1)) (endN l t nx) by rw [hG2, show K - (k + 1) = m by omega]; simp)
      clear hm hG2 hcast HG
      go_wp2_with (first
        | (at_builtin; refine Kd.R_append (Kd.int .i64) (w0 := w) w.heap.size rfl (.tmp 19) (.tmp 21) 24 3 (.int .i64 0) 8 rfl Try.underlying24 info3 rfl (by decide) (by omega) u7 (toI done) (nx : Int) [.int .i64 nx] (fun _ => True) (fun _ => False) rfl rfl rfl (fun _ hk => hk.elim) (fun _ _ => trivial) HO.out HB.out HB.out.size (by have := HD.out; rw [toI_length]; omega) ?_; intro v1 w2 ho hb2 hg hat)
        | (go_at_call 77; refine (end_any g l (some ad) c t nx _ (HS.out.below hb2) HL.out (Kd.C_below HT.out hb2) (by omega) hnx).mono ?_; rintro e w3 ⟨rfl, hb3⟩))
      go_roundw
      case rel => exact ⟨k + 1, endN l t nx, done ++ [nx], by rw [HC.out], by go_num, by omega, HN, ⟨by rw [List.length_append, HD.out]; rfl⟩, ⟨Kd.R_below (by rw [toI_append]; exact ho) hb3⟩, ⟨below_then hb2 hb2.size hb3⟩⟩
      case measure => simp [intOf]; omega
    · have hkk : k = K := by omega
      have hfin : toI (argsL l t p) = toI done := by rw [HG.out, show K - k = 0 by omega]; simp [argsF]
      have HF := Aside0.mk hfin
      clear hkk hfin
      go_wp2
      go_ret
      exact ⟨_, rfl, by rw [HF.out]; exact HO.out, HB.out⟩

theorem args_any0 (g : Nat) (l : List S89) (A : Option Addr) (c : Nat) (t : List Int) (p : Int) (w : World) (hs : SigC w g l) (hl : GoodL l)
    (ht : Kd.C (Kd.int .i64) w A t.length t) (h2 : t.length ≤ 2000) (h0 : 0 ≤ p) (hp : p < t.length) (hv : ∀ x ∈ argsL l t p.toNat, x ≤ t.length) :
    Calls Try.prog 78 #[.pointer (some ⟨g, 0, none⟩), .slice A t.length c, .int .i64 p] w fun e w' => ∃ v, e = .returned v ∧ Kd.R (Kd.int .i64) 3 w' w.heap.size (fun _ => True) v (toI (argsL l t p.toNat)) ∧ Below w.heap.size w w' := by
  obtain ⟨p, rfl⟩ := Int.eq_ofNat_of_zero_le h0
  exact args_any g l A c t p w hs hl ht h2 (by omega) hv
end Go.Proofs.Ytadjoaipmcbieaa

/- slices.Clone at a term; term.End, Args, Sub, Place, Path, Depth. -/
namespace Go.Proofs.Ytadjoaipmcbieaa
open Go.RowKit Go.Proofs.YtadjoaipmcbieaaW.PrintWords Go.Proofs.YtadjoaipmcbieaaW.PrintLast Go.Proofs.YtadjoaipmcbieaaW.PrintMore A

theorem own_empty (w : World) : Kd.R (Kd.int .i64) 3 (w.alloc (.cells #[] 3)) w.heap.size (fun _ => True) (.slice (some ⟨w.heap.size, 0, none⟩) 0 0) ([] : List Int) :=
  ⟨fun _ _ => trivial, [], ⟨rfl, .inr ⟨w.heap.size, 0, #[], rfl, Nat.le_refl _, heap_alloc_new w _, Nat.le_refl _, Nat.zero_le _, rfl, rfl⟩⟩, by exact Reps.none _ _⟩

set_option maxHeartbeats 1000000 in
theorem clone_any (A : Option Addr) (c : Nat) (t : List Int) (w : World) (ht : Kd.C (Kd.int .i64) w A t.length t) (hl : t.length ≤ 17592186044415) :
    Calls Try.prog 82 #[.slice A t.length c] w fun e w' => ∃ v, e = .returned v ∧ Kd.R (Kd.int .i64) 3 w' w.heap.size (fun _ => True) v t ∧ Below w.heap.size w w' := by
  have q : ∀ (w : World) (a : Option Addr) (n c : Nat), (binOp .eql 25 (.slice a n c) (.slice none 0 0)).run Try.prog w = .ok (.bool a.isNone) w := fun w a n c => Lib.run_eql_slice_nil w _ _ a n c 0 0 Try.underlying25
  have HT := Aside0.mk ht
  cases A with
  | none =>
    have h0 : t = [] := by
      rcases Nat.eq_zero_or_pos t.length with h | h
      · exact List.eq_nil_of_length_eq_zero h
      · obtain ⟨ad, e, _⟩ := ht.2.2 h; cases e
    subst h0
    clear ht hl
    go_enter Try.func82, Try.ntmps82
    go_wp2_with fail
    go_ret
    exact ⟨_, rfl, Kd.R_nil _ _ _ _ _, Below.refl _ _⟩
  | some ad =>
    clear ht
    go_enter Try.func82, Try.ntmps82
    go_wp2_with ((at_builtin; refine Kd.R_append_rows (Kd.int .i64) (Rr := fun x cs => cs = [.int .i64 x]) (w0 := w) w.heap.size rfl (.tmp 5) (.tmp 6) 25 3 (.int .i64 0) 8 rfl Try.underlying25 info3 rfl (by decide) (by omega) (.slice (some ⟨w.heap.size, 0, none⟩) 0 0) [] t (some ad) t.length c (fun _ => True) (fun _ => False) rfl rfl (own_empty w) (Kd.C_below HT.out (below_alloc (Below.refl _ _) _)) (fun _ _ h => h) (fun _ hk => hk.elim) (fun _ _ => trivial) (below_alloc (Below.refl _ _) _) (by simp) (by simp only [List.length_nil]; omega) ?_; intro v1 w1 ho hb hg hat))
    go_ret
    exact ⟨_, rfl, by simpa using ho, hb⟩
theorem clone_n (A : Option Addr) (c n : Nat) (t : List Int) (w : World) (ht : Kd.C (Kd.int .i64) w A n t) (hl : n ≤ 17592186044415) :
    Calls Try.prog 82 #[.slice A n c] w fun e w' => ∃ v, e = .returned v ∧ Kd.R (Kd.int .i64) 3 w' w.heap.size (fun _ => True) v t ∧ Below w.heap.size w w' := by
  obtain rfl : t.length = n := ht.1
  exact clone_any A c t w ht hl

/-- End where the place is wrong. -/
theorem End_bad (g : Nat) (l : List S89) (A : Option Addr) (c : Nat) (t : List Int) (p : Int) (w : World) (hs : SigC w g l) (hl : GoodL l)
    (ht : Kd.C (Kd.int .i64) w A t.length t) (hp : plc l t p ≠ 0) :
    Calls Try.prog 36 #[.pointer (some ⟨g, 0, none⟩), .slice A t.length c, .int .i64 p] w fun e w' => e = .returned (.tuple #[.int .i64 0, .int .i64 (plc l t p)]) ∧ Below w.heap.size w w' := by
  have e1 : (plc l t p != 0) = true := bne_iff_ne.2 hp
  clear hp
  go_enter Try.func36, Try.ntmps36
  go_wp2_with (go_at_call 76; refine (place_any g l A c t p _ hs hl ht).mono ?_; rintro e w1 ⟨rfl, hb⟩)
  go_ret2
  exact ⟨rfl, hb⟩
theorem plc_ok {l : List S89} {t : List Int} {p : Int} (h : plc l t p = 0) : chk l t = 0 ∧ 0 ≤ p ∧ p < t.length := by
  unfold plc at h
  split at h
  · split at h
    · omega
    · split at h <;> omega
  · omega
theorem chk_len {l : List S89} {t : List Int} (h : chk l t = 0) : t.length ≤ 2000 := by
  unfold chk at h; split at h <;> omega
theorem End_ok (g : Nat) (l : List S89) (A : Option Addr) (c : Nat) (t : List Int) (p : Int) (w : World) (hs : SigC w g l) (hl : GoodL l)
    (ht : Kd.C (Kd.int .i64) w A t.length t) (hp : plc l t p = 0) :
    Calls Try.prog 36 #[.pointer (some ⟨g, 0, none⟩), .slice A t.length c, .int .i64 p] w fun e w' => e = .returned (.tuple #[.int .i64 (endN l t p.toNat), .int .i64 0]) ∧ Below w.heap.size w w' := by
  obtain ⟨h1, h2, h3⟩ := plc_ok hp
  have h4 := chk_len h1
  obtain ⟨p, rfl⟩ := Int.eq_ofNat_of_zero_le h2
  have e1 : (plc l t (p : Int) != 0) = false := bne_eq_false_iff_eq.2 hp
  rw [Int.toNat_natCast, endN_cast]
  clear hp h1
  go_enter Try.func36, Try.ntmps36
  go_wp2_with (first | (go_at_call 76; refine (place_any g l A c t p _ hs hl ht).mono ?_; rintro e w1 ⟨rfl, hb⟩) | (go_at_call 77; refine (end_any g l A c t p _ (hs.below hb) hl (Kd.C_below ht hb) h4 (by omega)).mono ?_; rintro e w2 ⟨rfl, hb2⟩))
  go_ret2
  exact ⟨rfl, below_then hb hb.size hb2⟩

theorem Args_bad (g : Nat) (l : List S89) (A : Option Addr) (c : Nat) (t : List Int) (p : Int) (w : World) (hs : SigC w g l) (hl : GoodL l)
    (ht : Kd.C (Kd.int .i64) w A t.length t) (hp : plc l t p ≠ 0) :
    Calls Try.prog 37 #[.pointer (some ⟨g, 0, none⟩), .slice A t.length c, .int .i64 p] w fun e w' => e = .returned (.tuple #[.slice none 0 0, .int .i64 (plc l t p)]) ∧ Below w.heap.size w w' := by
  have e1 : (plc l t p != 0) = true := bne_iff_ne.2 hp
  clear hp
  go_enter Try.func37, Try.ntmps37
  go_wp2_with (go_at_call 76; refine (place_any g l A c t p _ hs hl ht).mono ?_; rintro e w1 ⟨rfl, hb⟩)
  go_ret2
  exact ⟨rfl, hb⟩
theorem Args_ok (g : Nat) (l : List S89) (A : Option Addr) (c : Nat) (t : List Int) (p : Int) (w : World) (hs : SigC w g l) (hl : GoodL l)
    (ht : Kd.C (Kd.int .i64) w A t.length t) (hp : plc l t p = 0) (hv : ∀ x ∈ argsL l t p.toNat, x ≤ t.length) :
    Calls Try.prog 37 #[.pointer (some ⟨g, 0, none⟩), .slice A t.length c, .int .i64 p] w fun e w' => ∃ v, e = .returned (.tuple #[v, .int .i64 0]) ∧ Kd.R (Kd.int .i64) 3 w' w.heap.size (fun _ => True) v (toI (argsL l t p.toNat)) ∧ Below w.heap.size w w' := by
  obtain ⟨h1, h2, h3⟩ := plc_ok hp
  have h4 := chk_len h1
  have e1 : (plc l t p != 0) = false := bne_eq_false_iff_eq.2 hp
  clear hp h1
  go_enter Try.func37, Try.ntmps37
  go_wp2_with (first | (go_at_call 76; refine (place_any g l A c t p _ hs hl ht).mono ?_; rintro e w1 ⟨rfl, hb⟩) | (go_at_call 78; refine (args_any0 g l A c t p _ (hs.below hb) hl (Kd.C_below ht hb) h4 h2 h3 hv).mono ?_; rintro e w2 ⟨v, rfl, hR, hb2⟩))
  go_ret2
  exact ⟨_, rfl, Kd.R_lower hR hb.size, below_then hb hb.size hb2⟩

theorem Sub_bad (g : Nat) (l : List S89) (A : Option Addr) (c : Nat) (t : List Int) (p : Int) (w : World) (hs : SigC w g l) (hl : GoodL l)
    (ht : Kd.C (Kd.int .i64) w A t.length t) (hp : plc l t p ≠ 0) :
    Calls Try.prog 41 #[.pointer (some ⟨g, 0, none⟩), .slice A t.length c, .int .i64 p] w fun e w' => e = .returned (.tuple #[.slice none 0 0, .int .i64 (plc l t p)]) ∧ Below w.heap.size w w' := by
  have e1 : (plc l t p != 0) = true := bne_iff_ne.2 hp
  clear hp
  go_enter Try.func41, Try.ntmps41
  go_wp2_with (go_at_call 76; refine (place_any g l A c t p _ hs hl ht).mono ?_; rintro e w1 ⟨rfl, hb⟩)
  go_ret2
  exact ⟨rfl, hb⟩

/-- The subterm at p. -/
def subL (l : List S89) (t : List Int) (p : Nat) : List Int := (t.take (endN l t p)).drop p
theorem endN_ge {l : List S89} {t : List Int} {p : Nat} : p ≤ endN l t p := by
  have := (fin_ge (a := ar l) (t.drop p) 1 p).1; unfold endN; omega
theorem subL_length {l : List S89} {t : List Int} {p : Nat} (h : endN l t p ≤ t.length) : (subL l t p).length = endN l t p - p := by
  simp [subL]; omega
set_option maxHeartbeats 1000000 in
theorem Sub_ok (g : Nat) (l : List S89) (A : Option Addr) (c : Nat) (t : List Int) (p : Int) (w : World) (hs : SigC w g l) (hl : GoodL l)
    (ht : Kd.C (Kd.int .i64) w A t.length t) (hc : t.length ≤ c) (hp : plc l t p = 0) (hv : endN l t p.toNat ≤ t.length) :
    Calls Try.prog 41 #[.pointer (some ⟨g, 0, none⟩), .slice A t.length c, .int .i64 p] w fun e w' => ∃ v, e = .returned (.tuple #[v, .int .i64 0]) ∧ Kd.R (Kd.int .i64) 3 w' w.heap.size (fun _ => True) v (subL l t p.toNat) ∧ Below w.heap.size w w' := by
  obtain ⟨h1, h2, h3⟩ := plc_ok hp
  have h4 := chk_len h1
  obtain ⟨p, rfl⟩ := Int.eq_ofNat_of_zero_le h2
  have e1 : (plc l t (p : Int) != 0) = false := bne_eq_false_iff_eq.2 hp
  rw [Int.toNat_natCast] at hv ⊢
  have h5 := endN_ge (l := l) (t := t) (p := p)
  obtain ⟨ad, e, _⟩ := int_at ht p (by omega)
  cases e
  have hl1 := subL_length hv
  have hcut : ∀ W, Below w.heap.size w W → Kd.C (Kd.int .i64) W (some (ad.add p)) (subL l t p).length (subL l t p) := by
    intro W hW
    have h6 := Kd.C_take (Kd.C_below ht hW) hv
    have h7 := Kd.C_drop (m := p) (c := c) h6 (by rw [List.length_take]; omega) (by rw [List.length_take]; omega)
    rw [if_neg (by omega)] at h7
    simpa [subL, Kd.int, Kd.scalar] using h7
  have HC := Aside0.mk (endN_cast (l := l) (t := t) (p := p))
  have HL := Aside0.mk hl1
  have HS := Aside0.mk hs
  have HT := Aside0.mk ht
  have HX := Aside0.mk hcut
  clear hp h1 hl1 hs ht hcut
  generalize endN l t p = E at *
  go_enter Try.func41, Try.ntmps41
  go_wp2_with (first | (go_at_call 76; refine (place_any g l _ c t p _ HS.out hl HT.out).mono ?_; rintro e w1 ⟨rfl, hb⟩) | (go_at_call 77; refine (end_any g l _ c t p _ (HS.out.below hb) hl (Kd.C_below HT.out hb) h4 (by omega)).mono ?_; rintro e w2 ⟨rfl, hb2⟩; rw [← HC.out]))
  refine (clone_n _ _ _ (subL l t p) _ (by rw [← HL.out]; exact HX.out _ (below_then hb hb.size hb2)) (by omega)).mono ?_
  rintro e w3 ⟨v, rfl, hR, hb3⟩
  go_wp2
  go_ret2
  exact ⟨_, rfl, Kd.R_lower hR (Nat.le_trans hb.size hb2.size), below_then (below_then hb hb.size hb2) (Nat.le_trans hb.size hb2.size) hb3⟩
end Go.Proofs.Ytadjoaipmcbieaa

/- PLAIN: lists that are terms in prefix order: what the loop of term.end tells of them; places, arguments. -/
namespace Go.Proofs.Ytadjoaipmcbieaa
open Go.RowKit Go.Proofs.YtadjoaipmcbieaaW.PrintWords Go.Proofs.YtadjoaipmcbieaaW.PrintLast Go.Proofs.YtadjoaipmcbieaaW.PrintMore A

/-- A list is just k terms, one behind the other. -/
inductive IsT (b : Int → Nat) : Nat → List Int → Prop
  | nil : IsT b 0 []
  | cons {k : Nat} {n : Int} {r : List Int} (h : IsT b (b n + k) r) : IsT b (k + 1) (n :: r)

section
variable {b : Int → Nat} {a : Int → Int}
theorem IsT.zero {xs : List Int} (h : IsT b 0 xs) : xs = [] := by cases h; rfl
theorem IsT.of_nil {k : Nat} (h : IsT b k []) : k = 0 := by cases h; rfl
theorem IsT.uncons {k : Nat} {n : Int} {r : List Int} (h : IsT b k (n :: r)) : ∃ m, k = m + 1 ∧ IsT b (b n + m) r := by
  cases h with | cons h => exact ⟨_, rfl, h⟩
theorem IsT.pos {k : Nat} {xs : List Int} (h : IsT b k xs) : k ≤ xs.length := by
  induction h with
  | nil => simp
  | cons _ ih => simp only [List.length_cons]; omega
theorem IsT.append {k m : Nat} {xs ys : List Int} (h : IsT b k xs) (h' : IsT b m ys) : IsT b (k + m) (xs ++ ys) := by
  induction h with
  | nil => simpa using h'
  | @cons k n r _ ih => rw [show k + 1 + m = (k + m) + 1 by omega]; exact IsT.cons (by rw [← Nat.add_assoc]; exact ih)
theorem IsT.split {k m : Nat} {zs : List Int} (h : IsT b (k + m) zs) : ∃ xs ys, zs = xs ++ ys ∧ IsT b k xs ∧ IsT b m ys := by
  generalize hN : k + m = N at h
  induction h generalizing k m with
  | nil => exact ⟨[], [], rfl, by rw [show k = 0 by omega]; exact .nil, by rw [show m = 0 by omega]; exact .nil⟩
  | @cons N n r _ ih =>
    rcases Nat.eq_zero_or_pos k with rfl | hk
    · exact ⟨[], n :: r, rfl, .nil, by rw [show m = N + 1 by omega]; exact .cons ‹_›⟩
    · obtain ⟨xs, ys, rfl, h1, h2⟩ := ih (k := b n + (k - 1)) (m := m) (by omega)
      exact ⟨n :: xs, ys, rfl, by rw [show k = (k - 1) + 1 by omega]; exact .cons h1, h2⟩
/-- What stands behind a place is some terms, too. -/
theorem IsT.suffix {k : Nat} {xs ys : List Int} (h : IsT b k (xs ++ ys)) : ∃ m, IsT b m ys := by
  induction xs generalizing k with
  | nil => exact ⟨k, h⟩
  | cons x xs ih => obtain ⟨m, _, h'⟩ := IsT.uncons h; exact ih h'
theorem IsT.prefix_eq {k : Nat} {xs ys r r' : List Int} (h : IsT b k xs) (h' : IsT b k ys) (e : xs ++ r = ys ++ r') : xs = ys := by
  induction h generalizing ys with
  | nil => exact h'.zero.symm
  | @cons k n xs _ ih =>
    cases ys with
    | nil => have := h'.of_nil; omega
    | cons y ys =>
      simp only [List.cons_append, List.cons.injEq] at e
      obtain ⟨rfl, e⟩ := e
      obtain ⟨m, hm, h2⟩ := IsT.uncons h'
      obtain rfl : m = k := by omega
      rw [ih h2 e]

theorem fin_isT (hb : ∀ n, a n = b n) {k : Nat} {xs : List Int} (h : IsT b k xs) (r : List Int) (p : Nat) : fin a (xs ++ r) k p = p + xs.length := by
  induction h generalizing p with
  | nil => rw [fin_stop (by omega)]; simp
  | @cons k n xs _ ih =>
    rw [List.cons_append, fin, if_pos (by omega), hb, show ((k + 1 : Nat) : Int) + ((b n : Int) - 1) = ((b n + k : Nat) : Int) by omega, ih]
    simp only [List.length_cons]; omega
theorem isT_fin (hb : ∀ n, a n = b n) : ∀ (t : List Int) (k p : Nat), fin a t k p ≤ p + t.length → ∃ xs r, t = xs ++ r ∧ IsT b k xs ∧ fin a t k p = p + xs.length
  | [], k, p, h => by
    rcases Nat.eq_zero_or_pos k with rfl | hk
    · exact ⟨[], [], rfl, .nil, by simp [fin]⟩
    · rw [fin, if_pos (by omega)] at h; simp at h; omega
  | n :: t, k, p, h => by
    rcases Nat.eq_zero_or_pos k with rfl | hk
    · exact ⟨[], n :: t, rfl, .nil, by simp [fin]⟩
    · obtain ⟨k, rfl⟩ : ∃ m, k = m + 1 := ⟨k - 1, by omega⟩
      have e : fin a (n :: t) ((k + 1 : Nat) : Int) p = fin a t ((b n + k : Nat) : Int) (p + 1) := by
        rw [fin, if_pos (by omega), hb, show ((k + 1 : Nat) : Int) + ((b n : Int) - 1) = ((b n + k : Nat) : Int) by omega]
      rw [e] at h ⊢
      simp only [List.length_cons] at h
      obtain ⟨xs, r, rfl, h1, h2⟩ := isT_fin hb t (b n + k) (p + 1) (by omega)
      exact ⟨n :: xs, r, rfl, .cons h1, by rw [h2]; simp only [List.length_cons]; omega⟩
end

/-- Arities as numbers from 0 on. -/
def an (l : List S89) (n : Int) : Nat := (ar l n).toNat
theorem an_ar {l : List S89} (hl : GoodL l) (n : Int) : ar l n = (an l n : Nat) := by have := ar_bd hl n; unfold an; omega

/-- t is a term over l. -/
abbrev Ter (l : List S89) (t : List Int) : Prop := IsT (an l) 1 t

theorem chk_ter {l : List S89} {t : List Int} (hl : GoodL l) (h : chk l t = 0) : Ter l t := by
  unfold chk at h
  split at h
  · omega
  · have key : ∀ (r : List Int) (z : Int), bads l.length r z = 0 → z = 0 := by
      intro r
      induction r with
      | nil => intro z hz; exact hz
      | cons n r ih =>
        intro z hz
        rw [bads] at hz
        split at hz
        · exact ih z hz
        · contradiction
    have h2 := key _ _ h
    unfold shape at h2
    split at h2
    · omega
    · split at h2
      · rename_i h3 h4
        obtain ⟨xs, r, e, h5, h6⟩ := isT_fin (an_ar hl) t 1 0 (by have h4' : fin (ar l) t ((1 : Nat) : Int) 0 = t.length := h4; omega)
        have h7 : xs.length = t.length := by have h4' : fin (ar l) t ((1 : Nat) : Int) 0 = t.length := h4; omega
        have h8 : r = [] := by
          have := congrArg List.length e
          rw [List.length_append] at this
          exact List.eq_nil_of_length_eq_zero (by omega)
        subst h8
        rw [List.append_nil] at e
        rw [e]; exact h5
      · omega

/-- At each place of a term a subterm stands. -/
theorem Ter.at_ {l : List S89} {t : List Int} (h : Ter l t) {p : Nat} (hp : p < t.length) : ∃ s r, t.drop p = s ++ r ∧ Ter l s := by
  have h1 : IsT (an l) 1 (t.take p ++ t.drop p) := by rw [List.take_append_drop]; exact h
  obtain ⟨m, hm⟩ := h1.suffix
  have hm1 : 1 ≤ m := by
    rcases Nat.eq_zero_or_pos m with rfl | h0
    · have := congrArg List.length hm.zero; simp at this; omega
    · exact h0
  obtain ⟨s, r, e, hs, _⟩ := IsT.split (k := 1) (m := m - 1) (by rw [show 1 + (m - 1) = m by omega]; exact hm)
  exact ⟨s, r, e, hs⟩
theorem endN_of {l : List S89} (hl : GoodL l) {t s r : List Int} {p : Nat} (e : t.drop p = s ++ r) (hs : Ter l s) : endN l t p = p + s.length := by
  have h := fin_isT (an_ar hl) hs r p
  unfold endN
  rw [e]
  have h' : fin (ar l) (s ++ r) 1 p = p + s.length := h
  rw [h']; omega
theorem endN_le {l : List S89} (hl : GoodL l) {t : List Int} (h : Ter l t) {p : Nat} (hp : p < t.length) : endN l t p ≤ t.length ∧ p < endN l t p := by
  obtain ⟨s, r, e, hs⟩ := h.at_ hp
  have hs1 := hs.pos
  rw [endN_of hl e hs]
  have := congrArg List.length e
  simp at this
  omega
theorem subL_of {l : List S89} (hl : GoodL l) {t s r : List Int} {p : Nat} (e : t.drop p = s ++ r) (hs : Ter l s) : subL l t p = s := by
  unfold subL
  rw [endN_of hl e hs, List.drop_take, e]
  simp

/-- The places at which lists stand that are laid one behind the other. -/
def starts : Nat → List (List Int) → List Nat
  | _, [] => []
  | p, s :: ss => p :: starts (p + s.length) ss
theorem IsT.parts {b : Int → Nat} : ∀ {k : Nat} {xs : List Int}, IsT b k xs → ∃ ss : List (List Int), ss.length = k ∧ (∀ s ∈ ss, IsT b 1 s) ∧ xs = ss.flatten
  | 0, xs, h => ⟨[], rfl, by simp, by rw [h.zero]; rfl⟩
  | k + 1, xs, h => by
    obtain ⟨s, r, rfl, h1, h2⟩ := IsT.split (k := 1) (m := k) (by rw [Nat.add_comm]; exact h)
    obtain ⟨ss, rfl, h3, rfl⟩ := h2.parts
    exact ⟨s :: ss, rfl, by simpa using ⟨h1, h3⟩, rfl⟩
theorem argsF_starts {l : List S89} (hl : GoodL l) {t : List Int} : ∀ {ss : List (List Int)} {nx : Nat} {r : List Int}, (∀ s ∈ ss, Ter l s) → t.drop nx = ss.flatten ++ r → argsF l t ss.length nx = starts nx ss
  | [], _, _, _, _ => rfl
  | s :: ss, nx, r, hs, e => by
    rw [List.flatten_cons, List.append_assoc] at e
    have he := endN_of hl e (hs s (by simp))
    simp only [List.length_cons, argsF, starts]
    rw [he, argsF_starts hl (r := r) (fun x hx => hs x (by simp [hx]))]
    rw [← List.drop_drop, e]; simp
theorem starts_le : ∀ {ss : List (List Int)} {p x : Nat}, (∀ s ∈ ss, s ≠ []) → x ∈ starts p ss → p ≤ x ∧ x < p + ss.flatten.length
  | [], _, _, _, h => by simp [starts] at h
  | s :: ss, p, x, hs, h => by
    have h0 : 0 < s.length := List.length_pos_iff.2 (hs s (by simp))
    simp only [starts, List.mem_cons] at h
    rw [List.flatten_cons, List.length_append]
    rcases h with rfl | h
    · omega
    · have := starts_le (fun x hx => hs x (by simp [hx])) h; omega
theorem Ter.ne {l : List S89} {s : List Int} (h : Ter l s) : s ≠ [] := by rintro rfl; have := h.of_nil; omega

/-- What stands behind a place of a term: its arguments, one behind the other. -/
theorem Ter.args_at {l : List S89} {t : List Int} (h : Ter l t) {p : Nat} (hp : p < t.length) :
    ∃ (ss : List (List Int)) (r : List Int), t.drop (p + 1) = ss.flatten ++ r ∧ ss.length = an l (rd t p) ∧ (∀ s ∈ ss, Ter l s) ∧ Ter l (rd t p :: ss.flatten) := by
  obtain ⟨s, r, e, hs⟩ := h.at_ hp
  rw [drop_rd t p hp] at e
  cases s with
  | nil => exact absurd rfl hs.ne
  | cons n s =>
    simp only [List.cons_append, List.cons.injEq] at e
    obtain ⟨rfl, e⟩ := e
    obtain ⟨m, hm, h1⟩ := hs.uncons
    obtain rfl : m = 0 := by omega
    obtain ⟨ss, h2, h3, rfl⟩ := h1.parts
    exact ⟨ss, r, e, by omega, h3, hs⟩
theorem argsL_at {l : List S89} (hl : GoodL l) {t : List Int} {p : Nat} {ss : List (List Int)} {r : List Int} (e : t.drop (p + 1) = ss.flatten ++ r) (hn : ss.length = an l (rd t p)) (hs : ∀ s ∈ ss, Ter l s) : argsL l t p = starts (p + 1) ss := by
  unfold argsL
  rw [← argsF_starts hl hs e, hn]; rfl
theorem argsL_le {l : List S89} (hl : GoodL l) {t : List Int} (h : Ter l t) {p : Nat} (hp : p < t.length) : ∀ x ∈ argsL l t p, p < x ∧ x < t.length := by
  obtain ⟨ss, r, e, hn, hs, _⟩ := h.args_at hp
  rw [argsL_at hl e hn hs]
  intro x hx
  have h1 := starts_le (fun s h => (hs s h).ne) hx
  have := congrArg List.length e
  simp at this
  rw [List.length_flatten] at h1
  omega
end Go.Proofs.Ytadjoaipmcbieaa
