/- The signature's readers: (*Sig).Len, (*Sig).At, term.arity: what each call answers, over any world in which the signature reads as a list. -/
import Derived.Test.YtadjoaipmcbieaaGA
import Derived.WalkSpells
import Derived.WalkLawsBesides
namespace Go.Proofs.Ytadjoaipmcbieaa
open Go.RowKit Go.Proofs.YtadjoaipmcbieaaW.PrintWords Go.Proofs.YtadjoaipmcbieaaW.PrintLast Go.Proofs.YtadjoaipmcbieaaW.PrintMore A

/-- The block g is a signature whose list reads as l. -/
def SigC (w : World) (g : Nat) (l : List S89) : Prop := ∃ A c, w.cell? ⟨g, 0, none⟩ = some (.slice A l.length c) ∧ l.length ≤ c ∧ Kd.C k89 w A l.length l
theorem SigC.below {w w' : World} {g : Nat} {l : List S89} (h : SigC w g l) (hb : Below w.heap.size w w') : SigC w' g l := by
  obtain ⟨A, c, h1, h2, h3⟩ := h
  exact ⟨A, c, pw_cell_below hb h1, h2, Kd.C_below h3 hb⟩
theorem cell_alloc {w : World} {a : Addr} {v : Value} (h : w.cell? a = some v) (o : Obj) : (w.alloc o).cell? a = some v := pw_cell_below (below_alloc (Below.refl _ _) o) h

/-- Len: of a signature. -/
theorem len_any (g : Nat) (l : List S89) (w : World) (hs : SigC w g l) :
    Calls Try.prog 79 #[.pointer (some ⟨g, 0, none⟩)] w fun e w' => e = .returned (.int .i64 l.length) ∧ w = w' := by
  obtain ⟨A, c, h1, h2, h3⟩ := hs
  go_enter Try.func79, Try.ntmps79
  go_wp2
  go_ret
  exact ⟨rfl, rfl⟩

theorem at_in (g : Nat) (l : List S89) (n : Int) (w : World) (hs : SigC w g l) (h0 : 0 ≤ n) (hn : n < l.length) :
    Calls Try.prog 122 #[.pointer (some ⟨g, 0, none⟩), .int .i64 n] w fun e w' => e = .returned (.tuple #[.agg #[.string (rd_T89 l n).f0, .int .i64 (rd_T89 l n).f1, .bool (rd_T89 l n).f2], .int .i64 0]) ∧ Below w.heap.size w w' := by
  obtain ⟨A, c, h1, h2, h3⟩ := hs
  obtain ⟨ad, rfl, hc0, hc1, hc2⟩ := at_T89 h3 n h0 hn
  have e1 : decide (n < 0) = false := decide_eq_false (by omega)
  have e2 : decide ((l.length : Int) ≤ n) = false := decide_eq_false (by omega)
  replace h1 := cell_alloc h1
  replace hc0 := cell_alloc hc0
  replace hc1 := cell_alloc hc1
  replace hc2 := cell_alloc hc2
  go_enter Try.func122, Try.ntmps122
  go_wp2
  exact bodyPost_ret (v := .tuple #[.agg #[.string (rd_T89 l n).f0, .int .i64 (rd_T89 l n).f1, .bool (rd_T89 l n).f2], .int .i64 0]) (by simp [results, Try.results122, go_sem]) rfl ⟨rfl, (Below.refl _ _).alloc (Nat.le_refl _) _⟩

/-- At: no such symbol. -/
theorem at_out (g : Nat) (l : List S89) (n : Int) (w : World) (hs : SigC w g l) (h0 : n < 0 ∨ l.length ≤ n) :
    Calls Try.prog 122 #[.pointer (some ⟨g, 0, none⟩), .int .i64 n] w fun e w' => e = .returned (.tuple #[.agg #[.string ⟨#[]⟩, .int .i64 0, .bool false], .int .i64 14]) ∧ Below w.heap.size w w' := by
  obtain ⟨A, c, h1, h2, h3⟩ := hs
  replace h1 := cell_alloc h1
  by_cases hn : n < 0
  · have e1 : decide (n < 0) = true := decide_eq_true hn
    go_enter Try.func122, Try.ntmps122
    go_wp2
    exact bodyPost_ret (v := .tuple #[.agg #[.string ⟨#[]⟩, .int .i64 0, .bool false], .int .i64 14]) (by simp [results, Try.results122, go_sem]) rfl ⟨rfl, (Below.refl _ _).alloc (Nat.le_refl _) _⟩
  · have e1 : decide (n < 0) = false := decide_eq_false (by omega)
    have e2 : decide ((l.length : Int) ≤ n) = true := decide_eq_true (by omega)
    go_enter Try.func122, Try.ntmps122
    go_wp2
    exact bodyPost_ret (v := .tuple #[.agg #[.string ⟨#[]⟩, .int .i64 0, .bool false], .int .i64 14]) (by simp [results, Try.results122, go_sem]) rfl ⟨rfl, (Below.refl _ _).alloc (Nat.le_refl _) _⟩

/-- How many arguments stand behind a number. -/
def ar (l : List S89) (n : Int) : Int := if n < 0 then 0 else (rd_T89 l n).f1
theorem ar_neg {l : List S89} {n : Int} (h : n < 0) : ar l n = 0 := if_pos h
theorem ar_out {l : List S89} {n : Int} (h : l.length ≤ n) : ar l n = 0 := by
  unfold ar; split
  · rfl
  · unfold rd_T89; rw [List.getD_eq_getElem?_getD, List.getElem?_eq_none (by omega)]; rfl

theorem arity_any (g : Nat) (l : List S89) (n : Int) (w : World) (hs : SigC w g l) :
    Calls Try.prog 104 #[.pointer (some ⟨g, 0, none⟩), .int .i64 n] w fun e w' => e = .returned (.int .i64 (ar l n)) ∧ Below w.heap.size w w' := by
  by_cases h0 : n < 0
  · rw [ar_neg h0]
    have e1 : decide (n < 0) = true := decide_eq_true h0
    go_enter Try.func104, Try.ntmps104
    go_wp2
    go_ret
    exact ⟨rfl, Below.refl _ _⟩
  · have e1 : decide (n < 0) = false := decide_eq_false h0
    by_cases h1 : n < l.length
    · have e : ar l n = (rd_T89 l n).f1 := if_neg h0
      rw [e]
      clear e
      go_enter Try.func104, Try.ntmps104
      go_wp2_with (go_at_call 122; refine (at_in g l n _ hs (by omega) h1).mono ?_; rintro e w1 ⟨rfl, hb⟩)
      go_ret
      exact ⟨rfl, below_alloc hb _⟩
    · rw [ar_out (by omega)]
      go_enter Try.func104, Try.ntmps104
      go_wp2_with (go_at_call 122; refine (at_out g l n _ hs (by omega)).mono ?_; rintro e w1 ⟨rfl, hb⟩)
      go_ret
      exact ⟨rfl, below_alloc hb _⟩
end Go.Proofs.Ytadjoaipmcbieaa
