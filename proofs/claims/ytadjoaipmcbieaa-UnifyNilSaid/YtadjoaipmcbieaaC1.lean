/- Own rows between two bounds: what was made by one call lies in blocks of that call's time. -/
import Derived.Test.YtadjoaipmcbieaaC0
namespace Go.Proofs.Ytadjoaipmcbieaa
open Go.RowKit Go.Proofs.YtadjoaipmcbieaaW.PrintWords Go.Proofs.YtadjoaipmcbieaaW.PrintLast Go.Proofs.YtadjoaipmcbieaaW.PrintMore A

/-- An own row of numbers whose block lies in lo .. hi. -/
def Rw (W : World) (lo hi : Nat) (v : Value) (xs : List Int) : Prop := Kd.R (Kd.int .i64) 3 W lo (fun k => lo ≤ k ∧ k < hi) v xs
theorem Rw.mk {W : World} {lo : Nat} {v : Value} {xs : List Int} (h : Kd.R (Kd.int .i64) 3 W lo (fun _ => True) v xs) : Rw W lo W.heap.size v xs := Kd.R_mono (Kd.R_bound h) (fun _ hk => ⟨hk.2.1, hk.2.2.1⟩)
theorem Rw.nil (W : World) (lo hi : Nat) : Rw W lo hi (.slice none 0 0) [] := Kd.R_nil _ _ _ _ _
theorem Rw.below {W W' : World} {lo hi : Nat} {v : Value} {xs : List Int} (h : Rw W lo hi v xs) (hb : Below W.heap.size W W') : Rw W' lo hi v xs := Kd.R_below h hb
theorem Rw.kept {W W' : World} {lo hi : Nat} {v : Value} {xs : List Int} {S : Nat → Prop} (h : Rw W lo hi v xs) (hk : Kept W W' S) (hS : ∀ k, lo ≤ k → k < hi → ¬ S k) : Rw W' lo hi v xs := Kd.R_kept h hk (fun k hk => hS k hk.1 hk.2)
theorem Rw.own {W : World} {lo hi : Nat} {v : Value} {xs : List Int} (h : Rw W lo hi v xs) : ∀ k, v.ownBlock = some k → lo ≤ k ∧ k < hi := h.1
theorem Rw.all {W : World} {lo hi : Nat} {v : Value} {xs : List Int} (h : Rw W lo hi v xs) : Kd.R (Kd.int .i64) 3 W lo (fun _ => True) v xs := Kd.R_mono h (fun _ _ => trivial)
theorem Rw.at_ {W : World} {lo hi g n c : Nat} {xs : List Int} (h : Rw W lo hi (.slice (some ⟨g, 0, none⟩) n c) xs) : lo ≤ g ∧ g < hi := h.1 g rfl
theorem Rw.reads {W : World} {lo hi : Nat} {v : Value} {xs : List Int} (h : Rw W lo hi v xs) : ∃ A c, v = .slice A xs.length c ∧ xs.length ≤ c ∧ Kd.C (Kd.int .i64) W A xs.length xs := Kd.R_reads h
theorem Rw.front {W : World} {lo hi n c : Nat} {A : Option Addr} {t r : List Int} (h : Rw W lo hi (.slice A n c) (t ++ r)) : Kd.C (Kd.int .i64) W A t.length t := by
  have h2 := Kd.R_reads' h
  exact C_front h2.2.2

/-- apart of three rows that lie apart. -/
theorem apart_rw (w0 w : World) (hB : Below w0.heap.size w0 w) (l : List Int) (hl : l.length ≤ 100000) {va vb vc : Value} {la ha lb hb lc hc : Nat} (h0 : w0.heap.size ≤ la)
    (a : Rw w la ha va l) (b : Rw w lb hb vb l) (c : Rw w lc hc vc l) (hab : ha ≤ lb ∨ hb ≤ la) (hac : ha ≤ lc ∨ hc ≤ la) :
    Calls Try.prog 33 #[va, vb, vc] w fun e w' => e = .returned (.bool true) ∧ Below w0.heap.size w0 w' ∧ Kept w w' (fun k => la ≤ k ∧ k < ha) := by
  refine (apart_any w0 w hB l hl va vb vc _ _ _ _ (Kd.R_lower a.all h0) b (fun k hk e => ?_) c (fun k hk e => ?_)).mono ?_
  · have := a.own k e.symm; omega
  · have := a.own k e.symm; omega
  · rintro e w' ⟨he, hb, hk⟩
    exact ⟨he, hb, hk.mono (fun k hk => a.own k hk.symm)⟩
end Go.Proofs.Ytadjoaipmcbieaa
