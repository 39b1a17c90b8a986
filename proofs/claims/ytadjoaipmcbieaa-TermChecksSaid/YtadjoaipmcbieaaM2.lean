/- (*Sig).Add where the symbol may not be added. -/
import Derived.Test.YtadjoaipmcbieaaM1
namespace Go.Proofs.Ytadjoaipmcbieaa
open Go.RowKit Go.Proofs.YtadjoaipmcbieaaW.PrintWords Go.Proofs.YtadjoaipmcbieaaW.PrintLast Go.Proofs.YtadjoaipmcbieaaW.PrintMore A
open Go.Maps

set_option maxRecDepth 100000 in
set_option maxHeartbeats 2000000 in
theorem add_bad (g m kk : Nat) (A : Option Addr) (c : Nat) (l : List S89) (x : S89) (e : Int) (w : World) (hg : w.heap[g]? = some (.cells #[.slice A l.length c, .map (some m)] 126 (0, 0)))
    (hm : IdxM w m (l.map (·.f0))) (hsz : x.f0.size ≤ maxLen) (nm : Bool) (h1 : sig_IsName.f kk x.f0 = some nm)
    (he : (nm = false ∧ e = 10) ∨ (nm = true ∧ (x.f1 < 0 ∨ 6 < x.f1) ∧ e = 11) ∨ (nm = true ∧ 0 ≤ x.f1 ∧ x.f1 ≤ 6 ∧ (l.map (·.f0)).any (fun y => decide (y = x.f0)) = true ∧ e = 12) ∨ (nm = true ∧ 0 ≤ x.f1 ∧ x.f1 ≤ 6 ∧ (l.map (·.f0)).any (fun y => decide (y = x.f0)) = false ∧ l.length = 64 ∧ e = 13)) :
    Calls Try.prog 73 #[.pointer (some ⟨g, 0, none⟩), xV x] w fun e' w' => e' = .returned (.tuple #[.int .i64 0, .int .i64 e]) ∧ Below w.heap.size w w' := by
  have hgl := blk_lt hg
  have hml := hm.lt
  have c0 := cell_alloc (cell_of_row w g 0 _ _ _ hg)
  have c1 := cell_alloc (cell_of_row w g 1 _ _ _ hg)
  obtain ⟨x0, x1, x2⟩ := x
  simp only [xV] at *
  obtain ⟨cz, hlk⟩ := look_any hm x0 hsz
  have hb0 : ∀ (O : Obj) n, Below w.heap.size w ((w.alloc O).drewN n) := fun O n => pw_below_drewN (below_alloc (Below.refl _ _) _) _
  have HB0 := Aside0.mk hb0
  clear hb0
  rcases he with ⟨rfl, rfl⟩ | ⟨rfl, h2, rfl⟩ | ⟨rfl, h2, h3, h4, rfl⟩ | ⟨rfl, h2, h3, h4, h5, rfl⟩
  · generalize (l.map (·.f0)).any (fun y => decide (y = x0)) = th at hlk
    have hlk1 := fun (O : Obj) (n : Nat) => hlk ((w.alloc O).drewN n) (Below.heap_alloc w O m hml)
    have hlk2 := fun (O : Obj) => hlk (w.alloc O) (Below.heap_alloc w O m hml)
    clear hlk
    go_enter Try.func73, Try.ntmps73
    go_wp2
    go_quiet (fail)
    go_wp2_with (go_at_call 100; refine (sig_IsName.calls kk x0 false _ h1).mono ?_; rintro e w1 ⟨rfl, ⟨nd, rfl⟩⟩)
    go_ret2
    exact ⟨rfl, HB0.out _ _⟩
  · generalize (l.map (·.f0)).any (fun y => decide (y = x0)) = th at hlk
    have hlk1 := fun (O : Obj) (n : Nat) => hlk ((w.alloc O).drewN n) (Below.heap_alloc w O m hml)
    have hlk2 := fun (O : Obj) => hlk (w.alloc O) (Below.heap_alloc w O m hml)
    clear hlk
    rcases h2 with h2 | h2
    · have e1 : decide (x1 < 0) = true := decide_eq_true h2
      go_enter Try.func73, Try.ntmps73
      go_wp2
      go_quiet (fail)
      go_wp2_with (go_at_call 100; refine (sig_IsName.calls kk x0 true _ h1).mono ?_; rintro e w1 ⟨rfl, ⟨nd, rfl⟩⟩)
      go_ret2
      exact ⟨rfl, HB0.out _ _⟩
    · have e1 : decide (x1 < 0) = false := decide_eq_false (by omega)
      have e2 : decide (6 < x1) = true := decide_eq_true h2
      go_enter Try.func73, Try.ntmps73
      go_wp2
      go_quiet (fail)
      go_wp2_with (go_at_call 100; refine (sig_IsName.calls kk x0 true _ h1).mono ?_; rintro e w1 ⟨rfl, ⟨nd, rfl⟩⟩)
      go_ret2
      exact ⟨rfl, HB0.out _ _⟩
  · rw [h4] at hlk
    have hlk1 := fun (O : Obj) (n : Nat) => hlk ((w.alloc O).drewN n) (Below.heap_alloc w O m hml)
    have hlk2 := fun (O : Obj) => hlk (w.alloc O) (Below.heap_alloc w O m hml)
    clear hlk
    go_enter Try.func73, Try.ntmps73
    go_wp2
    go_quiet (fail)
    go_wp2_with (go_at_call 100; refine (sig_IsName.calls kk x0 true _ h1).mono ?_; rintro e w1 ⟨rfl, ⟨nd, rfl⟩⟩)
    go_ret2
    exact ⟨rfl, HB0.out _ _⟩
  · rw [h4] at hlk
    have hlk1 := fun (O : Obj) (n : Nat) => hlk ((w.alloc O).drewN n) (Below.heap_alloc w O m hml)
    have hlk2 := fun (O : Obj) => hlk (w.alloc O) (Below.heap_alloc w O m hml)
    clear hlk
    have e5 : ((l.length : Int) == 64) = true := beq_iff_eq.2 (by omega)
    clear h5
    go_enter Try.func73, Try.ntmps73
    go_wp2
    go_quiet (fail)
    go_wp2_with (go_at_call 100; refine (sig_IsName.calls kk x0 true _ h1).mono ?_; rintro e w1 ⟨rfl, ⟨nd, rfl⟩⟩)
    go_ret2
    exact ⟨rfl, HB0.out _ _⟩
end Go.Proofs.Ytadjoaipmcbieaa
