/- ropewalklaw02.lent and kept: a list with a number behind it; whether it is as it was lent. -/
import Derived.Test.YtadjoaipmcbieaaS6
import Derived.Test.YtadjoaipmcbieaaR0
namespace Go.Proofs.Ytadjoaipmcbieaa
open Go.RowKit Go.Proofs.YtadjoaipmcbieaaW.PrintWords Go.Proofs.YtadjoaipmcbieaaW.PrintLast Go.Proofs.YtadjoaipmcbieaaW.PrintMore A
set_option linter.unusedSimpArgs false

/-- make([]int, 0, n), n being told as a sum. -/
theorem make_cap (x : Int) (N : Nat) (hx : x = N) (hN : N ≤ 17592186044416) : ∃ Z : List Value, Z.length = N ∧
    ∀ W : World, (Instr.makeSlice 24 (.int .i64 0) (.int .i64 x)).run Try.prog W = .ok (.slice (some ⟨W.heap.size, 0, none⟩) 0 N) (W.alloc (.cells Z.toArray 3)) := by
  subst hx
  obtain ⟨i0, hi, hz0, hz1, hz2⟩ := info_parts info3
  refine ⟨(madeCells #[.int .i64 0] N).toList, by simp [size_madeCells], fun W => ?_⟩
  have hr := run_make (P := Try.prog) W 24 3 i0 (.int .i64 0) Try.underlying24 hi hz0 .i64 .i64 0 N (by omega) (by omega) (by rw [hz2]; omega) (by omega)
  rw [hz1] at hr
  simpa [Value.cells] using hr
theorem own_cap (w : World) (Z : List Value) (N : Nat) (h : Z.length = N) (hN : N ≤ 17592186044416) : Kd.R (Kd.int .i64) 3 (w.alloc (.cells Z.toArray 3)) w.heap.size (fun _ => True) (.slice (some ⟨w.heap.size, 0, none⟩) 0 N) ([] : List Int) :=
  ⟨fun _ _ => trivial, [], ⟨rfl, .inr ⟨w.heap.size, N, Z.toArray, rfl, Nat.le_refl _, heap_alloc_new w _, Nat.zero_le _, by unfold maxLen; omega, by show Z.toArray.size = N * 1; simp [h], rfl⟩⟩, by exact Reps.none _ _⟩

set_option maxRecDepth 100000 in
set_option maxHeartbeats 1000000 in
theorem lent_any (A : Option Addr) (c : Nat) (t : List Int) (w : World) (ht : Kd.C (Kd.int .i64) w A t.length t) (hl : t.length ≤ 17592186044415) :
    Calls Try.prog 27 #[.slice A t.length c] w fun e w' => ∃ g c', e = .returned (.slice (some ⟨g, 0, none⟩) t.length c') ∧ t.length + 1 ≤ c' ∧ Kd.R (Kd.int .i64) 3 w' w.heap.size (fun _ => True) (.slice (some ⟨g, 0, none⟩) (t.length + 1) c') (t ++ [77]) ∧ Below w.heap.size w w' := by
  have HT := Aside0.mk ht
  clear ht
  obtain ⟨Z, hZ, hm⟩ := make_cap ((t.length : Int) + 1) (t.length + 1) (by omega) (by omega)
  have HZ := Aside0.mk hZ
  go_enter Try.func27, Try.ntmps27
  go_wp2_with (first
    | ((at_builtin; refine Kd.R_append_rows (Kd.int .i64) (Rr := fun x cs => cs = [.int .i64 x]) (w0 := w) w.heap.size rfl (.tmp 6) (.tmp 7) 24 3 (.int .i64 0) 8 rfl Try.underlying24 info3 rfl (by decide) (by omega) (.slice (some ⟨w.heap.size, 0, none⟩) 0 (t.length + 1)) [] t A t.length c (fun _ => True) (fun _ => False) rfl rfl (own_cap w Z _ HZ.out (by omega)) (Kd.C_below HT.out (below_alloc (Below.refl _ _) _)) (fun _ _ h => h) (fun _ hk => hk.elim) (fun _ _ => trivial) (below_alloc (Below.refl _ _) _) (by simp) (by simp only [List.length_nil]; omega) ?_; intro v1 w1 ho hb hg hat; rw [List.nil_append] at ho; have HO := Aside0.mk ho; have HB := Aside0.mk hb; clear ho hb hg hat))
    | (at_builtin; refine Kd.R_append (Kd.int .i64) (w0 := w) w.heap.size rfl (.tmp 8) (.tmp 9) 24 3 (.int .i64 0) 8 rfl Try.underlying24 info3 rfl (by decide) (by omega) v1 t (77 : Int) [.int .i64 77] (fun _ => True) (fun _ => False) rfl rfl rfl (fun _ hk => hk.elim) (fun _ _ => trivial) HO.out HB.out HB.out.size (by omega) ?_; intro v2 w2 ho2 hb2 hg2 hat2; obtain ⟨g, cap, rfl, hgb, hgl, hgc⟩ := Kd.R_form ho2 (by simp); rw [show (t ++ [(77:Int)]).length = t.length + 1 by simp] at ho2; have hcap : t.length + 1 ≤ cap := (Kd.R_reads' ho2).2.1; have hcap2 : t.length ≤ cap := by omega))
  go_ret
  exact ⟨g, cap, rfl, (Kd.R_reads' ho2).2.1, ho2, hb2⟩

theorem rdOf_last (t : List Int) (y : Int) : rdOf (0 : Int) (t ++ [y]) (t.length : Int) = y := by
  simp [rdOf, List.getD_eq_getElem?_getD]
theorem C_front {w : World} {A : Option Addr} {n : Nat} {t r : List Int} (h : Kd.C (Kd.int .i64) w A n (t ++ r)) : Kd.C (Kd.int .i64) w A t.length t := by
  obtain rfl : (t ++ r).length = n := h.1
  have := Kd.C_take (m := t.length) h (by simp)
  simpa using this

set_option maxRecDepth 100000 in
set_option maxHeartbeats 1000000 in
theorem kept_any (g c : Nat) (B : Option Addr) (d base : Nat) (t : List Int) (w : World) (hr : Kd.R (Kd.int .i64) 3 w base (fun _ => True) (.slice (some ⟨g, 0, none⟩) (t.length + 1) c) (t ++ [77]))
    (ht : Kd.C (Kd.int .i64) w B t.length t) (hd : t.length ≤ d) (hl : t.length ≤ 17592186044415) :
    Calls Try.prog 32 #[.slice (some ⟨g, 0, none⟩) t.length c, .slice B t.length d] w fun e w' => e = .returned (.bool true) ∧ Below g w w' ∧ Kept w w' (fun k => k = g) := by
  have hcap : t.length + 1 ≤ c := (Kd.R_reads' hr).2.1
  have hcap2 : t.length ≤ c := by omega
  have hcap3 : t.length ≤ t.length + 1 := by omega
  obtain ⟨hx0, hf0⟩ := Kd.R_celln 0 hr (t.length : Int) (by omega) (by omega)
  have HG : Aside0 (g < w.heap.size) := ⟨by obtain ⟨g', c', e', _, h', _⟩ := Kd.R_form hr (by simp); have e2 := (Value.slice.inj e').1; cases e2; exact h'⟩
  rw [rdOf_last, Int.toNat_natCast] at hx0
  have HR := Aside0.mk hr
  have HT := Aside0.mk ht
  clear hr ht
  go_enter Try.func32, Try.ntmps32
  go_wp2_with (go_at_call 42; refine (same_n (some ⟨g, 0, none⟩) _ _ t B _ _ t _ (C_front (Kd.R_reads' HR.out).2.2) (by omega) HT.out hd).mono ?_; rintro e w1 ⟨rfl, hd1⟩; have hb1 := hd1.below; replace hx0 := pw_cell_below hb1 hx0)
  have HRw : Aside0 (Kd.R (Kd.int .i64) 3 w1 base (fun _ => True) (.slice (some ⟨g, 0, none⟩) (t.length + 1) c) (t ++ [77])) := ⟨Kd.R_below HR.out hb1⟩
  have HK : Aside0 (Kept w w1 (fun k => k = g)) := ⟨Kept.of_below hb1 _⟩
  have HB : Aside0 (Below g w w1) := ⟨hb1.mono (Nat.le_of_lt HG.out)⟩
  clear HR hb1 hd1 hx0 hf0
  go_loopw [7] (fun i wr => ∃ (j : Nat) (xs : List Int), i = .int .i64 j ∧ j ≤ t.length ∧ xs.length = t.length + 1 ∧ Aside0 (Kd.R (Kd.int .i64) 3 wr base (fun _ => True) (.slice (some ⟨g, 0, none⟩) (t.length + 1) c) xs) ∧ Aside0 (Kept w wr (fun k => k = g)) ∧ Aside0 (Below g w wr)) (fun i _ => t.length - (intOf i).toNat)
  case atStart => exact ⟨0, _, rfl, by omega, by simp, HRw, HK, HB⟩
  case round =>
    clear HRw HK HB
    obtain ⟨j, xs, rfl, hj, hxl, HR, HK, HB⟩ := hrel
    by_cases hlt : j < t.length
    · obtain ⟨hx, hf⟩ := Kd.R_celln 0 HR.out (j : Int) (by omega) (by omega)
      rw [Int.toNat_natCast] at hx hf
      have HP := Aside0.mk (Kd.R_putg HR.out (j : Int) (-777))
      have e1 : decide ((j : Int) < (t.length : Int)) = true := decide_eq_true (by omega)
      have hj2 : j < t.length + 1 := by omega
      go_wp2_with fail
      go_roundw
      case rel =>
        refine ⟨j + 1, _, ?_, by omega, ?_, ⟨HP.out.1⟩, ⟨Kept.setCell HK.out (.inl rfl) _⟩, ⟨HB.out.setCell (Nat.le_refl _) _⟩⟩
        · simp
        · simpa using hxl
      case measure => simp [intOf]; omega
    · have e1 : decide ((j : Int) < (t.length : Int)) = false := decide_eq_false (by omega)
      go_wp2_with fail
      go_ret
      exact ⟨by simp, HB.out, HK.out⟩
end Go.Proofs.Ytadjoaipmcbieaa
