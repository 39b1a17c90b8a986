/- PRINTED TEXT, LAID ANEW: written by the kit's print.py over all laws of the seat at once (wip/printall.sh), its files joined by wip/regroup.py. No statement of the set is proved here: plain functions with the Go functions' answers, and the proof that the Go functions come to these answers, for: ropewalkref02_Depth. -/
import Derived.Test.YtadjoaipmcbieaaG0
import Derived.Test.YtadjoaipmcbieaaGA
namespace Go.Proofs.Ytadjoaipmcbieaa.A
open Go.RowKit Go.Proofs.YtadjoaipmcbieaaW.PrintWords Go.Proofs.YtadjoaipmcbieaaW.PrintLast Go.Proofs.YtadjoaipmcbieaaW.PrintMore
attribute [local go_sem] max2_int min2_int max_two min_two max_three min_three max_four min_four   -- for this text's walks alone
set_option linter.unusedVariables false
set_option linter.unusedSimpArgs false

/-! ### ropewalkref02_Depth: function 40 -/
mutual
def ropewalkref02_Depth.l0 : Nat → List (S89) → List Int → Int → List Int → Int → Option (Int)
  | 0, _, _, _, _, _ => none
  | k + 1, x0, x1, x5, x6, x7 => if x7 < (x1.length : Int) then (if (wrap64 ((x6.length : Int) + 1)) > x5 then (ropewalkref02_Depth.j1 k x0 x1 (wrap64 ((x6.length : Int) + 1)) x6 x7) else (ropewalkref02_Depth.j1 k x0 x1 x5 x6 x7)) else (some x5)
def ropewalkref02_Depth.j1 : Nat → List (S89) → List Int → Int → List Int → Int → Option (Int)
  | 0, _, _, _, _, _ => none
  | k + 1, x0, x1, x5, x6, x7 => if 0 ≤ x7 then (if x7 < (x1.length : Int) then ((ropewalkref02_arity.f x0 (rd x1 x7)).bind fun t172 => (if x6.length < 17592186044416 then (ropewalkref02_Depth.l1 k x0 x1 x5 (x6 ++ [t172]) x7) else (none))) else (none)) else (none)
def ropewalkref02_Depth.l1 : Nat → List (S89) → List Int → Int → List Int → Int → Option (Int)
  | 0, _, _, _, _, _ => none
  | k + 1, x0, x1, x5, x6, x7 => if (x6.length : Int) > 0 then (if 0 ≤ (wrap64 ((x6.length : Int) - 1)) then (if (wrap64 ((x6.length : Int) - 1)) < (x6.length : Int) then (ropewalkref02_Depth.j3 k x0 x1 x5 x6 x7 ((rd x6 (wrap64 ((x6.length : Int) - 1))) == 0)) else (none)) else (none)) else (ropewalkref02_Depth.j3 k x0 x1 x5 x6 x7 false)
def ropewalkref02_Depth.j3 : Nat → List (S89) → List Int → Int → List Int → Int → Bool → Option (Int)
  | 0, _, _, _, _, _, _ => none
  | k + 1, x0, x1, x5, x6, x7, x42 => if x42 = true then (if 0 ≤ (wrap64 ((x6.length : Int) - 1)) then (if (wrap64 ((x6.length : Int) - 1)) ≤ (x6.length : Int) then ((some (x6.take ((wrap64 ((x6.length : Int) - 1)) : Int).toNat : List Int)).bind fun y177 => (if (y177.length : Int) > 0 then (if 0 ≤ (wrap64 ((y177.length : Int) - 1)) then (if (wrap64 ((y177.length : Int) - 1)) < (y177.length : Int) then (ropewalkref02_Depth.l1 k x0 x1 x5 (y177.set ((wrap64 ((y177.length : Int) - 1)) : Int).toNat (wrap64 ((rd y177 (wrap64 ((y177.length : Int) - 1))) - 1))) x7) else (none)) else (none)) else (ropewalkref02_Depth.l1 k x0 x1 x5 y177 x7))) else (none)) else (none)) else (ropewalkref02_Depth.l0 k x0 x1 x5 x6 (wrap64 (x7 + 1)))
end
def ropewalkref02_Depth.f (k : Nat) (l0 : List (S89)) (l1 : List Int) : Option (Int) := ropewalkref02_Depth.l0 k l0 l1 0 ([] : List Int) 0
theorem ropewalkref02_Depth.mono_l : ∀ k, (∀ y0 y1 y2 y3 y4, LeO (ropewalkref02_Depth.l0 k y0 y1 y2 y3 y4) (ropewalkref02_Depth.l0 (k + 1) y0 y1 y2 y3 y4)) ∧ (∀ y0 y1 y2 y3 y4, LeO (ropewalkref02_Depth.j1 k y0 y1 y2 y3 y4) (ropewalkref02_Depth.j1 (k + 1) y0 y1 y2 y3 y4)) ∧ (∀ y0 y1 y2 y3 y4, LeO (ropewalkref02_Depth.l1 k y0 y1 y2 y3 y4) (ropewalkref02_Depth.l1 (k + 1) y0 y1 y2 y3 y4)) ∧ (∀ y0 y1 y2 y3 y4 y5, LeO (ropewalkref02_Depth.j3 k y0 y1 y2 y3 y4 y5) (ropewalkref02_Depth.j3 (k + 1) y0 y1 y2 y3 y4 y5))
  | 0 => ⟨fun _ _ _ _ _ r h => by simp [ropewalkref02_Depth.l0] at h, fun _ _ _ _ _ r h => by simp [ropewalkref02_Depth.j1] at h, fun _ _ _ _ _ r h => by simp [ropewalkref02_Depth.l1] at h, fun _ _ _ _ _ _ r h => by simp [ropewalkref02_Depth.j3] at h⟩
  | k + 1 => by
    obtain ⟨ih0, ih1, ih2, ih3⟩ := ropewalkref02_Depth.mono_l k
    refine ⟨?_, ?_, ?_, ?_⟩
    · intro y0 y1 y2 y3 y4
      unfold ropewalkref02_Depth.l0
      repeat' first
      | (with_reducible exact ih0 _ _ _ _ _)
      | (with_reducible exact ih1 _ _ _ _ _)
      | (with_reducible exact ih2 _ _ _ _ _)
      | (with_reducible exact ih3 _ _ _ _ _ _)
      | (with_reducible exact LeO.refl _)
      | (with_reducible exact LeO.none _)
      | (with_reducible refine LeO.ite ?_ ?_)
      | (with_reducible refine LeO.bind ?_ (fun _ => ?_))
      | exact ih0 _ _ _ _ _
      | exact ih1 _ _ _ _ _
      | exact ih2 _ _ _ _ _
      | exact ih3 _ _ _ _ _ _
      | exact LeO.none _
      | refine LeO.ite ?_ ?_
      | refine LeO.bind ?_ (fun _ => ?_)
    · intro y0 y1 y2 y3 y4
      unfold ropewalkref02_Depth.j1
      repeat' first
      | (with_reducible exact ih0 _ _ _ _ _)
      | (with_reducible exact ih1 _ _ _ _ _)
      | (with_reducible exact ih2 _ _ _ _ _)
      | (with_reducible exact ih3 _ _ _ _ _ _)
      | (with_reducible exact LeO.refl _)
      | (with_reducible exact LeO.none _)
      | (with_reducible refine LeO.ite ?_ ?_)
      | (with_reducible refine LeO.bind ?_ (fun _ => ?_))
      | exact ih0 _ _ _ _ _
      | exact ih1 _ _ _ _ _
      | exact ih2 _ _ _ _ _
      | exact ih3 _ _ _ _ _ _
      | exact LeO.none _
      | refine LeO.ite ?_ ?_
      | refine LeO.bind ?_ (fun _ => ?_)
    · intro y0 y1 y2 y3 y4
      unfold ropewalkref02_Depth.l1
      repeat' first
      | (with_reducible exact ih0 _ _ _ _ _)
      | (with_reducible exact ih1 _ _ _ _ _)
      | (with_reducible exact ih2 _ _ _ _ _)
      | (with_reducible exact ih3 _ _ _ _ _ _)
      | (with_reducible exact LeO.refl _)
      | (with_reducible exact LeO.none _)
      | (with_reducible refine LeO.ite ?_ ?_)
      | (with_reducible refine LeO.bind ?_ (fun _ => ?_))
      | exact ih0 _ _ _ _ _
      | exact ih1 _ _ _ _ _
      | exact ih2 _ _ _ _ _
      | exact ih3 _ _ _ _ _ _
      | exact LeO.none _
      | refine LeO.ite ?_ ?_
      | refine LeO.bind ?_ (fun _ => ?_)
    · intro y0 y1 y2 y3 y4 y5
      unfold ropewalkref02_Depth.j3
      repeat' first
      | (with_reducible exact ih0 _ _ _ _ _)
      | (with_reducible exact ih1 _ _ _ _ _)
      | (with_reducible exact ih2 _ _ _ _ _)
      | (with_reducible exact ih3 _ _ _ _ _ _)
      | (with_reducible exact LeO.refl _)
      | (with_reducible exact LeO.none _)
      | (with_reducible refine LeO.ite ?_ ?_)
      | (with_reducible refine LeO.bind ?_ (fun _ => ?_))
      | exact ih0 _ _ _ _ _
      | exact ih1 _ _ _ _ _
      | exact ih2 _ _ _ _ _
      | exact ih3 _ _ _ _ _ _
      | exact LeO.none _
      | refine LeO.ite ?_ ?_
      | refine LeO.bind ?_ (fun _ => ?_)
theorem ropewalkref02_Depth.mono : ∀ a0 a1 k, LeO (ropewalkref02_Depth.f k a0 a1) (ropewalkref02_Depth.f (k + 1) a0 a1) := by
  intro a0 a1 k
  obtain ⟨ih0, ih1, ih2, ih3⟩ := ropewalkref02_Depth.mono_l k
  unfold ropewalkref02_Depth.f
  repeat' first
      | (with_reducible exact ih0 _ _ _ _ _)
      | (with_reducible exact ih1 _ _ _ _ _)
      | (with_reducible exact ih2 _ _ _ _ _)
      | (with_reducible exact ih3 _ _ _ _ _ _)
      | (with_reducible exact LeO.refl _)
      | (with_reducible exact LeO.none _)
      | (with_reducible refine LeO.ite ?_ ?_)
      | (with_reducible refine LeO.bind ?_ (fun _ => ?_))
      | exact ih0 _ _ _ _ _
      | exact ih1 _ _ _ _ _
      | exact ih2 _ _ _ _ _
      | exact ih3 _ _ _ _ _ _
      | exact LeO.none _
      | refine LeO.ite ?_ ?_
      | refine LeO.bind ?_ (fun _ => ?_)
set_option maxHeartbeats 8000000 in
set_option maxRecDepth 100000 in
theorem ropewalkref02_Depth.calls (k : Nat) (A0 : Option Addr) (c0 : Nat) (l0 : List (S89)) (A1 : Option Addr) (c1 : Nat) (l1 : List Int) (r : Int) (w : World) (hr0 : Kd.C k89 w A0 l0.length l0) (hc0 : l0.length ≤ c0) (hr1 : Kd.C (Kd.int .i64) w A1 l1.length l1) (hc1 : l1.length ≤ c1) (h : ropewalkref02_Depth.f k l0 l1 = some r) :
    Calls Try.prog 40 #[.slice A0 l0.length c0, .slice A1 l1.length c1] w fun e w' => e = .returned (.int .i64 r) ∧ Below w.heap.size w w' := by
  have HR0 := Aside0.mk hr0
  have HC0 := Aside0.mk hc0
  clear hr0 hc0
  have HR1 := Aside0.mk hr1
  have HC1 := Aside0.mk hc1
  clear hr1 hc1
  have HB := Aside0.mk (Below.refl w.heap.size w)
  have H : (ropewalkref02_Depth.l0 k l0 l1 0 ([] : List Int) 0) = some r := h
  clear h
  have H' := Aside0.mk H
  clear H
  go_enter Try.func40, Try.ntmps40
  go_wp2
  go_loopg [5, 6, 7] k (fun kq v5 v6 v7 w' => ∃ (x5_1 : Int) (x6_1 : List Int) (x7_1 : Int), v5 = .int .i64 x5_1 ∧ v7 = .int .i64 x7_1 ∧ Aside0 (ropewalkref02_Depth.l0 kq l0 l1 x5_1 x6_1 x7_1 = some r) ∧ Aside0 (kq ≤ k) ∧ Aside0 (Kd.R (Kd.int .i64) 3 w' w.heap.size (fun _ => True) v6 x6_1) ∧ Aside0 (Below w.heap.size w w'))
  case atStart => exact ⟨(0), (([] : List Int)), (0), (by first | rfl | (simp; done) | (simp [*]; done)), (by first | rfl | (simp; done) | (simp [*]; done)), H', ⟨Nat.le_refl _⟩, ⟨by first | exact Kd.R_nil _ _ _ _ _ | exact Kd.N_nil _ _ _ _ _ | exact Kd.V_nil _ _ _ _ _ | exact Kd.Q_nil _ _ _ _ _ | exact Kd.S_nil _ _ _ _ _⟩, ⟨by repeat (first | (with_reducible first | exact HB.out | apply below_alloc | apply pw_below_drewN | apply below_drew1) | exact HB.out)⟩⟩
  case round =>
    clear H'
    try clear c1
    try clear p2
    obtain ⟨x5_1, x6_1, x7_1, rfl, rfl, HA, HK1, HO_6, HB⟩ := hrel
    cases gk with
    | zero => exact absurd HA.out (by simp [ropewalkref02_Depth.l0])
    | succ k1 =>
      have H := HA.out
      clear HA
      simp only [ropewalkref02_Depth.l0] at H
      by_cases c3 : x7_1 < (l1.length : Int)
      · rw [if_pos c3] at H
        have c3b0 : decide (x7_1 < (l1.length : Int)) = true := decide_eq_true c3
        clear c3
        have HC4 := Aside0.mk H
        clear H
        obtain ⟨Ao5, co5, eo5⟩ := Kd.R_slice HO_6.out
        subst eo5
        go_upto_if 18 with (fail)
        go_cut [5] (fun v5 wc => ∃ (kq : Nat) (x5_3 : Int), v5 = .int .i64 x5_3 ∧ Aside0 (ropewalkref02_Depth.j1 kq l0 l1 x5_3 x6_1 x7_1 = some r) ∧ Aside0 (kq ≤ k1) ∧ Aside0 (Kd.R (Kd.int .i64) 3 wc w.heap.size (fun _ => True) (.slice Ao5 x6_1.length co5) x6_1) ∧ Aside0 (Below w.heap.size w wc))
        case first =>
          have H := HC4.out
          clear HC4
          by_cases c6 : (wrap64 ((x6_1.length : Int) + 1)) > x5_1
          · rw [if_pos c6] at H
            have c6b0 : decide (x5_1 < (wrap64 ((x6_1.length : Int) + 1))) = true := decide_eq_true c6
            clear c6
            (first | rw [c6b0] | (simp only [i64_w, i32_w]; rw [c6b0]) | skip)
            have H' := Aside0.mk H
            clear H
            go_wp2
            go_meet
            case rel => exact ⟨_, (wrap64 ((x6_1.length : Int) + 1)), (by first | rfl | (simp; done) | (simp [*]; done)), H', ⟨by have := HK1.out; first | omega | exact Nat.le_refl _⟩, ⟨by (with_reducible repeat (first | apply Kd.R_alloc | apply Kd.R_drewN | apply Kd.R_drew)); exact HO_6.out⟩, ⟨by repeat (first | (with_reducible first | exact HB.out | apply below_alloc | apply pw_below_drewN | apply below_drew1) | exact HB.out)⟩⟩
          · rw [if_neg c6] at H
            have c6b0 : decide (x5_1 < (wrap64 ((x6_1.length : Int) + 1))) = false := decide_eq_false c6
            clear c6
            (first | rw [c6b0] | (simp only [i64_w, i32_w]; rw [c6b0]) | skip)
            have H' := Aside0.mk H
            clear H
            go_wp2
            go_meet
            case rel => exact ⟨_, (x5_1), (by first | rfl | (simp; done) | (simp [*]; done)), H', ⟨by have := HK1.out; first | omega | exact Nat.le_refl _⟩, ⟨by (with_reducible repeat (first | apply Kd.R_alloc | apply Kd.R_drewN | apply Kd.R_drew)); exact HO_6.out⟩, ⟨by repeat (first | (with_reducible first | exact HB.out | apply below_alloc | apply pw_below_drewN | apply below_drew1) | exact HB.out)⟩⟩
        case rest =>
          clear HC4
          try clear c1
          try clear p2
          try clear c3
          try clear c3b0
          try clear c4
          try clear c6
          try clear c6b0
          try clear p6
          try clear p2
          obtain ⟨kq, x5_3, rfl, HA, HJ3, HO_6, HB⟩ := hcut
          cases kq with
          | zero => exact absurd HA.out (by simp [ropewalkref02_Depth.j1])
          | succ kj3 =>
            have H := HA.out
            clear HA
            simp only [ropewalkref02_Depth.j1] at H
            by_cases c7 : 0 ≤ x7_1
            · rw [if_pos c7] at H
              have c7b0 : decide (0 ≤ x7_1) = true := decide_eq_true c7
              clear c7
              by_cases c8 : x7_1 < (l1.length : Int)
              · rw [if_pos c8] at H
                have c8b0 : decide (x7_1 < (l1.length : Int)) = true := decide_eq_true c8
                clear c8
                replace H := Option.bind_eq_some_iff.mp H
                obtain ⟨t172, A90, H⟩ := H
                replace H : (if x6_1.length < 17592186044416 then (ropewalkref02_Depth.l1 kj3 l0 l1 x5_3 (x6_1 ++ [t172]) x7_1) else (none)) = some r := H
                have A9 := Aside0.mk A90
                clear A90
                by_cases c10 : x6_1.length < 17592186044416
                · rw [if_pos c10] at H
                  have LMc10 := Aside0.mk c10
                  clear c10
                  obtain ⟨y173, hy173⟩ : ∃ y_ : List Int, y_ = (x6_1 ++ [t172]) := ⟨_, rfl⟩
                  replace H : (ropewalkref02_Depth.l1 kj3 l0 l1 x5_3 y173 x7_1) = some r := by first | (rw [hy173]; with_reducible exact H) | (have H2_ := (Option.bind_some _ _).symm.trans H; rw [hy173]; with_reducible exact H2_) | (have H2_ := (Option.bind_some _ _).symm.trans H; with_reducible exact H2_) | with_reducible exact H | (rw [hy173]; exact H) | exact H
                  have Ny173 := Aside0.mk hy173
                  clear hy173
                  have H' := Aside0.mk H
                  clear H
                  have p171 : 0 ≤ (x7_1 : Int) := of_decide_eq_true (by first | (with_reducible assumption) | assumption)
                  have q171 : x7_1 < (l1.length : Int) := of_decide_eq_true (by first | (with_reducible assumption) | assumption)
                  obtain ⟨ad171, e171, hx171_0⟩ := Kd.at_int HR1.out x7_1 p171 q171
                  cases e171
                  replace hx171_0 := (HB.out.cell (World.block_lt_of_cell? w _ hx171_0)).trans hx171_0
                  replace p171 := eq_true p171
                  replace q171 := eq_true q171
                  go_wp2_with (first | ((with_reducible refine gate_callee (f := 75) rfl ?_); refine goesL_ (some 28) rfl rfl Try.func75 (by kernel_rfl) rfl #[.slice A0 l0.length c0, .int .i64 (rd l1 x7_1)] rfl (by (try simp only [List.map_toArray, List.map_cons, List.map_nil]); first | done | rfl | (simp only [List.length_drop, List.length_take]; rfl)) ?_; (with_reducible refine (ropewalkref02_arity.calls _ _ l0 (rd l1 x7_1) t172 _ ?side1 ?side2 A9.out).mono ?_); (case side1 => repeat (first | exact (Kd.C_below HR0.out HB.out) | (with_reducible refine Kd.C_alloc ?_ _) | (with_reducible refine Kd.C_drewN ?_ _) | (with_reducible refine Kd.C_drew ?_))); (case side2 => exact HC0.out); rintro e w' ⟨rfl, ⟨nd, rfl⟩⟩; refine ⟨_, rfl, ?_⟩) | ((with_reducible refine gate_builtin (b := .append) (xs := #[.tmp 22, .tmp 29]) rfl ?_); (try (refine gate_guard (by rfl) ?_; dsimp only)); at_builtin; refine Kd.R_append (Kd.int .i64) (w0 := w) w.heap.size rfl (.tmp 22) (.tmp 29) 24 3 (.int .i64 0) 8 rfl Try.underlying24 info3 rfl (by decide) (by omega) (.slice Ao5 x6_1.length co5) x6_1 t172 [.int .i64 t172] (fun _ => True) (fun _ => False) rfl rfl ?aP (fun _ hk => hk.elim) ?aF ?aO ?aB ?aS ?aL ?_; (case aP => exact rfl); (case aB => exact (by repeat (first | (with_reducible first | exact HB.out | apply below_alloc | apply pw_below_drewN | apply below_drew1) | exact HB.out))); (case aF => exact (fun _ _ => trivial)); (case aO => exact (by (with_reducible repeat (first | apply Kd.R_alloc | apply Kd.R_drewN | apply Kd.R_drew)); exact HO_6.out)); (case aS => exact (below_size (by repeat (first | (with_reducible first | exact HB.out | apply below_alloc | apply pw_below_drewN | apply below_drew1) | exact HB.out)))); (case aL => have := LMc10.out; omega); intro v174 w11 ho hb hg hat; rw [← Ny173.out] at ho; have n0_ := Aside0.mk (hb); have n1_ := Aside0.mk (ho); clear HB; clear HO_6; have HB := n0_; have HO175 := n1_; clear n0_ n1_; clear ho hb hg hat))
                  go_loopg [6] kj3 (fun kq v6 w' => ∃ (x6_3 : List Int), Aside0 (ropewalkref02_Depth.l1 kq l0 l1 x5_3 x6_3 x7_1 = some r) ∧ Aside0 (kq ≤ kj3) ∧ Aside0 (Kd.R (Kd.int .i64) 3 w' w.heap.size (fun _ => True) v6 x6_3) ∧ Aside0 (Below w.heap.size w w'))
                  case atStart => exact ⟨(y173), H', ⟨Nat.le_refl _⟩, ⟨by (with_reducible repeat (first | apply Kd.R_alloc | apply Kd.R_drewN | apply Kd.R_drew)); exact HO175.out⟩, ⟨by repeat (first | (with_reducible first | exact HB.out | apply below_alloc | apply pw_below_drewN | apply below_drew1) | exact HB.out)⟩⟩
                  case round =>
                    clear H'
                    try clear c1
                    try clear p1
                    try clear q1
                    try clear hx1
                    try clear p2
                    try clear c3
                    try clear c3b0
                    try clear c4
                    try clear c6
                    try clear c6b0
                    try clear p6
                    try clear c7
                    try clear c7b0
                    try clear c8
                    try clear c8b0
                    try clear c10
                    try clear hx171_0
                    try clear p171
                    try clear p2
                    try clear p6
                    try clear q171
                    obtain ⟨x6_3, HA, HK3, HO_6, HB⟩ := hrel
                    cases gk with
                    | zero => exact absurd HA.out (by simp [ropewalkref02_Depth.l1])
                    | succ k3 =>
                      have H := HA.out
                      clear HA
                      simp only [ropewalkref02_Depth.l1] at H
                      have HC12 := Aside0.mk H
                      clear H
                      go_upto_region 9 with (fail)
                      go_cut [42] (fun v42 wc => ∃ (kq : Nat) (x42_11 : Bool), v42 = .bool x42_11 ∧ Aside0 (ropewalkref02_Depth.j3 kq l0 l1 x5_3 x6_3 x7_1 x42_11 = some r) ∧ Aside0 (kq ≤ k3) ∧ Aside0 (Kd.R (Kd.int .i64) 3 wc w.heap.size (fun _ => True) u6 x6_3) ∧ Aside0 (Below w.heap.size w wc))
                      case first =>
                        have H := HC12.out
                        clear HC12
                        by_cases c13 : (x6_3.length : Int) > 0
                        · rw [if_pos c13] at H
                          have c13b0 : decide (0 < (x6_3.length : Int)) = true := decide_eq_true c13
                          have c13b1 : decide (0 < x6_3.length) = true := decide_eq_true (by omega)
                          clear c13
                          (first | rw [c13b0] | (simp only [i64_w, i32_w]; rw [c13b0]) | skip)
                          obtain ⟨ji14, hji14⟩ : ∃ j_ : Int, (wrap64 ((x6_3.length : Int) - 1)) = j_ := ⟨_, rfl⟩
                          replace H : (if 0 ≤ (ji14) then (if (ji14) < (x6_3.length : Int) then (ropewalkref02_Depth.j3 k3 l0 l1 x5_3 x6_3 x7_1 ((rd x6_3 (ji14)) == 0)) else (none)) else (none)) = some r := by first | (rw [hji14] at H; exact H) | (simp only [hji14] at H ⊢; exact H)
                          have hji14w : (IntKind.i64.wrap ((x6_3.length : Int) - 1)) = ji14 := (i64_w _).trans hji14
                          by_cases c15 : 0 ≤ (ji14)
                          · rw [if_pos c15] at H
                            have c15b0 : decide (0 ≤ (ji14)) = true := decide_eq_true c15
                            clear c15
                            by_cases c16 : (ji14) < (x6_3.length : Int)
                            · rw [if_pos c16] at H
                              have c16b0 : decide ((ji14) < (x6_3.length : Int)) = true := decide_eq_true c16
                              clear c16
                              have H' := Aside0.mk H
                              clear H
                              obtain ⟨Ao17, co17, eo17⟩ := Kd.R_slice HO_6.out
                              subst eo17
                              have p176 : 0 ≤ ((ji14) : Int) := of_decide_eq_true (by first | (with_reducible assumption) | assumption)
                              have q176 : (ji14) < (x6_3.length : Int) := of_decide_eq_true (by first | (with_reducible assumption) | assumption)
                              obtain ⟨ad176, e176, hx176_0⟩ := Kd.at_int (Kd.R_reads' HO_6.out).2.2 (ji14) p176 q176
                              cases e176
                              replace p176 := eq_true p176
                              replace q176 := eq_true q176
                              go_wp2
                              go_meet
                              case rel => exact ⟨_, (((rd x6_3 (ji14)) == 0)), (by first | rfl | (simp; done) | (simp only [← hji14] <;> (first | rfl | simp)) | (simp [*]; done)), H', ⟨by have := HK1.out; have := HJ3.out; have := HK3.out; first | omega | exact Nat.le_refl _⟩, ⟨by (with_reducible repeat (first | apply Kd.R_alloc | apply Kd.R_drewN | apply Kd.R_drew)); exact HO_6.out⟩, ⟨by repeat (first | (with_reducible first | exact HB.out | apply below_alloc | apply pw_below_drewN | apply below_drew1) | exact HB.out)⟩⟩
                            · rw [if_neg c16] at H
                              exact absurd H (by simp)
                          · rw [if_neg c15] at H
                            exact absurd H (by simp)
                        · rw [if_neg c13] at H
                          have c13b0 : decide (0 < (x6_3.length : Int)) = false := decide_eq_false c13
                          have c13b1 : decide (0 < x6_3.length) = false := decide_eq_false (by omega)
                          clear c13
                          (first | rw [c13b0] | (simp only [i64_w, i32_w]; rw [c13b0]) | skip)
                          have H' := Aside0.mk H
                          clear H
                          obtain ⟨Ao18, co18, eo18⟩ := Kd.R_slice HO_6.out
                          subst eo18
                          go_wp2
                          go_meet
                          case rel => exact ⟨_, (false), (by first | rfl | (simp; done) | (simp [*]; done)), H', ⟨by have := HK1.out; have := HJ3.out; have := HK3.out; first | omega | exact Nat.le_refl _⟩, ⟨by (with_reducible repeat (first | apply Kd.R_alloc | apply Kd.R_drewN | apply Kd.R_drew)); exact HO_6.out⟩, ⟨by repeat (first | (with_reducible first | exact HB.out | apply below_alloc | apply pw_below_drewN | apply below_drew1) | exact HB.out)⟩⟩
                      case rest =>
                        clear HC12
                        try clear c1
                        try clear p1
                        try clear q1
                        try clear hx1
                        try clear p2
                        try clear c3
                        try clear c3b0
                        try clear c4
                        try clear c6
                        try clear c6b0
                        try clear p6
                        try clear c7
                        try clear c7b0
                        try clear c8
                        try clear c8b0
                        try clear c10
                        try clear c13
                        try clear c13b0
                        try clear c13b1
                        try clear c15
                        try clear c15b0
                        try clear c16
                        try clear c16b0
                        try clear p17
                        try clear q17
                        try clear hx17
                        try clear hx171_0
                        try clear hx176_0
                        try clear p1
                        try clear p171
                        try clear p176
                        try clear p2
                        try clear p6
                        try clear q1
                        try clear q171
                        try clear q176
                        obtain ⟨kq, x42_11, rfl, HA, HJ11, HO_6, HB⟩ := hcut
                        cases kq with
                        | zero => exact absurd HA.out (by simp [ropewalkref02_Depth.j3])
                        | succ kj11 =>
                          have H := HA.out
                          clear HA
                          simp only [ropewalkref02_Depth.j3] at H
                          by_cases c19 : x42_11 = true
                          · subst c19
                            have H1 : (if 0 ≤ (wrap64 ((x6_3.length : Int) - 1)) then (if (wrap64 ((x6_3.length : Int) - 1)) ≤ (x6_3.length : Int) then ((some (x6_3.take ((wrap64 ((x6_3.length : Int) - 1)) : Int).toNat : List Int)).bind fun y177 => (if (y177.length : Int) > 0 then (if 0 ≤ (wrap64 ((y177.length : Int) - 1)) then (if (wrap64 ((y177.length : Int) - 1)) < (y177.length : Int) then (ropewalkref02_Depth.l1 kj11 l0 l1 x5_3 (y177.set ((wrap64 ((y177.length : Int) - 1)) : Int).toNat (wrap64 ((rd y177 (wrap64 ((y177.length : Int) - 1))) - 1))) x7_1) else (none)) else (none)) else (ropewalkref02_Depth.l1 kj11 l0 l1 x5_3 y177 x7_1))) else (none)) else (none)) = some r := by rw [if_pos rfl] at H; exact H
                            clear H
                            have H := H1
                            clear H1
                            obtain ⟨ji20, hji20⟩ : ∃ j_ : Int, (wrap64 ((x6_3.length : Int) - 1)) = j_ := ⟨_, rfl⟩
                            replace H : (if 0 ≤ (ji20) then (if (ji20) ≤ (x6_3.length : Int) then ((some (x6_3.take ((ji20) : Int).toNat : List Int)).bind fun y177 => (if (y177.length : Int) > 0 then (if 0 ≤ (wrap64 ((y177.length : Int) - 1)) then (if (wrap64 ((y177.length : Int) - 1)) < (y177.length : Int) then (ropewalkref02_Depth.l1 kj11 l0 l1 x5_3 (y177.set ((wrap64 ((y177.length : Int) - 1)) : Int).toNat (wrap64 ((rd y177 (wrap64 ((y177.length : Int) - 1))) - 1))) x7_1) else (none)) else (none)) else (ropewalkref02_Depth.l1 kj11 l0 l1 x5_3 y177 x7_1))) else (none)) else (none)) = some r := by first | (rw [hji20] at H; exact H) | (simp only [hji20] at H ⊢; exact H)
                            have hji20w : (IntKind.i64.wrap ((x6_3.length : Int) - 1)) = ji20 := (i64_w _).trans hji20
                            by_cases c21 : 0 ≤ (ji20)
                            · rw [if_pos c21] at H
                              have c21b0 := eq_true c21
                              have c21b1 : decide (0 ≤ (ji20)) = true := decide_eq_true c21
                              clear c21
                              by_cases c22 : (ji20) ≤ (x6_3.length : Int)
                              · rw [if_pos c22] at H
                                have c22b0 := eq_true c22
                                have c22b1 : decide ((ji20) ≤ (x6_3.length : Int)) = true := decide_eq_true c22
                                clear c22
                                obtain ⟨y177, hy177⟩ : ∃ y_ : List Int, y_ = (x6_3.take ((ji20) : Int).toNat) := ⟨_, rfl⟩
                                replace H : (if (y177.length : Int) > 0 then (if 0 ≤ (wrap64 ((y177.length : Int) - 1)) then (if (wrap64 ((y177.length : Int) - 1)) < (y177.length : Int) then (ropewalkref02_Depth.l1 kj11 l0 l1 x5_3 (y177.set ((wrap64 ((y177.length : Int) - 1)) : Int).toNat (wrap64 ((rd y177 (wrap64 ((y177.length : Int) - 1))) - 1))) x7_1) else (none)) else (none)) else (ropewalkref02_Depth.l1 kj11 l0 l1 x5_3 y177 x7_1)) = some r := by first | (rw [hy177]; with_reducible exact H) | (have H2_ := (Option.bind_some _ _).symm.trans H; rw [hy177]; with_reducible exact H2_) | (have H2_ := (Option.bind_some _ _).symm.trans H; with_reducible exact H2_) | with_reducible exact H | (rw [hy177]; exact H) | exact H
                                have Ny177 := Aside0.mk hy177
                                clear hy177
                                by_cases c23 : (y177.length : Int) > 0
                                · rw [if_pos c23] at H
                                  have c23b0 : decide (0 < (y177.length : Int)) = true := decide_eq_true c23
                                  have c23b1 : decide (0 < y177.length) = true := decide_eq_true (by omega)
                                  clear c23
                                  obtain ⟨ji24, hji24⟩ : ∃ j_ : Int, (wrap64 ((y177.length : Int) - 1)) = j_ := ⟨_, rfl⟩
                                  replace H : (if 0 ≤ (ji24) then (if (ji24) < (y177.length : Int) then (ropewalkref02_Depth.l1 kj11 l0 l1 x5_3 (y177.set ((ji24) : Int).toNat (wrap64 ((rd y177 (ji24)) - 1))) x7_1) else (none)) else (none)) = some r := by first | (rw [hji24] at H; exact H) | (simp only [hji24] at H ⊢; exact H)
                                  have hji24w : (IntKind.i64.wrap ((y177.length : Int) - 1)) = ji24 := (i64_w _).trans hji24
                                  by_cases c25 : 0 ≤ (ji24)
                                  · rw [if_pos c25] at H
                                    have c25b0 : decide (0 ≤ (ji24)) = true := decide_eq_true c25
                                    clear c25
                                    by_cases c26 : (ji24) < (y177.length : Int)
                                    · rw [if_pos c26] at H
                                      have c26b0 : decide ((ji24) < (y177.length : Int)) = true := decide_eq_true c26
                                      clear c26
                                      obtain ⟨y181, hy181⟩ : ∃ y_ : List Int, y_ = (y177.set ((ji24) : Int).toNat (wrap64 ((rd y177 (ji24)) - 1))) := ⟨_, rfl⟩
                                      replace H : (ropewalkref02_Depth.l1 kj11 l0 l1 x5_3 y181 x7_1) = some r := by first | (rw [hy181]; with_reducible exact H) | (have H2_ := (Option.bind_some _ _).symm.trans H; rw [hy181]; with_reducible exact H2_) | (have H2_ := (Option.bind_some _ _).symm.trans H; with_reducible exact H2_) | with_reducible exact H | (rw [hy181]; exact H) | exact H
                                      have Ny181 := Aside0.mk hy181
                                      clear hy181
                                      have H' := Aside0.mk H
                                      clear H
                                      obtain ⟨Ao28, co28, eo28⟩ := Kd.R_slice HO_6.out
                                      subst eo28
                                      have q29 : ((ji20) : Int) ≤ ((x6_3.length : Int) : Int) := of_decide_eq_true (by first | (with_reducible assumption) | assumption)
                                      obtain ⟨i029, hi029, _, hsz29, _⟩ := info_parts info3
                                      have hcut29 := cut_to (P := Try.prog) 24 3 .i64 Try.underlying24 hi029 Ao28 x6_3.length co28 (ji20) (of_decide_eq_true (by first | (with_reducible assumption) | assumption)) q29 (Kd.R_reads' HO_6.out).2.1
                                      have hr29 := Kd.R_take (m := ((ji20) : Int).toNat) HO_6.out (by omega)
                                      have hy29 : y177.length = ((ji20) : Int).toNat := (by rw [Ny177.out, List.length_take]; omega)
                                      rw [← Ny177.out] at hr29
                                      rw [← hy29] at hr29 hcut29
                                      clear hy29 hi029 hsz29 HO_6
                                      have HO179 := Aside0.mk hr29
                                      clear hr29
                                      replace q29 := eq_true q29
                                      have p180 : 0 ≤ ((ji24) : Int) := of_decide_eq_true (by first | (with_reducible assumption) | assumption)
                                      have q180 : (ji24) < (y177.length : Int) := of_decide_eq_true (by first | (with_reducible assumption) | assumption)
                                      obtain ⟨ad180, e180, hx180_0⟩ := Kd.at_int (Kd.R_reads' HO179.out).2.2 (ji24) p180 q180
                                      cases e180
                                      replace p180 := eq_true p180
                                      replace q180 := eq_true q180
                                      have p27 : 0 ≤ ((ji24) : Int) := of_decide_eq_true (by first | (with_reducible assumption) | assumption)
                                      have q27 : ((ji24) : Int) < ((y177.length : Int) : Int) := of_decide_eq_true (by first | (with_reducible assumption) | assumption)
                                      obtain ⟨go27, co27, eo27, gb27, gl27, cl27, HG27⟩ := Kd.R_form HO179.out (by omega)
                                      (first | cases eo27 | (injection eo27 with ea_ en_ ec_; (first | subst ea_ | (injection ea_ with ea_; subst ea_)); subst ec_; clear en_))
                                      have GB27 := Aside0.mk gb27
                                      have GG27 := Aside0.mk HG27
                                      clear gb27 gl27 HG27
                                      (first | simp only [add_plain] at hx180_0 | skip)
                                      obtain ⟨hx27_0, hf27_0⟩ := Kd.R_celln 0 HO179.out ((ji24) : Int) p27 q27
                                      replace p27 := eq_true p27
                                      replace q27 := eq_true q27
                                      have HP30 := Kd.R_putg HO179.out ((ji24) : Int) (wrap64 ((rd y177 (ji24)) - 1))
                                      go_wp2_with (first | ((with_reducible refine gate_store (t := 3) (p := 58) rfl ?_); refine store_event (t := 3) (p := 58) (v := ?vo_w31) (w1 := (wc.setCell ⟨go27, ((ji24) : Int).toNat, none⟩ (.int .i64 (wrap64 ((rd y177 (ji24)) - 1))))) ?hg ?ho ?hn ?hr ?_; (case ho => rfl); (case hg => rfl); (case hn => rfl); (case hr => first | (go_simp; done) | (go_simp; rfl)); intro w31 hw; have hg : wc.grownBy w31 (some go27) := (by rw [hw]; exact HP30.2); have hp_ : Kd.R (Kd.int .i64) 3 w31 w.heap.size (fun _ => True) (.slice (some ⟨go27, 0, none⟩) y177.length co28) y181 := (by rw [hw, Ny181.out]; exact HP30.1); clear HP30; have n0_ := Aside0.mk (hp_); have n1_ := Aside0.mk ((by rw [hw]; exact below_set (HB.out) GB27.out : Below w.heap.size w w31)); clear HO179; clear HB; have HO179 := n0_; have HB := n1_; clear n0_ n1_; clear hg hw hp_))
                                      go_roundg kj11
                                      case measure => have := HK1.out; have := HJ3.out; have := HK3.out; have := HJ11.out; omega
                                      case rel => exact ⟨(y181), H', ⟨by have := HK1.out; have := HJ3.out; have := HK3.out; have := HJ11.out; omega⟩, ⟨by (with_reducible repeat (first | apply Kd.R_alloc | apply Kd.R_drewN | apply Kd.R_drew)); exact HO179.out⟩, ⟨by repeat (first | (with_reducible first | exact HB.out | apply below_alloc | apply pw_below_drewN | apply below_drew1) | exact HB.out)⟩⟩
                                    · rw [if_neg c26] at H
                                      exact absurd H (by simp)
                                  · rw [if_neg c25] at H
                                    exact absurd H (by simp)
                                · rw [if_neg c23] at H
                                  have c23b0 : decide (0 < (y177.length : Int)) = false := decide_eq_false c23
                                  have c23b1 : decide (0 < y177.length) = false := decide_eq_false (by omega)
                                  clear c23
                                  have H' := Aside0.mk H
                                  clear H
                                  obtain ⟨Ao32, co32, eo32⟩ := Kd.R_slice HO_6.out
                                  subst eo32
                                  have q33 : ((ji20) : Int) ≤ ((x6_3.length : Int) : Int) := of_decide_eq_true (by first | (with_reducible assumption) | assumption)
                                  obtain ⟨i033, hi033, _, hsz33, _⟩ := info_parts info3
                                  have hcut33 := cut_to (P := Try.prog) 24 3 .i64 Try.underlying24 hi033 Ao32 x6_3.length co32 (ji20) (of_decide_eq_true (by first | (with_reducible assumption) | assumption)) q33 (Kd.R_reads' HO_6.out).2.1
                                  have hr33 := Kd.R_take (m := ((ji20) : Int).toNat) HO_6.out (by omega)
                                  have hy33 : y177.length = ((ji20) : Int).toNat := (by rw [Ny177.out, List.length_take]; omega)
                                  rw [← Ny177.out] at hr33
                                  rw [← hy33] at hr33 hcut33
                                  clear hy33 hi033 hsz33 HO_6
                                  have HO179 := Aside0.mk hr33
                                  clear hr33
                                  replace q33 := eq_true q33
                                  go_wp2
                                  go_roundg kj11
                                  case measure => have := HK1.out; have := HJ3.out; have := HK3.out; have := HJ11.out; omega
                                  case rel => exact ⟨(y177), H', ⟨by have := HK1.out; have := HJ3.out; have := HK3.out; have := HJ11.out; omega⟩, ⟨by (with_reducible repeat (first | apply Kd.R_alloc | apply Kd.R_drewN | apply Kd.R_drew)); exact HO179.out⟩, ⟨by repeat (first | (with_reducible first | exact HB.out | apply below_alloc | apply pw_below_drewN | apply below_drew1) | exact HB.out)⟩⟩
                              · rw [if_neg c22] at H
                                exact absurd H (by simp)
                            · rw [if_neg c21] at H
                              exact absurd H (by simp)
                          · replace c19 := Bool.eq_false_iff.mpr c19
                            subst c19
                            have H1 : (ropewalkref02_Depth.l0 kj11 l0 l1 x5_3 x6_3 (wrap64 (x7_1 + 1))) = some r := by rw [if_neg (show ¬ (false = true) by decide)] at H; exact H
                            clear H
                            have H := H1
                            clear H1
                            have H' := Aside0.mk H
                            clear H
                            go_wp2
                            go_roundg kj11
                            case measure => have := HK1.out; have := HJ3.out; have := HK3.out; have := HJ11.out; omega
                            case rel => exact ⟨(x5_3), (x6_3), (wrap64 (x7_1 + 1)), (by first | rfl | (simp; done) | (simp [*]; done)), (by first | rfl | (simp; done) | (simp [*]; done)), H', ⟨by have := HK1.out; have := HJ3.out; have := HK3.out; have := HJ11.out; omega⟩, ⟨by (with_reducible repeat (first | apply Kd.R_alloc | apply Kd.R_drewN | apply Kd.R_drew)); exact HO_6.out⟩, ⟨by repeat (first | (with_reducible first | exact HB.out | apply below_alloc | apply pw_below_drewN | apply below_drew1) | exact HB.out)⟩⟩
                · rw [if_neg c10] at H
                  exact absurd H (by simp)
              · rw [if_neg c8] at H
                exact absurd H (by simp)
            · rw [if_neg c7] at H
              exact absurd H (by simp)
      · rw [if_neg c3] at H
        have c3b0 : decide (x7_1 < (l1.length : Int)) = false := decide_eq_false c3
        clear c3
        obtain rfl := Option.some.inj H
        go_wp2
        go_ret
        exact ⟨by first | rfl | (simp [errW_none, errW_some] <;> rfl) | (simp [*, errW_none, errW_some] <;> rfl), by repeat (first | (with_reducible first | exact HB.out | apply below_alloc | apply pw_below_drewN | apply below_drew1) | exact HB.out)⟩

end Go.Proofs.Ytadjoaipmcbieaa.A
