/- The texts G0, GA, SS, S5, R0, GB, GC, Q0, GD, Q2, GI, GJ, XA, P1, Q3, S7, GE, GF, Q5, GQ, N1, joined by wip/slim.py: what the claim's theorem needs of them. (Those named W.. and G.. were printed by the kit's print.py for this seat.) -/
import Derived.Test.YtadjoaipmcbieaaOC1
import Derived.Test.YtadjoaipmcbieaaProg
import Derived.WalkSpells
import Derived.WalkLawsBesides

/-! G0 -/
namespace Go.Proofs.Ytadjoaipmcbieaa.A
open Go.RowKit Go.Proofs.YtadjoaipmcbieaaW.PrintWords Go.Proofs.YtadjoaipmcbieaaW.PrintLast Go.Proofs.YtadjoaipmcbieaaW.PrintMore
attribute [local go_sem] max2_int min2_int max_two min_two max_three min_three max_four min_four   -- for this text's walks alone
set_option linter.unusedVariables false
set_option linter.unusedSimpArgs false
def errW : Option Int → Value
  | none => .nilIface
  | some c => .iface 0 (.int .i64 c)
theorem errW_none : errW none = .nilIface := rfl
theorem errW_some (c : Int) : errW (some c) = .iface 0 (.int .i64 c) := rfl
theorem info3 : (Try.prog.info? 3).map (fun i => (i.zero, i.size, i.bytes)) = some (some (.int .i64 0), 1, 8) := by kernel_rfl
theorem info25 : (Try.prog.info? 25).map (fun i => (i.zero, i.size, i.bytes)) = some (some (.slice none 0 0), 1, 24) := by kernel_rfl
structure S89 where
  f0 : ByteArray
  f1 : Int
  f2 : Bool
def z89 : S89 := ⟨(⟨#[]⟩ : ByteArray), (0 : Int), false⟩
def k89 : Kd S89 := Kd.iso (Kd.pair Kd.string (Kd.pair (Kd.int .i64) Kd.bool)) (fun x : S89 => (x.f0, x.f1, x.f2))
theorem k89_open {w : World} {x : S89} {cs : List Value} (h : k89.K w x cs) : cs = [.string x.f0, .int .i64 x.f1, .bool x.f2] := by
  obtain ⟨_, _, rfl, rfl, ⟨_, _, rfl, rfl, rfl⟩⟩ := h
  exact rfl
theorem k89_mk (w : World) (x : S89)  : k89.K w x [.string x.f0, .int .i64 x.f1, .bool x.f2] := ⟨[.string x.f0], [.int .i64 x.f1, .bool x.f2], rfl, rfl, ⟨[.int .i64 x.f1], [.bool x.f2], rfl, rfl, rfl⟩⟩
theorem k89_mkM (w : World) (base : Nat) (ok : Nat → Prop) (x : S89)  : k89.M w base ok x [.string x.f0, .int .i64 x.f1, .bool x.f2] := ⟨[.string x.f0], [.int .i64 x.f1, .bool x.f2], rfl, rfl, ⟨[.int .i64 x.f1], [.bool x.f2], rfl, rfl, rfl⟩⟩
def rd_T89 (xs : List S89) (i : Int) : S89 := xs.getD i.toNat z89
theorem at_T89 {w : World} {A : Option Addr} {n : Nat} {xs : List S89} (h : Kd.C k89 w A n xs) (i : Int) (h0 : 0 ≤ i) (h1 : i < n) : ∃ ad , A = some ad ∧ w.cell? (ad.add (i.toNat * 3)) = some (.string (rd_T89 xs i).f0) ∧ w.cell? ⟨(ad.add (i.toNat * 3)).block, (ad.add (i.toNat * 3)).off + 1, none⟩ = some (.int .i64 (rd_T89 xs i).f1) ∧ w.cell? ⟨(ad.add (i.toNat * 3)).block, (ad.add (i.toNat * 3)).off + 2, none⟩ = some (.bool (rd_T89 xs i).f2) := by
  obtain ⟨ad, c, e, _, hK, hc0⟩ := Kd.C_get h z89 i h0 h1
  have hc : ∀ j u, c[j]? = some u → w.cell? (ad.add (i.toNat * 3 + j)) = some u := hc0
  obtain rfl := k89_open hK
  exact ⟨ad, e, hc 0 _ rfl, by rw [← add_field _ _ 1 (by omega)]; exact hc 1 _ rfl, by rw [← add_field _ _ 2 (by omega)]; exact hc 2 _ rfl⟩
def rd_L4 (xs : List (List Int)) (i : Int) : (List Int) := xs.getD i.toNat ([] : List Int)
theorem at_L4 {w : World} {A : Option Addr} {n : Nat} {xs : List (List Int)} (h : Kd.C (Kd.slice 3 (Kd.int .i64)) w A n xs) (i : Int) (h0 : 0 ≤ i) (h1 : i < n) : ∃ ad A0 c0, A = some ad ∧ w.cell? (ad.add i.toNat) = some (.slice A0 (rd_L4 xs i).length c0) ∧ (rd_L4 xs i).length ≤ c0 ∧ (Kd.int .i64).C w A0 (rd_L4 xs i).length (rd_L4 xs i) := by
  obtain ⟨ad, c, e, _, hK, hc0⟩ := Kd.C_get h ([] : List Int) i h0 h1
  have hc : ∀ j u, c[j]? = some u → w.cell? (ad.add (i.toNat * 1 + j)) = some u := hc0
  obtain ⟨A0, c0, rfl, l0, g0⟩ := hK
  exact ⟨ad, A0, c0, e, by have hq := hc 0 _ rfl; rwa [Nat.mul_one, Nat.add_zero] at hq, l0, g0⟩
end Go.Proofs.Ytadjoaipmcbieaa.A

/-! GA -/
namespace Go.Proofs.Ytadjoaipmcbieaa.A
open Go.RowKit Go.Proofs.YtadjoaipmcbieaaW.PrintWords Go.Proofs.YtadjoaipmcbieaaW.PrintLast Go.Proofs.YtadjoaipmcbieaaW.PrintMore
attribute [local go_sem] max2_int min2_int max_two min_two max_three min_three max_four min_four   -- for this text's walks alone
set_option linter.unusedVariables false
set_option linter.unusedSimpArgs false
def sig_small.f (a0 : Int) : Option (Bool) := if a0 ≥ 97 then (some (decide (a0 ≤ 122))) else (some false)
set_option maxHeartbeats 8000000 in
set_option maxRecDepth 100000 in
theorem sig_small.calls (a0 : Int) (r : Bool) (w : World) (h : sig_small.f a0 = some r) :
    Calls Try.prog 118 #[.int .u8 a0] w fun e w' => e = .returned (.bool r) ∧ Drawn0 w w' := by
  have H : (if a0 ≥ 97 then (some (decide (a0 ≤ 122))) else (some false)) = some r := h
  clear h
  by_cases c2 : a0 ≥ 97
  · rw [if_pos c2] at H
    have c2b0 : decide (97 ≤ a0) = true := decide_eq_true c2
    clear c2
    obtain rfl := Option.some.inj H
    go_enter Try.func118, Try.ntmps118
    go_wp2
    go_ret
    exact ⟨by first | rfl | (simp; done) | (simp [*]; done), by repeat (first | exact Drawn0.refl _ | apply Drawn0.step)⟩
  · rw [if_neg c2] at H
    have c2b0 : decide (97 ≤ a0) = false := decide_eq_false c2
    clear c2
    obtain rfl := Option.some.inj H
    go_enter Try.func118, Try.ntmps118
    go_wp2
    go_ret
    exact ⟨by first | rfl | (simp; done) | (simp [*]; done), by repeat (first | exact Drawn0.refl _ | apply Drawn0.step)⟩
def sig_digit.f (a0 : Int) : Option (Bool) := if a0 ≥ 48 then (some (decide (a0 ≤ 57))) else (some false)
set_option maxHeartbeats 8000000 in
set_option maxRecDepth 100000 in
theorem sig_digit.calls (a0 : Int) (r : Bool) (w : World) (h : sig_digit.f a0 = some r) :
    Calls Try.prog 119 #[.int .u8 a0] w fun e w' => e = .returned (.bool r) ∧ Drawn0 w w' := by
  have H : (if a0 ≥ 48 then (some (decide (a0 ≤ 57))) else (some false)) = some r := h
  clear h
  by_cases c2 : a0 ≥ 48
  · rw [if_pos c2] at H
    have c2b0 : decide (48 ≤ a0) = true := decide_eq_true c2
    clear c2
    obtain rfl := Option.some.inj H
    go_enter Try.func119, Try.ntmps119
    go_wp2
    go_ret
    exact ⟨by first | rfl | (simp; done) | (simp [*]; done), by repeat (first | exact Drawn0.refl _ | apply Drawn0.step)⟩
  · rw [if_neg c2] at H
    have c2b0 : decide (48 ≤ a0) = false := decide_eq_false c2
    clear c2
    obtain rfl := Option.some.inj H
    go_enter Try.func119, Try.ntmps119
    go_wp2
    go_ret
    exact ⟨by first | rfl | (simp; done) | (simp [*]; done), by repeat (first | exact Drawn0.refl _ | apply Drawn0.step)⟩
mutual
def sig_IsName.j0 : Nat → ByteArray → Bool → Option (Bool)
  | 0, _, _ => none
  | k + 1, x0, x17 => if x17 = true then (some false) else (sig_IsName.l0 k x0 (x0.size : Int) 0)
def sig_IsName.l0 : Nat → ByteArray → Int → Int → Option (Bool)
  | 0, _, _, _ => none
  | k + 1, x0, x19, x20 => if x20 < x19 then (if 0 ≤ x20 then (if x20 < (x0.size : Int) then ((sig_small.f (bt x0 x20)).bind fun t102 => (if t102 = true then (sig_IsName.l0 k x0 x19 (wrap64 (x20 + 1))) else ((sig_digit.f (bt x0 x20)).bind fun t103 => (if t103 = true then (sig_IsName.l0 k x0 x19 (wrap64 (x20 + 1))) else (some false))))) else (none)) else (none)) else (some true)
end
def sig_IsName.f (k : Nat) (a0 : ByteArray) : Option (Bool) := if (a0.size : Int) = 0 then (sig_IsName.j0 k a0 true) else (if (a0.size : Int) > 12 then (sig_IsName.j0 k a0 true) else (if 0 < (a0.size : Int) then ((sig_small.f (bt a0 0)).bind fun t101 => (sig_IsName.j0 k a0 (!t101))) else (none)))
set_option maxHeartbeats 8000000 in
set_option maxRecDepth 100000 in
theorem sig_IsName.calls (k : Nat) (a0 : ByteArray) (r : Bool) (w : World) (h : sig_IsName.f k a0 = some r) :
    Calls Try.prog 100 #[.string a0] w fun e w' => e = .returned (.bool r) ∧ Drawn0 w w' := by
  have H : (if (a0.size : Int) = 0 then (sig_IsName.j0 k a0 true) else (if (a0.size : Int) > 12 then (sig_IsName.j0 k a0 true) else (if 0 < (a0.size : Int) then ((sig_small.f (bt a0 0)).bind fun t101 => (sig_IsName.j0 k a0 (!t101))) else (none)))) = some r := h
  clear h
  have HC2 := Aside0.mk H
  clear H
  go_enter Try.func100, Try.ntmps100
  go_upto_region 1 with (fail)
  go_cut [17] (fun v17 wc => ∃ (kq : Nat) (x17_1 : Bool), v17 = .bool x17_1 ∧ Aside0 (sig_IsName.j0 kq a0 x17_1 = some r) ∧ Aside0 (kq ≤ k) ∧ Drawn0 w wc)
  case first =>
    have H := HC2.out
    clear HC2
    by_cases c3 : (a0.size : Int) = 0
    · rw [if_pos c3] at H
      have c3b0 : ((a0.size : Int) == 0) = true := beq_iff_eq.mpr c3
      have c3b1 : ((a0.size : Int) != 0) = false := bne_eq_false_iff_eq.mpr c3
      clear c3
      (first | rw [c3b0] | (simp only [i64_w, i32_w]; rw [c3b0]) | skip)
      have H' := Aside0.mk H
      clear H
      go_wp2
      go_meet
      case rel => exact ⟨_, (true), (by first | rfl | (simp; done) | (simp [*]; done)), H', ⟨by first | omega | exact Nat.le_refl _⟩, by repeat (first | exact Drawn0.refl _ | apply Drawn0.step)⟩
    · rw [if_neg c3] at H
      have c3b0 : ((a0.size : Int) == 0) = false := beq_eq_false_iff_ne.mpr c3
      have c3b1 : ((a0.size : Int) != 0) = true := bne_iff_ne.mpr c3
      (first | rw [c3b0] | (simp only [i64_w, i32_w]; rw [c3b0]) | skip)
      by_cases c4 : (a0.size : Int) > 12
      · rw [if_pos c4] at H
        have c4b0 : decide (12 < (a0.size : Int)) = true := decide_eq_true c4
        have c4b1 : decide (12 < a0.size) = true := decide_eq_true (by omega)
        clear c4
        have H' := Aside0.mk H
        clear H
        go_wp2
        go_meet
        case rel => exact ⟨_, (true), (by first | rfl | (simp; done) | (simp [*]; done)), H', ⟨by first | omega | exact Nat.le_refl _⟩, by repeat (first | exact Drawn0.refl _ | apply Drawn0.step)⟩
      · rw [if_neg c4] at H
        have c4b0 : decide (12 < (a0.size : Int)) = false := decide_eq_false c4
        have c4b1 : decide (12 < a0.size) = false := decide_eq_false (by omega)
        clear c4
        by_cases c5 : 0 < (a0.size : Int)
        · rw [if_pos c5] at H
          have c5b0 : decide (0 < (a0.size : Int)) = true := decide_eq_true c5
          have c5b1 : decide (0 < a0.size) = true := decide_eq_true (by omega)
          clear c5
          replace H := Option.bind_eq_some_iff.mp H
          obtain ⟨t101, A70, H⟩ := H
          replace H : (sig_IsName.j0 k a0 (!t101)) = some r := H
          have A7 := Aside0.mk A70
          clear A70
          have H' := Aside0.mk H
          clear H
          have p6 : 0 ≤ (0 : Int) := (by omega)
          have q6 : 0 < a0.size := (by have : (0 : Int) < (a0.size : Int) := of_decide_eq_true (by first | (with_reducible assumption) | assumption); omega)
          have hx6 : ∀ h : 0 < a0.size, ((a0[0]'h).toNat : Int) = bt a0 0 := bt_at a0 0
          clear p6
          have qi6 : (0 < (a0.size : Int)) = True := eq_true (of_decide_eq_true (by first | (with_reducible assumption) | assumption))
          replace q6 := eq_true q6
          go_wp2_with (first | (go_at_call 118; (with_reducible refine (sig_small.calls (bt a0 0) t101 _ A7.out).mono ?_); rintro e w' ⟨rfl, ⟨nd, rfl⟩⟩))
          go_meet
          case rel => exact ⟨_, (!t101), (by first | rfl | (simp; done) | (simp [*]; done)), H', ⟨by first | omega | exact Nat.le_refl _⟩, by repeat (first | exact Drawn0.refl _ | apply Drawn0.step)⟩
        · rw [if_neg c5] at H
          exact absurd H (by simp)
  case rest =>
    clear HC2
    try clear c1
    try clear p2
    try clear c3
    try clear c3b0
    try clear c3b1
    try clear c4
    try clear c4b0
    try clear c4b1
    try clear c5
    try clear c5b0
    try clear c5b1
    try clear p6
    try clear q6
    try clear hx6
    try clear qi6
    try clear p6
    try clear q6
    obtain ⟨kq, x17_1, rfl, HA, HJ1, ⟨mc1, rfl⟩⟩ := hcut
    cases kq with
    | zero => exact absurd HA.out (by simp [sig_IsName.j0])
    | succ kj1 =>
      have H := HA.out
      clear HA
      simp only [sig_IsName.j0] at H
      by_cases c8 : x17_1 = true
      · subst c8
        have H1 : (some false) = some r := by rw [if_pos rfl] at H; exact H
        clear H
        have H := H1
        clear H1
        obtain rfl := Option.some.inj H
        go_wp2
        go_ret
        exact ⟨by first | rfl | (simp; done) | (simp [*]; done), by repeat (first | exact Drawn0.refl _ | apply Drawn0.step)⟩
      · replace c8 := Bool.eq_false_iff.mpr c8
        subst c8
        have H1 : (sig_IsName.l0 kj1 a0 (a0.size : Int) 0) = some r := by rw [if_neg (show ¬ (false = true) by decide)] at H; exact H
        clear H
        have H := H1
        clear H1
        have H' := Aside0.mk H
        clear H
        go_wp2
        go_loopg [20] kj1 (fun kq v20 w' => ∃ (x20_2 : Int), v20 = .int .i64 x20_2 ∧ Aside0 (sig_IsName.l0 kq a0 (a0.size : Int) x20_2 = some r) ∧ Aside0 (kq ≤ kj1) ∧ Drawn0 w w')
        case atStart => exact ⟨(0), (by first | rfl | (simp; done) | (simp [*]; done)), H', ⟨Nat.le_refl _⟩, by repeat (first | exact Drawn0.refl _ | apply Drawn0.step)⟩
        case round =>
          clear H'
          try clear c1
          try clear p2
          try clear c3
          try clear c3b0
          try clear c3b1
          try clear c4
          try clear c4b0
          try clear c4b1
          try clear c5
          try clear c5b0
          try clear c5b1
          try clear p6
          try clear q6
          try clear hx6
          try clear qi6
          try clear c8
          try clear p2
          try clear p6
          try clear q6
          obtain ⟨x20_2, rfl, HA, HK2, ⟨m2, rfl⟩⟩ := hrel
          cases gk with
          | zero => exact absurd HA.out (by simp [sig_IsName.l0])
          | succ k2 =>
            have H := HA.out
            clear HA
            simp only [sig_IsName.l0] at H
            by_cases c9 : x20_2 < (a0.size : Int)
            · rw [if_pos c9] at H
              have c9b0 : decide (x20_2 < (a0.size : Int)) = true := decide_eq_true c9
              clear c9
              by_cases c10 : 0 ≤ x20_2
              · rw [if_pos c10] at H
                have c10b0 : decide (0 ≤ x20_2) = true := decide_eq_true c10
                clear c10
                by_cases c11 : x20_2 < (a0.size : Int)
                · rw [if_pos c11] at H
                  have c11b0 : decide (x20_2 < (a0.size : Int)) = true := decide_eq_true c11
                  clear c11
                  replace H := Option.bind_eq_some_iff.mp H
                  obtain ⟨t102, A130, H⟩ := H
                  replace H : (if t102 = true then (sig_IsName.l0 k2 a0 (a0.size : Int) (wrap64 (x20_2 + 1))) else ((sig_digit.f (bt a0 x20_2)).bind fun t103 => (if t103 = true then (sig_IsName.l0 k2 a0 (a0.size : Int) (wrap64 (x20_2 + 1))) else (some false)))) = some r := H
                  have A13 := Aside0.mk A130
                  clear A130
                  by_cases c14 : t102 = true
                  · subst c14
                    have H1 : (sig_IsName.l0 k2 a0 (a0.size : Int) (wrap64 (x20_2 + 1))) = some r := by rw [if_pos rfl] at H; exact H
                    clear H
                    have H := H1
                    clear H1
                    have H' := Aside0.mk H
                    clear H
                    have p12 : 0 ≤ (x20_2 : Int) := of_decide_eq_true (by first | (with_reducible assumption) | assumption)
                    have q12 : x20_2 < (a0.size : Int) := of_decide_eq_true (by first | (with_reducible assumption) | assumption)
                    have hx12 := bt_at a0 x20_2
                    replace p12 := eq_true p12
                    replace q12 := eq_true q12
                    go_wp2_with (first | ((with_reducible refine gate_callee (f := 118) rfl ?_); refine goesL_ (some 26) rfl rfl Try.func118 (by kernel_rfl) rfl #[.int .u8 (bt a0 x20_2)] rfl (by (try simp only [List.map_toArray, List.map_cons, List.map_nil]); first | done | rfl | (simp only [List.length_drop, List.length_take]; rfl)) ?_; (with_reducible refine (sig_small.calls (bt a0 x20_2) true _ A13.out).mono ?_); rintro e w' ⟨rfl, ⟨nd, rfl⟩⟩; refine ⟨_, rfl, ?_⟩))
                    go_roundg k2
                    case measure => have := HJ1.out; have := HK2.out; omega
                    case rel => exact ⟨(wrap64 (x20_2 + 1)), (by first | rfl | (simp; done) | (simp [*]; done)), H', ⟨by have := HJ1.out; have := HK2.out; omega⟩, by repeat (first | exact Drawn0.refl _ | apply Drawn0.step)⟩
                  · replace c14 := Bool.eq_false_iff.mpr c14
                    subst c14
                    have H1 : ((sig_digit.f (bt a0 x20_2)).bind fun t103 => (if t103 = true then (sig_IsName.l0 k2 a0 (a0.size : Int) (wrap64 (x20_2 + 1))) else (some false))) = some r := by rw [if_neg (show ¬ (false = true) by decide)] at H; exact H
                    clear H
                    have H := H1
                    clear H1
                    replace H := Option.bind_eq_some_iff.mp H
                    obtain ⟨t103, A160, H⟩ := H
                    replace H : (if t103 = true then (sig_IsName.l0 k2 a0 (a0.size : Int) (wrap64 (x20_2 + 1))) else (some false)) = some r := H
                    have A16 := Aside0.mk A160
                    clear A160
                    by_cases c17 : t103 = true
                    · subst c17
                      have H1 : (sig_IsName.l0 k2 a0 (a0.size : Int) (wrap64 (x20_2 + 1))) = some r := by rw [if_pos rfl] at H; exact H
                      clear H
                      have H := H1
                      clear H1
                      have H' := Aside0.mk H
                      clear H
                      have p12 : 0 ≤ (x20_2 : Int) := of_decide_eq_true (by first | (with_reducible assumption) | assumption)
                      have q12 : x20_2 < (a0.size : Int) := of_decide_eq_true (by first | (with_reducible assumption) | assumption)
                      have hx12 := bt_at a0 x20_2
                      replace p12 := eq_true p12
                      replace q12 := eq_true q12
                      go_wp2_with (first | ((with_reducible refine gate_callee (f := 118) rfl ?_); refine goesL_ (some 26) rfl rfl Try.func118 (by kernel_rfl) rfl #[.int .u8 (bt a0 x20_2)] rfl (by (try simp only [List.map_toArray, List.map_cons, List.map_nil]); first | done | rfl | (simp only [List.length_drop, List.length_take]; rfl)) ?_; (with_reducible refine (sig_small.calls (bt a0 x20_2) false _ A13.out).mono ?_); rintro e w' ⟨rfl, ⟨nd, rfl⟩⟩; refine ⟨_, rfl, ?_⟩; have p15 : 0 ≤ (x20_2 : Int) := of_decide_eq_true (by first | (with_reducible assumption) | assumption); have q15 : x20_2 < (a0.size : Int) := of_decide_eq_true (by first | (with_reducible assumption) | assumption); have hx15 := bt_at a0 x20_2; replace p15 := eq_true p15; replace q15 := eq_true q15) | (go_at_call 119; (with_reducible refine (sig_digit.calls (bt a0 x20_2) true _ A16.out).mono ?_); rintro e w' ⟨rfl, ⟨nd, rfl⟩⟩))
                      go_roundg k2
                      case measure => have := HJ1.out; have := HK2.out; omega
                      case rel => exact ⟨(wrap64 (x20_2 + 1)), (by first | rfl | (simp; done) | (simp [*]; done)), H', ⟨by have := HJ1.out; have := HK2.out; omega⟩, by repeat (first | exact Drawn0.refl _ | apply Drawn0.step)⟩
                    · replace c17 := Bool.eq_false_iff.mpr c17
                      subst c17
                      have H1 : (some false) = some r := by rw [if_neg (show ¬ (false = true) by decide)] at H; exact H
                      clear H
                      have H := H1
                      clear H1
                      obtain rfl := Option.some.inj H
                      have p12 : 0 ≤ (x20_2 : Int) := of_decide_eq_true (by first | (with_reducible assumption) | assumption)
                      have q12 : x20_2 < (a0.size : Int) := of_decide_eq_true (by first | (with_reducible assumption) | assumption)
                      have hx12 := bt_at a0 x20_2
                      replace p12 := eq_true p12
                      replace q12 := eq_true q12
                      go_wp2_with (first | ((with_reducible refine gate_callee (f := 118) rfl ?_); refine goesL_ (some 26) rfl rfl Try.func118 (by kernel_rfl) rfl #[.int .u8 (bt a0 x20_2)] rfl (by (try simp only [List.map_toArray, List.map_cons, List.map_nil]); first | done | rfl | (simp only [List.length_drop, List.length_take]; rfl)) ?_; (with_reducible refine (sig_small.calls (bt a0 x20_2) false _ A13.out).mono ?_); rintro e w' ⟨rfl, ⟨nd, rfl⟩⟩; refine ⟨_, rfl, ?_⟩; have p15 : 0 ≤ (x20_2 : Int) := of_decide_eq_true (by first | (with_reducible assumption) | assumption); have q15 : x20_2 < (a0.size : Int) := of_decide_eq_true (by first | (with_reducible assumption) | assumption); have hx15 := bt_at a0 x20_2; replace p15 := eq_true p15; replace q15 := eq_true q15) | (go_at_call 119; (with_reducible refine (sig_digit.calls (bt a0 x20_2) false _ A16.out).mono ?_); rintro e w' ⟨rfl, ⟨nd, rfl⟩⟩))
                      go_ret
                      exact ⟨by first | rfl | (simp; done) | (simp [*]; done), by repeat (first | exact Drawn0.refl _ | apply Drawn0.step)⟩
                · rw [if_neg c11] at H
                  exact absurd H (by simp)
              · rw [if_neg c10] at H
                exact absurd H (by simp)
            · rw [if_neg c9] at H
              have c9b0 : decide (x20_2 < (a0.size : Int)) = false := decide_eq_false c9
              clear c9
              obtain rfl := Option.some.inj H
              go_wp2
              go_ret
              exact ⟨by first | rfl | (simp; done) | (simp [*]; done), by repeat (first | exact Drawn0.refl _ | apply Drawn0.step)⟩
def ropewalkref01_small.f (a0 : Int) : Option (Bool) := if a0 ≥ 97 then (some (decide (a0 ≤ 122))) else (some false)
set_option maxHeartbeats 8000000 in
set_option maxRecDepth 100000 in
theorem ropewalkref01_small.calls (a0 : Int) (r : Bool) (w : World) (h : ropewalkref01_small.f a0 = some r) :
    Calls Try.prog 120 #[.int .u8 a0] w fun e w' => e = .returned (.bool r) ∧ Drawn0 w w' := by
  have H : (if a0 ≥ 97 then (some (decide (a0 ≤ 122))) else (some false)) = some r := h
  clear h
  by_cases c2 : a0 ≥ 97
  · rw [if_pos c2] at H
    have c2b0 : decide (97 ≤ a0) = true := decide_eq_true c2
    clear c2
    obtain rfl := Option.some.inj H
    go_enter Try.func120, Try.ntmps120
    go_wp2
    go_ret
    exact ⟨by first | rfl | (simp; done) | (simp [*]; done), by repeat (first | exact Drawn0.refl _ | apply Drawn0.step)⟩
  · rw [if_neg c2] at H
    have c2b0 : decide (97 ≤ a0) = false := decide_eq_false c2
    clear c2
    obtain rfl := Option.some.inj H
    go_enter Try.func120, Try.ntmps120
    go_wp2
    go_ret
    exact ⟨by first | rfl | (simp; done) | (simp [*]; done), by repeat (first | exact Drawn0.refl _ | apply Drawn0.step)⟩
def ropewalkref01_digit.f (a0 : Int) : Option (Bool) := if a0 ≥ 48 then (some (decide (a0 ≤ 57))) else (some false)
set_option maxHeartbeats 8000000 in
set_option maxRecDepth 100000 in
theorem ropewalkref01_digit.calls (a0 : Int) (r : Bool) (w : World) (h : ropewalkref01_digit.f a0 = some r) :
    Calls Try.prog 121 #[.int .u8 a0] w fun e w' => e = .returned (.bool r) ∧ Drawn0 w w' := by
  have H : (if a0 ≥ 48 then (some (decide (a0 ≤ 57))) else (some false)) = some r := h
  clear h
  by_cases c2 : a0 ≥ 48
  · rw [if_pos c2] at H
    have c2b0 : decide (48 ≤ a0) = true := decide_eq_true c2
    clear c2
    obtain rfl := Option.some.inj H
    go_enter Try.func121, Try.ntmps121
    go_wp2
    go_ret
    exact ⟨by first | rfl | (simp; done) | (simp [*]; done), by repeat (first | exact Drawn0.refl _ | apply Drawn0.step)⟩
  · rw [if_neg c2] at H
    have c2b0 : decide (48 ≤ a0) = false := decide_eq_false c2
    clear c2
    obtain rfl := Option.some.inj H
    go_enter Try.func121, Try.ntmps121
    go_wp2
    go_ret
    exact ⟨by first | rfl | (simp; done) | (simp [*]; done), by repeat (first | exact Drawn0.refl _ | apply Drawn0.step)⟩
mutual
def ropewalkref01_IsName.j0 : Nat → ByteArray → Bool → Option (Bool)
  | 0, _, _ => none
  | k + 1, x0, x13 => if x13 = true then (some false) else (ropewalkref01_IsName.l0 k x0 0)
def ropewalkref01_IsName.l0 : Nat → ByteArray → Int → Option (Bool)
  | 0, _, _ => none
  | k + 1, x0, x3 => if x3 < (x0.size : Int) then (if 0 ≤ x3 then ((ropewalkref01_small.f (bt x0 x3)).bind fun t104 => ((ropewalkref01_digit.f (bt x0 x3)).bind fun t105 => (if t104 = true then (ropewalkref01_IsName.l0 k x0 (wrap64 (x3 + 1))) else (if x3 = 0 then (some false) else (if t105 = true then (ropewalkref01_IsName.l0 k x0 (wrap64 (x3 + 1))) else (some false)))))) else (none)) else (some true)
end
def ropewalkref01_IsName.f (k : Nat) (a0 : ByteArray) : Option (Bool) := if (a0.size : Int) < 1 then (ropewalkref01_IsName.j0 k a0 true) else (ropewalkref01_IsName.j0 k a0 (decide ((a0.size : Int) > 12)))
set_option maxHeartbeats 8000000 in
set_option maxRecDepth 100000 in
theorem ropewalkref01_IsName.calls (k : Nat) (a0 : ByteArray) (r : Bool) (w : World) (h : ropewalkref01_IsName.f k a0 = some r) :
    Calls Try.prog 101 #[.string a0] w fun e w' => e = .returned (.bool r) ∧ Drawn0 w w' := by
  have H : (if (a0.size : Int) < 1 then (ropewalkref01_IsName.j0 k a0 true) else (ropewalkref01_IsName.j0 k a0 (decide ((a0.size : Int) > 12)))) = some r := h
  clear h
  have HC2 := Aside0.mk H
  clear H
  go_enter Try.func101, Try.ntmps101
  go_upto_region 1 with (fail)
  go_cut [13] (fun v13 wc => ∃ (kq : Nat) (x13_1 : Bool), v13 = .bool x13_1 ∧ Aside0 (ropewalkref01_IsName.j0 kq a0 x13_1 = some r) ∧ Aside0 (kq ≤ k) ∧ Drawn0 w wc)
  case first =>
    have H := HC2.out
    clear HC2
    by_cases c3 : (a0.size : Int) < 1
    · rw [if_pos c3] at H
      have c3b0 : decide ((a0.size : Int) < 1) = true := decide_eq_true c3
      have c3b1 : decide (a0.size < 1) = true := decide_eq_true (by omega)
      clear c3
      (first | rw [c3b0] | (simp only [i64_w, i32_w]; rw [c3b0]) | skip)
      have H' := Aside0.mk H
      clear H
      go_wp2
      go_meet
      case rel => exact ⟨_, (true), (by first | rfl | (simp; done) | (simp [*]; done)), H', ⟨by first | omega | exact Nat.le_refl _⟩, by repeat (first | exact Drawn0.refl _ | apply Drawn0.step)⟩
    · rw [if_neg c3] at H
      have c3b0 : decide ((a0.size : Int) < 1) = false := decide_eq_false c3
      have c3b1 : decide (a0.size < 1) = false := decide_eq_false (by omega)
      clear c3
      (first | rw [c3b0] | (simp only [i64_w, i32_w]; rw [c3b0]) | skip)
      have H' := Aside0.mk H
      clear H
      go_wp2
      go_meet
      case rel => exact ⟨_, (decide ((a0.size : Int) > 12)), (by first | rfl | (simp; done) | (simp [*]; done)), H', ⟨by first | omega | exact Nat.le_refl _⟩, by repeat (first | exact Drawn0.refl _ | apply Drawn0.step)⟩
  case rest =>
    clear HC2
    try clear c1
    try clear p2
    try clear c3
    try clear c3b0
    try clear c3b1
    obtain ⟨kq, x13_1, rfl, HA, HJ1, ⟨mc1, rfl⟩⟩ := hcut
    cases kq with
    | zero => exact absurd HA.out (by simp [ropewalkref01_IsName.j0])
    | succ kj1 =>
      have H := HA.out
      clear HA
      simp only [ropewalkref01_IsName.j0] at H
      by_cases c4 : x13_1 = true
      · subst c4
        have H1 : (some false) = some r := by rw [if_pos rfl] at H; exact H
        clear H
        have H := H1
        clear H1
        obtain rfl := Option.some.inj H
        go_wp2
        go_ret
        exact ⟨by first | rfl | (simp; done) | (simp [*]; done), by repeat (first | exact Drawn0.refl _ | apply Drawn0.step)⟩
      · replace c4 := Bool.eq_false_iff.mpr c4
        subst c4
        have H1 : (ropewalkref01_IsName.l0 kj1 a0 0) = some r := by rw [if_neg (show ¬ (false = true) by decide)] at H; exact H
        clear H
        have H := H1
        clear H1
        have H' := Aside0.mk H
        clear H
        go_wp2
        go_loopg [3] kj1 (fun kq v3 w' => ∃ (x3_2 : Int), v3 = .int .i64 x3_2 ∧ Aside0 (ropewalkref01_IsName.l0 kq a0 x3_2 = some r) ∧ Aside0 (kq ≤ kj1) ∧ Drawn0 w w')
        case atStart => exact ⟨(0), (by first | rfl | (simp; done) | (simp [*]; done)), H', ⟨Nat.le_refl _⟩, by repeat (first | exact Drawn0.refl _ | apply Drawn0.step)⟩
        case round =>
          clear H'
          try clear c1
          try clear p2
          try clear c3
          try clear c3b0
          try clear c3b1
          try clear c4
          try clear p2
          obtain ⟨x3_2, rfl, HA, HK2, ⟨m2, rfl⟩⟩ := hrel
          cases gk with
          | zero => exact absurd HA.out (by simp [ropewalkref01_IsName.l0])
          | succ k2 =>
            have H := HA.out
            clear HA
            simp only [ropewalkref01_IsName.l0] at H
            by_cases c5 : x3_2 < (a0.size : Int)
            · rw [if_pos c5] at H
              have c5b0 : decide (x3_2 < (a0.size : Int)) = true := decide_eq_true c5
              clear c5
              by_cases c6 : 0 ≤ x3_2
              · rw [if_pos c6] at H
                have c6b0 : decide (0 ≤ x3_2) = true := decide_eq_true c6
                clear c6
                replace H := Option.bind_eq_some_iff.mp H
                obtain ⟨t104, A80, H⟩ := H
                replace H : ((ropewalkref01_digit.f (bt a0 x3_2)).bind fun t105 => (if t104 = true then (ropewalkref01_IsName.l0 k2 a0 (wrap64 (x3_2 + 1))) else (if x3_2 = 0 then (some false) else (if t105 = true then (ropewalkref01_IsName.l0 k2 a0 (wrap64 (x3_2 + 1))) else (some false))))) = some r := H
                have A8 := Aside0.mk A80
                clear A80
                replace H := Option.bind_eq_some_iff.mp H
                obtain ⟨t105, A100, H⟩ := H
                replace H : (if t104 = true then (ropewalkref01_IsName.l0 k2 a0 (wrap64 (x3_2 + 1))) else (if x3_2 = 0 then (some false) else (if t105 = true then (ropewalkref01_IsName.l0 k2 a0 (wrap64 (x3_2 + 1))) else (some false)))) = some r := H
                have A10 := Aside0.mk A100
                clear A100
                by_cases c11 : t104 = true
                · subst c11
                  have H1 : (ropewalkref01_IsName.l0 k2 a0 (wrap64 (x3_2 + 1))) = some r := by rw [if_pos rfl] at H; exact H
                  clear H
                  have H := H1
                  clear H1
                  have H' := Aside0.mk H
                  clear H
                  have p7 : 0 ≤ (x3_2 : Int) := of_decide_eq_true (by first | (with_reducible assumption) | assumption)
                  have q7 : x3_2 < (a0.size : Int) := of_decide_eq_true (by first | (with_reducible assumption) | assumption)
                  have hx7 := bt_at a0 x3_2
                  replace p7 := eq_true p7
                  replace q7 := eq_true q7
                  go_wp2_with (first | ((with_reducible refine gate_callee (f := 120) rfl ?_); refine goesL_ (some 23) rfl rfl Try.func120 (by kernel_rfl) rfl #[.int .u8 (bt a0 x3_2)] rfl (by (try simp only [List.map_toArray, List.map_cons, List.map_nil]); first | done | rfl | (simp only [List.length_drop, List.length_take]; rfl)) ?_; (with_reducible refine (ropewalkref01_small.calls (bt a0 x3_2) true _ A8.out).mono ?_); rintro e w' ⟨rfl, ⟨nd, rfl⟩⟩; refine ⟨_, rfl, ?_⟩; have p9 : 0 ≤ (x3_2 : Int) := of_decide_eq_true (by first | (with_reducible assumption) | assumption); have q9 : x3_2 < (a0.size : Int) := of_decide_eq_true (by first | (with_reducible assumption) | assumption); have hx9 := bt_at a0 x3_2; replace p9 := eq_true p9; replace q9 := eq_true q9) | ((with_reducible refine gate_callee (f := 121) rfl ?_); refine goesL_ (some 27) rfl rfl Try.func121 (by kernel_rfl) rfl #[.int .u8 (bt a0 x3_2)] rfl (by (try simp only [List.map_toArray, List.map_cons, List.map_nil]); first | done | rfl | (simp only [List.length_drop, List.length_take]; rfl)) ?_; (with_reducible refine (ropewalkref01_digit.calls (bt a0 x3_2) t105 _ A10.out).mono ?_); rintro e w' ⟨rfl, ⟨nd, rfl⟩⟩; refine ⟨_, rfl, ?_⟩))
                  go_roundg k2
                  case measure => have := HJ1.out; have := HK2.out; omega
                  case rel => exact ⟨(wrap64 (x3_2 + 1)), (by first | rfl | (simp; done) | (simp [*]; done)), H', ⟨by have := HJ1.out; have := HK2.out; omega⟩, by repeat (first | exact Drawn0.refl _ | apply Drawn0.step)⟩
                · replace c11 := Bool.eq_false_iff.mpr c11
                  subst c11
                  have H1 : (if x3_2 = 0 then (some false) else (if t105 = true then (ropewalkref01_IsName.l0 k2 a0 (wrap64 (x3_2 + 1))) else (some false))) = some r := by rw [if_neg (show ¬ (false = true) by decide)] at H; exact H
                  clear H
                  have H := H1
                  clear H1
                  by_cases c12 : x3_2 = 0
                  · rw [if_pos c12] at H
                    have c12b0 : (x3_2 == 0) = true := beq_iff_eq.mpr c12
                    have c12b1 : (x3_2 != 0) = false := bne_eq_false_iff_eq.mpr c12
                    clear c12
                    obtain rfl := Option.some.inj H
                    have p7 : 0 ≤ (x3_2 : Int) := of_decide_eq_true (by first | (with_reducible assumption) | assumption)
                    have q7 : x3_2 < (a0.size : Int) := of_decide_eq_true (by first | (with_reducible assumption) | assumption)
                    have hx7 := bt_at a0 x3_2
                    replace p7 := eq_true p7
                    replace q7 := eq_true q7
                    go_wp2_with (first | ((with_reducible refine gate_callee (f := 120) rfl ?_); refine goesL_ (some 23) rfl rfl Try.func120 (by kernel_rfl) rfl #[.int .u8 (bt a0 x3_2)] rfl (by (try simp only [List.map_toArray, List.map_cons, List.map_nil]); first | done | rfl | (simp only [List.length_drop, List.length_take]; rfl)) ?_; (with_reducible refine (ropewalkref01_small.calls (bt a0 x3_2) false _ A8.out).mono ?_); rintro e w' ⟨rfl, ⟨nd, rfl⟩⟩; refine ⟨_, rfl, ?_⟩; have p9 : 0 ≤ (x3_2 : Int) := of_decide_eq_true (by first | (with_reducible assumption) | assumption); have q9 : x3_2 < (a0.size : Int) := of_decide_eq_true (by first | (with_reducible assumption) | assumption); have hx9 := bt_at a0 x3_2; replace p9 := eq_true p9; replace q9 := eq_true q9) | ((with_reducible refine gate_callee (f := 121) rfl ?_); refine goesL_ (some 27) rfl rfl Try.func121 (by kernel_rfl) rfl #[.int .u8 (bt a0 x3_2)] rfl (by (try simp only [List.map_toArray, List.map_cons, List.map_nil]); first | done | rfl | (simp only [List.length_drop, List.length_take]; rfl)) ?_; (with_reducible refine (ropewalkref01_digit.calls (bt a0 x3_2) t105 _ A10.out).mono ?_); rintro e w' ⟨rfl, ⟨nd, rfl⟩⟩; refine ⟨_, rfl, ?_⟩))
                    go_ret
                    exact ⟨by first | rfl | (simp; done) | (simp [*]; done), by repeat (first | exact Drawn0.refl _ | apply Drawn0.step)⟩
                  · rw [if_neg c12] at H
                    have c12b0 : (x3_2 == 0) = false := beq_eq_false_iff_ne.mpr c12
                    have c12b1 : (x3_2 != 0) = true := bne_iff_ne.mpr c12
                    by_cases c13 : t105 = true
                    · subst c13
                      have H1 : (ropewalkref01_IsName.l0 k2 a0 (wrap64 (x3_2 + 1))) = some r := by rw [if_pos rfl] at H; exact H
                      clear H
                      have H := H1
                      clear H1
                      have H' := Aside0.mk H
                      clear H
                      have p7 : 0 ≤ (x3_2 : Int) := of_decide_eq_true (by first | (with_reducible assumption) | assumption)
                      have q7 : x3_2 < (a0.size : Int) := of_decide_eq_true (by first | (with_reducible assumption) | assumption)
                      have hx7 := bt_at a0 x3_2
                      replace p7 := eq_true p7
                      replace q7 := eq_true q7
                      go_wp2_with (first | ((with_reducible refine gate_callee (f := 120) rfl ?_); refine goesL_ (some 23) rfl rfl Try.func120 (by kernel_rfl) rfl #[.int .u8 (bt a0 x3_2)] rfl (by (try simp only [List.map_toArray, List.map_cons, List.map_nil]); first | done | rfl | (simp only [List.length_drop, List.length_take]; rfl)) ?_; (with_reducible refine (ropewalkref01_small.calls (bt a0 x3_2) false _ A8.out).mono ?_); rintro e w' ⟨rfl, ⟨nd, rfl⟩⟩; refine ⟨_, rfl, ?_⟩; have p9 : 0 ≤ (x3_2 : Int) := of_decide_eq_true (by first | (with_reducible assumption) | assumption); have q9 : x3_2 < (a0.size : Int) := of_decide_eq_true (by first | (with_reducible assumption) | assumption); have hx9 := bt_at a0 x3_2; replace p9 := eq_true p9; replace q9 := eq_true q9) | ((with_reducible refine gate_callee (f := 121) rfl ?_); refine goesL_ (some 27) rfl rfl Try.func121 (by kernel_rfl) rfl #[.int .u8 (bt a0 x3_2)] rfl (by (try simp only [List.map_toArray, List.map_cons, List.map_nil]); first | done | rfl | (simp only [List.length_drop, List.length_take]; rfl)) ?_; (with_reducible refine (ropewalkref01_digit.calls (bt a0 x3_2) true _ A10.out).mono ?_); rintro e w' ⟨rfl, ⟨nd, rfl⟩⟩; refine ⟨_, rfl, ?_⟩))
                      go_roundg k2
                      case measure => have := HJ1.out; have := HK2.out; omega
                      case rel => exact ⟨(wrap64 (x3_2 + 1)), (by first | rfl | (simp; done) | (simp [*]; done)), H', ⟨by have := HJ1.out; have := HK2.out; omega⟩, by repeat (first | exact Drawn0.refl _ | apply Drawn0.step)⟩
                    · replace c13 := Bool.eq_false_iff.mpr c13
                      subst c13
                      have H1 : (some false) = some r := by rw [if_neg (show ¬ (false = true) by decide)] at H; exact H
                      clear H
                      have H := H1
                      clear H1
                      obtain rfl := Option.some.inj H
                      have p7 : 0 ≤ (x3_2 : Int) := of_decide_eq_true (by first | (with_reducible assumption) | assumption)
                      have q7 : x3_2 < (a0.size : Int) := of_decide_eq_true (by first | (with_reducible assumption) | assumption)
                      have hx7 := bt_at a0 x3_2
                      replace p7 := eq_true p7
                      replace q7 := eq_true q7
                      go_wp2_with (first | ((with_reducible refine gate_callee (f := 120) rfl ?_); refine goesL_ (some 23) rfl rfl Try.func120 (by kernel_rfl) rfl #[.int .u8 (bt a0 x3_2)] rfl (by (try simp only [List.map_toArray, List.map_cons, List.map_nil]); first | done | rfl | (simp only [List.length_drop, List.length_take]; rfl)) ?_; (with_reducible refine (ropewalkref01_small.calls (bt a0 x3_2) false _ A8.out).mono ?_); rintro e w' ⟨rfl, ⟨nd, rfl⟩⟩; refine ⟨_, rfl, ?_⟩; have p9 : 0 ≤ (x3_2 : Int) := of_decide_eq_true (by first | (with_reducible assumption) | assumption); have q9 : x3_2 < (a0.size : Int) := of_decide_eq_true (by first | (with_reducible assumption) | assumption); have hx9 := bt_at a0 x3_2; replace p9 := eq_true p9; replace q9 := eq_true q9) | ((with_reducible refine gate_callee (f := 121) rfl ?_); refine goesL_ (some 27) rfl rfl Try.func121 (by kernel_rfl) rfl #[.int .u8 (bt a0 x3_2)] rfl (by (try simp only [List.map_toArray, List.map_cons, List.map_nil]); first | done | rfl | (simp only [List.length_drop, List.length_take]; rfl)) ?_; (with_reducible refine (ropewalkref01_digit.calls (bt a0 x3_2) false _ A10.out).mono ?_); rintro e w' ⟨rfl, ⟨nd, rfl⟩⟩; refine ⟨_, rfl, ?_⟩))
                      go_ret
                      exact ⟨by first | rfl | (simp; done) | (simp [*]; done), by repeat (first | exact Drawn0.refl _ | apply Drawn0.step)⟩
              · rw [if_neg c6] at H
                exact absurd H (by simp)
            · rw [if_neg c5] at H
              have c5b0 : decide (x3_2 < (a0.size : Int)) = false := decide_eq_false c5
              clear c5
              obtain rfl := Option.some.inj H
              go_wp2
              go_ret
              exact ⟨by first | rfl | (simp; done) | (simp [*]; done), by repeat (first | exact Drawn0.refl _ | apply Drawn0.step)⟩
def ropewalkref01_Find.l0 : Nat → List (S89) → ByteArray → Int → Option (Int)
  | 0, _, _, _ => none
  | k + 1, x0, x1, x5 => if x5 < (x0.length : Int) then (if 0 ≤ x5 then (if ((rd_T89 x0 x5).f0).toList = x1.toList then (some x5) else (ropewalkref01_Find.l0 k x0 x1 (wrap64 (x5 + 1)))) else (none)) else (some (-1))
def ropewalkref01_Find.f (k : Nat) (l0 : List (S89)) (a1 : ByteArray) : Option (Int) := ropewalkref01_Find.l0 k l0 a1 0
set_option maxHeartbeats 8000000 in
set_option maxRecDepth 100000 in
theorem ropewalkref01_Find.calls (k : Nat) (A0 : Option Addr) (c0 : Nat) (l0 : List (S89)) (a1 : ByteArray) (r : Int) (w : World) (hr0 : Kd.C k89 w A0 l0.length l0) (hc0 : l0.length ≤ c0) (h : ropewalkref01_Find.f k l0 a1 = some r) :
    Calls Try.prog 102 #[.slice A0 l0.length c0, .string a1] w fun e w' => e = .returned (.int .i64 r) ∧ Drawn0 w w' := by
  have HR0 := Aside0.mk hr0
  have HC0 := Aside0.mk hc0
  clear hr0 hc0
  have H : (ropewalkref01_Find.l0 k l0 a1 0) = some r := h
  clear h
  have H' := Aside0.mk H
  clear H
  go_enter Try.func102, Try.ntmps102
  go_wp2
  go_loopg [5] k (fun kq v5 w' => ∃ (x5_1 : Int), v5 = .int .i64 x5_1 ∧ Aside0 (ropewalkref01_Find.l0 kq l0 a1 x5_1 = some r) ∧ Aside0 (kq ≤ k) ∧ Drawn0 w w')
  case atStart => exact ⟨(0), (by first | rfl | (simp; done) | (simp [*]; done)), H', ⟨Nat.le_refl _⟩, by repeat (first | exact Drawn0.refl _ | apply Drawn0.step)⟩
  case round =>
    clear H'
    try clear c1
    try clear p2
    obtain ⟨x5_1, rfl, HA, HK1, ⟨m1, rfl⟩⟩ := hrel
    cases gk with
    | zero => exact absurd HA.out (by simp [ropewalkref01_Find.l0])
    | succ k1 =>
      have H := HA.out
      clear HA
      simp only [ropewalkref01_Find.l0] at H
      by_cases c3 : x5_1 < (l0.length : Int)
      · rw [if_pos c3] at H
        have c3b0 : decide (x5_1 < (l0.length : Int)) = true := decide_eq_true c3
        clear c3
        by_cases c4 : 0 ≤ x5_1
        · rw [if_pos c4] at H
          have c4b0 : decide (0 ≤ x5_1) = true := decide_eq_true c4
          clear c4
          by_cases c5 : ((rd_T89 l0 x5_1).f0).toList = a1.toList
          · rw [if_pos c5] at H
            have c5b0 : (((rd_T89 l0 x5_1).f0).toList == a1.toList) = true := beq_iff_eq.mpr c5
            have c5b1 : (((rd_T89 l0 x5_1).f0).toList != a1.toList) = false := bne_eq_false_iff_eq.mpr c5
            clear c5
            obtain rfl := Option.some.inj H
            have p106 : 0 ≤ (x5_1 : Int) := of_decide_eq_true (by first | (with_reducible assumption) | assumption)
            have q106 : x5_1 < (l0.length : Int) := of_decide_eq_true (by first | (with_reducible assumption) | assumption)
            obtain ⟨ad106, e106, hx106_0, hx106_1, hx106_2⟩ := at_T89 HR0.out x5_1 p106 q106
            cases e106
            replace p106 := eq_true p106
            replace q106 := eq_true q106
            go_wp2
            go_ret
            exact ⟨by first | rfl | (simp; done) | (simp [*]; done), by repeat (first | exact Drawn0.refl _ | apply Drawn0.step)⟩
          · rw [if_neg c5] at H
            have c5b0 : (((rd_T89 l0 x5_1).f0).toList == a1.toList) = false := beq_eq_false_iff_ne.mpr c5
            have c5b1 : (((rd_T89 l0 x5_1).f0).toList != a1.toList) = true := bne_iff_ne.mpr c5
            have H' := Aside0.mk H
            clear H
            have p106 : 0 ≤ (x5_1 : Int) := of_decide_eq_true (by first | (with_reducible assumption) | assumption)
            have q106 : x5_1 < (l0.length : Int) := of_decide_eq_true (by first | (with_reducible assumption) | assumption)
            obtain ⟨ad106, e106, hx106_0, hx106_1, hx106_2⟩ := at_T89 HR0.out x5_1 p106 q106
            cases e106
            replace p106 := eq_true p106
            replace q106 := eq_true q106
            go_wp2
            go_roundg k1
            case measure => have := HK1.out; omega
            case rel => exact ⟨(wrap64 (x5_1 + 1)), (by first | rfl | (simp; done) | (simp [*]; done)), H', ⟨by have := HK1.out; omega⟩, by repeat (first | exact Drawn0.refl _ | apply Drawn0.step)⟩
        · rw [if_neg c4] at H
          exact absurd H (by simp)
      · rw [if_neg c3] at H
        have c3b0 : decide (x5_1 < (l0.length : Int)) = false := decide_eq_false c3
        clear c3
        obtain rfl := Option.some.inj H
        go_wp2
        go_ret
        exact ⟨by first | rfl | (simp; done) | (simp [*]; done), by repeat (first | exact Drawn0.refl _ | apply Drawn0.step)⟩
def term_isVariable.f (a0 : Int) : Option (Bool) := if a0 < 0 then (some (decide (a0 ≥ (-99)))) else (some false)
set_option maxHeartbeats 8000000 in
set_option maxRecDepth 100000 in
theorem term_isVariable.calls (a0 : Int) (r : Bool) (w : World) (h : term_isVariable.f a0 = some r) :
    Calls Try.prog 80 #[.int .i64 a0] w fun e w' => e = .returned (.bool r) ∧ Drawn0 w w' := by
  have H : (if a0 < 0 then (some (decide (a0 ≥ (-99)))) else (some false)) = some r := h
  clear h
  by_cases c2 : a0 < 0
  · rw [if_pos c2] at H
    have c2b0 : decide (a0 < 0) = true := decide_eq_true c2
    clear c2
    obtain rfl := Option.some.inj H
    go_enter Try.func80, Try.ntmps80
    go_wp2
    go_ret
    exact ⟨by first | rfl | (simp; done) | (simp [*]; done), by repeat (first | exact Drawn0.refl _ | apply Drawn0.step)⟩
  · rw [if_neg c2] at H
    have c2b0 : decide (a0 < 0) = false := decide_eq_false c2
    clear c2
    obtain rfl := Option.some.inj H
    go_enter Try.func80, Try.ntmps80
    go_wp2
    go_ret
    exact ⟨by first | rfl | (simp; done) | (simp [*]; done), by repeat (first | exact Drawn0.refl _ | apply Drawn0.step)⟩
def ropewalkref02_Same.l0 : Nat → List Int → List Int → Int → Option (Bool)
  | 0, _, _, _ => none
  | k + 1, x0, x1, x5 => if x5 < (x0.length : Int) then (if 0 ≤ x5 then (if x5 < (x1.length : Int) then (if (rd x0 x5) = (rd x1 x5) then (ropewalkref02_Same.l0 k x0 x1 (wrap64 (x5 + 1))) else (some false)) else (none)) else (none)) else (some true)
def ropewalkref02_Same.f (k : Nat) (l0 : List Int) (l1 : List Int) : Option (Bool) := if (l0.length : Int) = (l1.length : Int) then (ropewalkref02_Same.l0 k l0 l1 0) else (some false)
set_option maxHeartbeats 8000000 in
set_option maxRecDepth 100000 in
theorem ropewalkref02_Same.calls (k : Nat) (A0 : Option Addr) (c0 : Nat) (l0 : List Int) (A1 : Option Addr) (c1 : Nat) (l1 : List Int) (r : Bool) (w : World) (hr0 : Kd.C (Kd.int .i64) w A0 l0.length l0) (hc0 : l0.length ≤ c0) (hr1 : Kd.C (Kd.int .i64) w A1 l1.length l1) (hc1 : l1.length ≤ c1) (h : ropewalkref02_Same.f k l0 l1 = some r) :
    Calls Try.prog 42 #[.slice A0 l0.length c0, .slice A1 l1.length c1] w fun e w' => e = .returned (.bool r) ∧ Drawn0 w w' := by
  have HR0 := Aside0.mk hr0
  have HC0 := Aside0.mk hc0
  clear hr0 hc0
  have HR1 := Aside0.mk hr1
  have HC1 := Aside0.mk hc1
  clear hr1 hc1
  have H : (if (l0.length : Int) = (l1.length : Int) then (ropewalkref02_Same.l0 k l0 l1 0) else (some false)) = some r := h
  clear h
  by_cases c3 : (l0.length : Int) = (l1.length : Int)
  · rw [if_pos c3] at H
    have c3b0 : ((l0.length : Int) == (l1.length : Int)) = true := beq_iff_eq.mpr c3
    have c3b1 : ((l0.length : Int) != (l1.length : Int)) = false := bne_eq_false_iff_eq.mpr c3
    have c3b2 : (l0.length == l1.length) = true := by first | simpa using c3 | (simp at c3 ⊢; omega)
    clear c3
    have H' := Aside0.mk H
    clear H
    go_enter Try.func42, Try.ntmps42
    go_wp2
    repeat (go_quiet (fail); try go_wp2)
    go_loopg [5] k (fun kq v5 w' => ∃ (x5_1 : Int), v5 = .int .i64 x5_1 ∧ Aside0 (ropewalkref02_Same.l0 kq l0 l1 x5_1 = some r) ∧ Aside0 (kq ≤ k) ∧ Drawn0 w w')
    case atStart => exact ⟨(0), (by first | rfl | (simp; done) | (simp [*]; done)), H', ⟨Nat.le_refl _⟩, by repeat (first | exact Drawn0.refl _ | apply Drawn0.step)⟩
    case round =>
      clear H'
      try clear c1
      try clear p2
      try clear c3
      try clear c3b0
      try clear c3b1
      try clear c3b2
      obtain ⟨x5_1, rfl, HA, HK1, ⟨m1, rfl⟩⟩ := hrel
      cases gk with
      | zero => exact absurd HA.out (by simp [ropewalkref02_Same.l0])
      | succ k1 =>
        have H := HA.out
        clear HA
        simp only [ropewalkref02_Same.l0] at H
        by_cases c4 : x5_1 < (l0.length : Int)
        · rw [if_pos c4] at H
          have c4b0 : decide (x5_1 < (l0.length : Int)) = true := decide_eq_true c4
          clear c4
          by_cases c5 : 0 ≤ x5_1
          · rw [if_pos c5] at H
            have c5b0 : decide (0 ≤ x5_1) = true := decide_eq_true c5
            clear c5
            by_cases c6 : x5_1 < (l1.length : Int)
            · rw [if_pos c6] at H
              have c6b0 : decide (x5_1 < (l1.length : Int)) = true := decide_eq_true c6
              clear c6
              by_cases c7 : (rd l0 x5_1) = (rd l1 x5_1)
              · rw [if_pos c7] at H
                have c7b0 : ((rd l0 x5_1) == (rd l1 x5_1)) = true := beq_iff_eq.mpr c7
                have c7b1 : ((rd l0 x5_1) != (rd l1 x5_1)) = false := bne_eq_false_iff_eq.mpr c7
                clear c7
                have H' := Aside0.mk H
                clear H
                have p110 : 0 ≤ (x5_1 : Int) := of_decide_eq_true (by first | (with_reducible assumption) | assumption)
                have q110 : x5_1 < (l0.length : Int) := of_decide_eq_true (by first | (with_reducible assumption) | assumption)
                obtain ⟨ad110, e110, hx110_0⟩ := Kd.at_int HR0.out x5_1 p110 q110
                cases e110
                replace p110 := eq_true p110
                replace q110 := eq_true q110
                have p111 : 0 ≤ (x5_1 : Int) := of_decide_eq_true (by first | (with_reducible assumption) | assumption)
                have q111 : x5_1 < (l1.length : Int) := of_decide_eq_true (by first | (with_reducible assumption) | assumption)
                obtain ⟨ad111, e111, hx111_0⟩ := Kd.at_int HR1.out x5_1 p111 q111
                cases e111
                replace p111 := eq_true p111
                replace q111 := eq_true q111
                go_wp2
                repeat (go_quiet (fail); try go_wp2)
                go_roundg k1
                case measure => have := HK1.out; omega
                case rel => exact ⟨(wrap64 (x5_1 + 1)), (by first | rfl | (simp; done) | (simp [*]; done)), H', ⟨by have := HK1.out; omega⟩, by repeat (first | exact Drawn0.refl _ | apply Drawn0.step)⟩
              · rw [if_neg c7] at H
                have c7b0 : ((rd l0 x5_1) == (rd l1 x5_1)) = false := beq_eq_false_iff_ne.mpr c7
                have c7b1 : ((rd l0 x5_1) != (rd l1 x5_1)) = true := bne_iff_ne.mpr c7
                obtain rfl := Option.some.inj H
                have p110 : 0 ≤ (x5_1 : Int) := of_decide_eq_true (by first | (with_reducible assumption) | assumption)
                have q110 : x5_1 < (l0.length : Int) := of_decide_eq_true (by first | (with_reducible assumption) | assumption)
                obtain ⟨ad110, e110, hx110_0⟩ := Kd.at_int HR0.out x5_1 p110 q110
                cases e110
                replace p110 := eq_true p110
                replace q110 := eq_true q110
                have p111 : 0 ≤ (x5_1 : Int) := of_decide_eq_true (by first | (with_reducible assumption) | assumption)
                have q111 : x5_1 < (l1.length : Int) := of_decide_eq_true (by first | (with_reducible assumption) | assumption)
                obtain ⟨ad111, e111, hx111_0⟩ := Kd.at_int HR1.out x5_1 p111 q111
                cases e111
                replace p111 := eq_true p111
                replace q111 := eq_true q111
                go_wp2
                repeat (go_quiet (fail); try go_wp2)
                go_ret
                exact ⟨by first | rfl | (simp; done) | (simp [*]; done), by repeat (first | exact Drawn0.refl _ | apply Drawn0.step)⟩
            · rw [if_neg c6] at H
              exact absurd H (by simp)
          · rw [if_neg c5] at H
            exact absurd H (by simp)
        · rw [if_neg c4] at H
          have c4b0 : decide (x5_1 < (l0.length : Int)) = false := decide_eq_false c4
          clear c4
          obtain rfl := Option.some.inj H
          go_wp2
          repeat (go_quiet (fail); try go_wp2)
          go_ret
          exact ⟨by first | rfl | (simp; done) | (simp [*]; done), by repeat (first | exact Drawn0.refl _ | apply Drawn0.step)⟩
  · rw [if_neg c3] at H
    have c3b0 : ((l0.length : Int) == (l1.length : Int)) = false := beq_eq_false_iff_ne.mpr c3
    have c3b1 : ((l0.length : Int) != (l1.length : Int)) = true := bne_iff_ne.mpr c3
    have c3b2 : (l0.length == l1.length) = false := by first | simpa using c3 | (simp at c3 ⊢; omega)
    obtain rfl := Option.some.inj H
    go_enter Try.func42, Try.ntmps42
    go_wp2
    repeat (go_quiet (fail); try go_wp2)
    go_ret
    exact ⟨by first | rfl | (simp; done) | (simp [*]; done), by repeat (first | exact Drawn0.refl _ | apply Drawn0.step)⟩
end Go.Proofs.Ytadjoaipmcbieaa.A

/-! SS -/
namespace Go.Proofs.Ytadjoaipmcbieaa
open Go.RowKit Go.Proofs.YtadjoaipmcbieaaW.PrintWords Go.Proofs.YtadjoaipmcbieaaW.PrintLast Go.Proofs.YtadjoaipmcbieaaW.PrintMore A
/-- The block g is a signature whose list reads as l. -/
def SigC (w : World) (g : Nat) (l : List S89) : Prop := ∃ A c, w.cell? ⟨g, 0, none⟩ = some (.slice A l.length c) ∧ l.length ≤ c ∧ Kd.C k89 w A l.length l
theorem SigC.below {w w' : World} {g : Nat} {l : List S89} (h : SigC w g l) (hb : Below w.heap.size w w') : SigC w' g l := by
  obtain ⟨A, c, h1, h2, h3⟩ := h
  exact ⟨A, c, pw_cell_below hb h1, h2, Kd.C_below h3 hb⟩
theorem cell_alloc {w : World} {a : Addr} {v : Value} (h : w.cell? a = some v) (o : Obj) : (w.alloc o).cell? a = some v := pw_cell_below (below_alloc (Below.refl _ _) o) h
/-- Len: of a signature. -/
theorem len_any (g : Nat) (l : List S89) (w : World) (hs : SigC w g l) :
    Calls Try.prog 79 #[.pointer (some ⟨g, 0, none⟩)] w fun e w' => e = .returned (.int .i64 l.length) ∧ w = w' := by
  obtain ⟨A, c, h1, h2, h3⟩ := hs
  go_enter Try.func79, Try.ntmps79
  go_wp2
  go_ret
  exact ⟨rfl, rfl⟩
theorem at_in (g : Nat) (l : List S89) (n : Int) (w : World) (hs : SigC w g l) (h0 : 0 ≤ n) (hn : n < l.length) :
    Calls Try.prog 122 #[.pointer (some ⟨g, 0, none⟩), .int .i64 n] w fun e w' => e = .returned (.tuple #[.agg #[.string (rd_T89 l n).f0, .int .i64 (rd_T89 l n).f1, .bool (rd_T89 l n).f2], .int .i64 0]) ∧ Below w.heap.size w w' := by
  obtain ⟨A, c, h1, h2, h3⟩ := hs
  obtain ⟨ad, rfl, hc0, hc1, hc2⟩ := at_T89 h3 n h0 hn
  have e1 : decide (n < 0) = false := decide_eq_false (by omega)
  have e2 : decide ((l.length : Int) ≤ n) = false := decide_eq_false (by omega)
  replace h1 := cell_alloc h1
  replace hc0 := cell_alloc hc0
  replace hc1 := cell_alloc hc1
  replace hc2 := cell_alloc hc2
  go_enter Try.func122, Try.ntmps122
  go_wp2
  exact bodyPost_ret (v := .tuple #[.agg #[.string (rd_T89 l n).f0, .int .i64 (rd_T89 l n).f1, .bool (rd_T89 l n).f2], .int .i64 0]) (by simp [results, Try.results122, go_sem]) rfl ⟨rfl, (Below.refl _ _).alloc (Nat.le_refl _) _⟩
/-- At: no such symbol. -/
theorem at_out (g : Nat) (l : List S89) (n : Int) (w : World) (hs : SigC w g l) (h0 : n < 0 ∨ l.length ≤ n) :
    Calls Try.prog 122 #[.pointer (some ⟨g, 0, none⟩), .int .i64 n] w fun e w' => e = .returned (.tuple #[.agg #[.string ⟨#[]⟩, .int .i64 0, .bool false], .int .i64 14]) ∧ Below w.heap.size w w' := by
  obtain ⟨A, c, h1, h2, h3⟩ := hs
  replace h1 := cell_alloc h1
  by_cases hn : n < 0
  · have e1 : decide (n < 0) = true := decide_eq_true hn
    go_enter Try.func122, Try.ntmps122
    go_wp2
    exact bodyPost_ret (v := .tuple #[.agg #[.string ⟨#[]⟩, .int .i64 0, .bool false], .int .i64 14]) (by simp [results, Try.results122, go_sem]) rfl ⟨rfl, (Below.refl _ _).alloc (Nat.le_refl _) _⟩
  · have e1 : decide (n < 0) = false := decide_eq_false (by omega)
    have e2 : decide ((l.length : Int) ≤ n) = true := decide_eq_true (by omega)
    go_enter Try.func122, Try.ntmps122
    go_wp2
    exact bodyPost_ret (v := .tuple #[.agg #[.string ⟨#[]⟩, .int .i64 0, .bool false], .int .i64 14]) (by simp [results, Try.results122, go_sem]) rfl ⟨rfl, (Below.refl _ _).alloc (Nat.le_refl _) _⟩
/-- How many arguments stand behind a number. -/
def ar (l : List S89) (n : Int) : Int := if n < 0 then 0 else (rd_T89 l n).f1
theorem ar_neg {l : List S89} {n : Int} (h : n < 0) : ar l n = 0 := if_pos h
theorem ar_out {l : List S89} {n : Int} (h : l.length ≤ n) : ar l n = 0 := by
  unfold ar; split
  · rfl
  · unfold rd_T89; rw [List.getD_eq_getElem?_getD, List.getElem?_eq_none (by omega)]; rfl
theorem arity_any (g : Nat) (l : List S89) (n : Int) (w : World) (hs : SigC w g l) :
    Calls Try.prog 104 #[.pointer (some ⟨g, 0, none⟩), .int .i64 n] w fun e w' => e = .returned (.int .i64 (ar l n)) ∧ Below w.heap.size w w' := by
  by_cases h0 : n < 0
  · rw [ar_neg h0]
    have e1 : decide (n < 0) = true := decide_eq_true h0
    go_enter Try.func104, Try.ntmps104
    go_wp2
    go_ret
    exact ⟨rfl, Below.refl _ _⟩
  · have e1 : decide (n < 0) = false := decide_eq_false h0
    by_cases h1 : n < l.length
    · have e : ar l n = (rd_T89 l n).f1 := if_neg h0
      rw [e]
      clear e
      go_enter Try.func104, Try.ntmps104
      go_wp2_with (go_at_call 122; refine (at_in g l n _ hs (by omega) h1).mono ?_; rintro e w1 ⟨rfl, hb⟩)
      go_ret
      exact ⟨rfl, below_alloc hb _⟩
    · rw [ar_out (by omega)]
      go_enter Try.func104, Try.ntmps104
      go_wp2_with (go_at_call 122; refine (at_out g l n _ hs (by omega)).mono ?_; rintro e w1 ⟨rfl, hb⟩)
      go_ret
      exact ⟨rfl, below_alloc hb _⟩
end Go.Proofs.Ytadjoaipmcbieaa
namespace Go.Proofs.Ytadjoaipmcbieaa
open Go.RowKit Go.Proofs.YtadjoaipmcbieaaW.PrintWords Go.Proofs.YtadjoaipmcbieaaW.PrintLast Go.Proofs.YtadjoaipmcbieaaW.PrintMore A
/-- What the loop of term.end tells: the rest of the list, how many terms must come yet, the place. -/
def fin (a : Int → Int) : List Int → Int → Nat → Int
  | [], o, p => if 0 < o then p + 1 else p
  | n :: r, o, p => if 0 < o then fin a r (o + (a n - 1)) (p + 1) else p
/-- A signature as sig.Add makes it. -/
structure GoodL (l : List S89) : Prop where
  len : l.length ≤ 64
  ar : ∀ x ∈ l, 0 ≤ x.f1 ∧ x.f1 ≤ 6
theorem ar_bd {l : List S89} (h : GoodL l) (n : Int) : 0 ≤ ar l n ∧ ar l n ≤ 6 := by
  unfold ar; split
  · omega
  · unfold rd_T89
    rcases Nat.lt_or_ge n.toNat l.length with hl | hl
    · rw [List.getD_eq_getElem?_getD, List.getElem?_eq_getElem hl]
      exact h.ar _ (List.getElem_mem hl)
    · rw [List.getD_eq_getElem?_getD, List.getElem?_eq_none hl]; simp [z89]
theorem drop_rd (t : List Int) (p : Nat) (h : p < t.length) : t.drop p = rd t p :: t.drop (p + 1) := by
  rw [List.drop_eq_getElem_cons h]; simp [rd, List.getD_eq_getElem?_getD, List.getElem?_eq_getElem h]
theorem int_at {w : World} {A : Option Addr} {n : Nat} {xs : List Int} (h : Kd.C (Kd.int .i64) w A n xs) (p : Nat) (hp : p < n) : ∃ ad, A = some ad ∧ w.cell? (ad.add p) = some (.int .i64 (rd xs p)) := by
  obtain ⟨ad, e, hc⟩ := Kd.at_int h p (by omega) (by omega)
  exact ⟨ad, e, by simpa using hc⟩
theorem fin_stop {a : Int → Int} {r : List Int} {k : Int} {p : Nat} (h : ¬ 0 < k) : fin a r k p = p := by cases r <;> simp [fin, h]
theorem fin_end {a : Int → Int} {t : List Int} {k : Int} {p : Nat} (h : 0 < k) (hp : t.length ≤ p) : fin a (t.drop p) k p = p + 1 := by
  rw [List.drop_eq_nil_of_le hp]; simp [fin, h]
theorem fin_step {a : Int → Int} {t : List Int} {k : Int} {p : Nat} (h : 0 < k) (hp : p < t.length) : fin a (t.drop p) k p = fin a (t.drop (p + 1)) (k + (a (rd t p) - 1)) (p + 1) := by
  rw [drop_rd t p hp]; simp [fin, h]
theorem ret_int {k : IntKind} {a b : Int} (h : a = b) : Ending.returned (.int k a) = .returned (.int k b) := by rw [h]
set_option maxHeartbeats 1000000 in
theorem end_any (g : Nat) (l : List S89) (A : Option Addr) (c : Nat) (t : List Int) (p : Nat) (w : World) (hs : SigC w g l) (hl : GoodL l)
    (ht : Kd.C (Kd.int .i64) w A t.length t) (h2 : t.length ≤ 2000) (hp : p ≤ t.length) :
    Calls Try.prog 77 #[.pointer (some ⟨g, 0, none⟩), .slice A t.length c, .int .i64 p] w fun e w' => e = .returned (.int .i64 (fin (ar l) (t.drop p) 1 p)) ∧ Below w.heap.size w w' := by
  have HS := Aside0.mk hs
  have HL := Aside0.mk hl
  have HT := Aside0.mk ht
  clear hs hl ht
  generalize hR : fin (ar l) (t.drop p) 1 p = R
  have HR := Aside0.mk hR
  clear hR
  go_enter Try.func77, Try.ntmps77
  go_wp2
  go_loopw [2, 7] (fun a o wr => ∃ (p : Nat) (k : Int), a = .int .i64 p ∧ o = .int .i64 k ∧ p ≤ t.length ∧ Aside0 (0 ≤ k ∧ k ≤ 1 + 6 * p) ∧ Aside0 (fin (ar l) (t.drop p) k p = R) ∧ Aside0 (Below w.heap.size w wr)) (fun a _ _ => t.length + 1 - (intOf a).toNat)
  case atStart => exact ⟨p, 1, rfl, rfl, hp, ⟨by omega⟩, HR, ⟨Below.refl _ _⟩⟩
  case round =>
    obtain ⟨p, k, rfl, rfl, hp, ⟨hk0, hk1⟩, HR, HB⟩ := hrel
    by_cases hk : 0 < k
    · have e1 : decide (0 < k) = true := decide_eq_true hk
      by_cases hq : p = t.length
      · have e2 : ((p : Int) == (t.length : Int)) = true := beq_iff_eq.2 (by omega)
        have HE := Aside0.mk (HR.out.symm.trans (fin_end hk (by omega)))
        clear hq
        go_wp2
        go_ret
        exact ⟨ret_int HE.out.symm, HB.out⟩
      · have e2 : ((p : Int) == (t.length : Int)) = false := beq_eq_false_iff_ne.2 (by omega)
        obtain ⟨ad, e, hc⟩ := int_at (Kd.C_below HT.out HB.out) p (by omega)
        cases e
        have hA := ar_bd HL.out (rd t p)
        have HE := Aside0.mk ((fin_step (a := ar l) hk (show p < t.length by omega)).symm.trans HR.out)
        go_wp2_with (go_at_call 104; refine (arity_any g l (rd t p) _ (HS.out.below HB.out)).mono ?_; rintro e w1 ⟨rfl, hb⟩)
        go_roundw
        case rel => exact ⟨p + 1, _, by go_num, rfl, by omega, ⟨by omega⟩, HE, ⟨below_then HB.out (by have := HB.out.size; omega) hb⟩⟩
        case measure => simp [intOf]; omega
    · have e1 : decide (0 < k) = false := decide_eq_false hk
      have HE := Aside0.mk (HR.out.symm.trans (fin_stop hk))
      go_wp2
      go_ret
      exact ⟨ret_int HE.out.symm, HB.out⟩
end Go.Proofs.Ytadjoaipmcbieaa
namespace Go.Proofs.Ytadjoaipmcbieaa
open Go.RowKit Go.Proofs.YtadjoaipmcbieaaW.PrintWords Go.Proofs.YtadjoaipmcbieaaW.PrintLast Go.Proofs.YtadjoaipmcbieaaW.PrintMore A
def badN (L : Int) (n : Int) : Int := if L ≤ n then 21 else if n < -99 then 22 else 0
def bads (L : Int) : List Int → Int → Int
  | [], z => z
  | n :: r, z => if badN L n = 0 then bads L r z else badN L n
def shape (l : List S89) (t : List Int) : Int := if t.length = 0 then 23 else if fin (ar l) t 1 0 = t.length then 0 else 23
def chk (l : List S89) (t : List Int) : Int := if 2000 < t.length then 20 else bads l.length t (shape l t)
theorem bads_step {L z : Int} {t : List Int} {p : Nat} (hp : p < t.length) : bads L (t.drop p) z = if badN L (rd t p) = 0 then bads L (t.drop (p + 1)) z else badN L (rd t p) := by
  rw [drop_rd t p hp]; simp [bads]
theorem bads_end {L z : Int} {t : List Int} {p : Nat} (hp : t.length ≤ p) : bads L (t.drop p) z = z := by
  rw [List.drop_eq_nil_of_le hp]; simp [bads]
theorem badN_sym {L n : Int} (h : L ≤ n) : badN L n = 21 := if_pos h
theorem badN_var {L n : Int} (h : ¬ L ≤ n) (h2 : n < -99) : badN L n = 22 := by unfold badN; rw [if_neg h, if_pos h2]
theorem badN_ok {L n : Int} (h : ¬ L ≤ n) (h2 : ¬ n < -99) : badN L n = 0 := by unfold badN; rw [if_neg h, if_neg h2]
set_option maxHeartbeats 1000000 in
theorem check_long (g : Nat) (A : Option Addr) (c n : Nat) (w : World) (h : 2000 < n) :
    Calls Try.prog 38 #[.pointer (some ⟨g, 0, none⟩), .slice A n c] w fun e w' => e = .returned (.int .i64 20) ∧ Below w.heap.size w w' := by
  have e1 : decide (2000 < (n : Int)) = true := decide_eq_true (by omega)
  go_enter Try.func38, Try.ntmps38
  go_wp2
  go_ret
  exact ⟨rfl, Below.refl _ _⟩
set_option maxHeartbeats 1000000 in
theorem check_any (g : Nat) (l : List S89) (A : Option Addr) (c : Nat) (t : List Int) (w : World) (hs : SigC w g l) (hl : GoodL l)
    (ht : Kd.C (Kd.int .i64) w A t.length t) :
    Calls Try.prog 38 #[.pointer (some ⟨g, 0, none⟩), .slice A t.length c] w fun e w' => e = .returned (.int .i64 (chk l t)) ∧ Below w.heap.size w w' := by
  by_cases h2 : 2000 < t.length
  · rw [chk, if_pos h2]
    exact check_long g A c _ w h2
  · have hR : chk l t = bads l.length (t.drop 0) (shape l t) := by rw [chk, if_neg h2]; rfl
    generalize chk l t = R at hR ⊢
    have HS := Aside0.mk hs
    have HL := Aside0.mk hl
    have HT := Aside0.mk ht
    have HR := Aside0.mk hR.symm
    clear hs hl ht hR
    have e1 : decide (2000 < (t.length : Int)) = false := decide_eq_false (by omega)
    go_enter Try.func38, Try.ntmps38
    go_wp2
    go_loopw [16] (fun i wr => ∃ (p : Nat), i = .int .i64 p ∧ p ≤ t.length ∧ Aside0 (bads l.length (t.drop p) (shape l t) = R) ∧ Aside0 (Below w.heap.size w wr)) (fun i _ => t.length - (intOf i).toNat)
    case atStart => exact ⟨0, rfl, by omega, HR, ⟨Below.refl _ _⟩⟩
    case round =>
      clear HR e1
      obtain ⟨p, rfl, hp, HR, HB⟩ := hrel
      by_cases hq : p < t.length
      · obtain ⟨ad, e, hc⟩ := int_at (Kd.C_below HT.out HB.out) p hq
        cases e
        have HE := HR.out
        rw [bads_step hq] at HE
        by_cases h3 : (l.length : Int) ≤ rd t p
        · rw [badN_sym h3] at HE
          replace HE := Aside0.mk HE
          go_wp2_with (go_at_call 79; refine (len_any g l _ (HS.out.below HB.out)).mono ?_; rintro e w1 ⟨rfl, rfl⟩)
          go_ret
          exact ⟨ret_int HE.out, HB.out⟩
        · by_cases h4 : rd t p < -99
          · rw [badN_var h3 h4] at HE
            replace HE := Aside0.mk HE
            have e2 : decide (rd t p < 0) = true := decide_eq_true (by omega)
            go_wp2_with (first | (go_at_call 79; refine (len_any g l _ (HS.out.below HB.out)).mono ?_; rintro e w1 ⟨rfl, rfl⟩) | (go_at_call 80; refine (term_isVariable.calls (rd t p) false _ (by unfold term_isVariable.f; rw [if_pos (by omega)]; simp; omega)).mono ?_; rintro e w1 ⟨rfl, hd⟩))
            go_ret
            exact ⟨ret_int HE.out, below_then HB.out (by have := HB.out.size; omega) hd.below⟩
          · rw [badN_ok h3 h4] at HE
            replace HE := Aside0.mk HE
            by_cases h5 : rd t p < 0
            · have e2 : decide (rd t p < 0) = true := decide_eq_true (by omega)
              go_wp2_with (first | (go_at_call 79; refine (len_any g l _ (HS.out.below HB.out)).mono ?_; rintro e w1 ⟨rfl, rfl⟩) | (go_at_call 80; refine (term_isVariable.calls (rd t p) true _ (by unfold term_isVariable.f; rw [if_pos (by omega)]; simp; omega)).mono ?_; rintro e w1 ⟨rfl, hd⟩))
              go_roundw
              case rel => exact ⟨p + 1, by go_num, by omega, HE, ⟨below_then HB.out (by have := HB.out.size; omega) hd.below⟩⟩
              case measure => simp [intOf]; omega
            · have e2 : decide (rd t p < 0) = false := decide_eq_false (by omega)
              go_wp2_with (first | (go_at_call 79; refine (len_any g l _ (HS.out.below HB.out)).mono ?_; rintro e w1 ⟨rfl, rfl⟩))
              go_roundw
              case rel => exact ⟨p + 1, by go_num, by omega, HE, HB⟩
              case measure => simp [intOf]; omega
      · have HE := HR.out
        rw [bads_end (by omega)] at HE
        by_cases h6 : t.length = 0
        · rw [shape, if_pos h6] at HE
          replace HE := Aside0.mk HE
          have e2 : ((t.length : Int) == 0) = true := beq_iff_eq.2 (by omega)
          clear h6
          go_wp2
          go_ret
          exact ⟨ret_int HE.out, HB.out⟩
        · rw [shape, if_neg h6] at HE
          have e2 : ((t.length : Int) == 0) = false := beq_eq_false_iff_ne.2 (by omega)
          by_cases h7 : fin (ar l) t 1 0 = t.length
          · rw [if_pos h7] at HE
            replace HE := Aside0.mk HE
            have h8 : (fin (ar l) (t.drop 0) 1 ((0 : Nat)) != (t.length : Int)) = false := by rw [List.drop_zero]; exact bne_eq_false_iff_eq.2 h7
            go_wp2_with (go_at_call 77; refine (end_any g l A c t 0 _ (HS.out.below HB.out) HL.out (Kd.C_below HT.out HB.out) (by omega) (by omega)).mono ?_; rintro e w1 ⟨rfl, hb⟩)
            go_ret
            exact ⟨ret_int HE.out, below_then HB.out (by have := HB.out.size; omega) hb⟩
          · rw [if_neg h7] at HE
            replace HE := Aside0.mk HE
            have h8 : (fin (ar l) (t.drop 0) 1 ((0 : Nat)) != (t.length : Int)) = true := by rw [List.drop_zero]; exact bne_iff_ne.2 h7
            go_wp2_with (go_at_call 77; refine (end_any g l A c t 0 _ (HS.out.below HB.out) HL.out (Kd.C_below HT.out HB.out) (by omega) (by omega)).mono ?_; rintro e w1 ⟨rfl, hb⟩)
            go_ret
            exact ⟨ret_int HE.out, below_then HB.out (by have := HB.out.size; omega) hb⟩
/-- What place tells. -/
def plc (l : List S89) (t : List Int) (at_ : Int) : Int := if chk l t = 0 then (if at_ < 0 then 24 else if (t.length : Int) ≤ at_ then 24 else 0) else chk l t
set_option maxHeartbeats 1000000 in
theorem place_any (g : Nat) (l : List S89) (A : Option Addr) (c : Nat) (t : List Int) (at_ : Int) (w : World) (hs : SigC w g l) (hl : GoodL l)
    (ht : Kd.C (Kd.int .i64) w A t.length t) :
    Calls Try.prog 76 #[.pointer (some ⟨g, 0, none⟩), .slice A t.length c, .int .i64 at_] w fun e w' => e = .returned (.int .i64 (plc l t at_)) ∧ Below w.heap.size w w' := by
  by_cases h0 : chk l t = 0
  · have e1 : (chk l t == 0) = true := beq_iff_eq.2 h0
    by_cases h1 : at_ < 0
    · have hR : plc l t at_ = 24 := by rw [plc, if_pos h0, if_pos h1]
      rw [hR]
      clear hR h0
      have e2 : decide (at_ < 0) = true := decide_eq_true h1
      go_enter Try.func76, Try.ntmps76
      go_wp2_with (go_at_call 38; refine (check_any g l A c t _ hs hl ht).mono ?_; rintro e w1 ⟨rfl, hb⟩)
      go_ret
      exact ⟨rfl, hb⟩
    · have e2 : decide (at_ < 0) = false := decide_eq_false h1
      by_cases h2 : (t.length : Int) ≤ at_
      · have hR : plc l t at_ = 24 := by rw [plc, if_pos h0, if_neg h1, if_pos h2]
        rw [hR]
        clear hR h0
        have e3 : decide ((t.length : Int) ≤ at_) = true := decide_eq_true h2
        go_enter Try.func76, Try.ntmps76
        go_wp2_with (go_at_call 38; refine (check_any g l A c t _ hs hl ht).mono ?_; rintro e w1 ⟨rfl, hb⟩)
        go_ret
        exact ⟨rfl, hb⟩
      · have hR : plc l t at_ = chk l t := by rw [plc, if_pos h0, if_neg h1, if_neg h2, h0]
        rw [hR]
        clear hR h0
        have e3 : decide ((t.length : Int) ≤ at_) = false := decide_eq_false h2
        go_enter Try.func76, Try.ntmps76
        go_wp2_with (go_at_call 38; refine (check_any g l A c t _ hs hl ht).mono ?_; rintro e w1 ⟨rfl, hb⟩)
        go_ret
        exact ⟨rfl, hb⟩
  · have hR : plc l t at_ = chk l t := by rw [plc, if_neg h0]
    rw [hR]
    have e1 : (chk l t == 0) = false := beq_eq_false_iff_ne.2 h0
    clear hR h0
    go_enter Try.func76, Try.ntmps76
    go_wp2_with (go_at_call 38; refine (check_any g l A c t _ hs hl ht).mono ?_; rintro e w1 ⟨rfl, hb⟩)
    go_ret
    exact ⟨rfl, hb⟩
end Go.Proofs.Ytadjoaipmcbieaa
namespace Go.Proofs.Ytadjoaipmcbieaa
open Go.RowKit Go.Proofs.YtadjoaipmcbieaaW.PrintWords Go.Proofs.YtadjoaipmcbieaaW.PrintLast Go.Proofs.YtadjoaipmcbieaaW.PrintMore A
/-- The place behind the subterm at p. -/
def endN (l : List S89) (t : List Int) (p : Nat) : Nat := (fin (ar l) (t.drop p) 1 p).toNat
theorem fin_ge {a : Int → Int} : ∀ (r : List Int) (k : Int) (p : Nat), (p : Int) ≤ fin a r k p ∧ fin a r k p ≤ p + r.length + 1
  | [], k, p => by simp only [fin, List.length_nil]; split <;> omega
  | n :: r, k, p => by
    simp only [fin, List.length_cons]
    split
    · have := fin_ge (a := a) r (k + (a n - 1)) (p + 1); omega
    · omega
theorem endN_cast {l : List S89} {t : List Int} {p : Nat} : ((endN l t p : Nat) : Int) = fin (ar l) (t.drop p) 1 p := by
  have := (fin_ge (a := ar l) (t.drop p) 1 p).1
  unfold endN; omega
/-- The places of k subterms, one behind the other, from nx on. -/
def argsF (l : List S89) (t : List Int) : Nat → Nat → List Nat
  | 0, _ => []
  | k + 1, nx => nx :: argsF l t k (endN l t nx)
def toI (xs : List Nat) : List Int := xs.map Int.ofNat
theorem toI_append (xs ys : List Nat) : toI (xs ++ ys) = toI xs ++ toI ys := by simp [toI]
theorem toI_length (xs : List Nat) : (toI xs).length = xs.length := by simp [toI]
def argsL (l : List S89) (t : List Int) (p : Nat) : List Nat := argsF l t (ar l (rd t p)).toNat (p + 1)
set_option maxHeartbeats 1000000 in
theorem args_any (g : Nat) (l : List S89) (A : Option Addr) (c : Nat) (t : List Int) (p : Nat) (w : World) (hs : SigC w g l) (hl : GoodL l)
    (ht : Kd.C (Kd.int .i64) w A t.length t) (h2 : t.length ≤ 2000) (hp : p < t.length) (hv : ∀ x ∈ argsL l t p, x ≤ t.length) :
    Calls Try.prog 78 #[.pointer (some ⟨g, 0, none⟩), .slice A t.length c, .int .i64 p] w fun e w' => ∃ v, e = .returned v ∧ Kd.R (Kd.int .i64) 3 w' w.heap.size (fun _ => True) v (toI (argsL l t p)) ∧ Below w.heap.size w w' := by
  have HS := Aside0.mk hs
  have HL := Aside0.mk hl
  have HT := Aside0.mk ht
  have HV := Aside0.mk hv
  obtain ⟨ad, e, hc⟩ := int_at ht p hp
  cases e
  have hA := ar_bd hl (rd t p)
  obtain ⟨K, hK⟩ := Int.eq_ofNat_of_zero_le hA.1
  have hK6 : K ≤ 6 := by omega
  have HG : Aside0 (argsL l t p = argsF l t K (p + 1)) := ⟨by unfold argsL; rw [hK]; rfl⟩
  have HK := Aside0.mk hK
  clear hs hl ht hv hK hA
  go_enter Try.func78, Try.ntmps78
  go_wp2_with (go_at_call 104; refine (arity_any g l (rd t p) _ HS.out).mono ?_; rintro e w1 ⟨rfl, hb⟩)
  rw [HK.out]
  go_loopw [7, 8, 17] (fun o x i wr => ∃ (k nx : Nat) (done : List Nat), x = .int .i64 nx ∧ i = .int .i64 k ∧ k ≤ K ∧ Aside0 (argsL l t p = done ++ argsF l t (K - k) nx) ∧ Aside0 (done.length = k) ∧ Aside0 (Kd.R (Kd.int .i64) 3 wr w.heap.size (fun _ => True) o (toI done)) ∧ Aside0 (Below w.heap.size w wr)) (fun _ _ i _ => K - (intOf i).toNat)
  case atStart => exact ⟨0, p + 1, [], by go_num, rfl, by omega, HG, ⟨rfl⟩, ⟨Kd.R_nil _ _ _ _ _⟩, ⟨hb⟩⟩
  case round =>
    clear HG
    obtain ⟨k, nx, done, rfl, rfl, hk, HG, HD, HO, HB⟩ := hrel
    by_cases hlt : k < K
    · obtain ⟨m, hm⟩ : ∃ m, K - k = m + 1 := ⟨K - k - 1, by omega⟩
      have hG2 := HG.out
      rw [hm, argsF] at hG2
      have hnx : nx ≤ t.length := HV.out nx (by rw [hG2]; simp)
      have hcast := endN_cast (l := l) (t := t) (p := nx)
      have HC := Aside0.mk hcast
      have HN := Aside0.mk (show argsL l t p = (done ++ [nx]) ++ argsF l t (K - (k + 1)) (endN l t nx) by rw [hG2, show K - (k + 1) = m by omega]; simp)
      clear hm hG2 hcast HG
      go_wp2_with (first
        | (at_builtin; refine Kd.R_append (Kd.int .i64) (w0 := w) w.heap.size rfl (.tmp 19) (.tmp 21) 24 3 (.int .i64 0) 8 rfl Try.underlying24 info3 rfl (by decide) (by omega) u7 (toI done) (nx : Int) [.int .i64 nx] (fun _ => True) (fun _ => False) rfl rfl rfl (fun _ hk => hk.elim) (fun _ _ => trivial) HO.out HB.out HB.out.size (by have := HD.out; rw [toI_length]; omega) ?_; intro v1 w2 ho hb2 hg hat)
        | (go_at_call 77; refine (end_any g l (some ad) c t nx _ (HS.out.below hb2) HL.out (Kd.C_below HT.out hb2) (by omega) hnx).mono ?_; rintro e w3 ⟨rfl, hb3⟩))
      go_roundw
      case rel => exact ⟨k + 1, endN l t nx, done ++ [nx], by rw [HC.out], by go_num, by omega, HN, ⟨by rw [List.length_append, HD.out]; rfl⟩, ⟨Kd.R_below (by rw [toI_append]; exact ho) hb3⟩, ⟨below_then hb2 hb2.size hb3⟩⟩
      case measure => simp [intOf]; omega
    · have hkk : k = K := by omega
      have hfin : toI (argsL l t p) = toI done := by rw [HG.out, show K - k = 0 by omega]; simp [argsF]
      have HF := Aside0.mk hfin
      clear hkk hfin
      go_wp2
      go_ret
      exact ⟨_, rfl, by rw [HF.out]; exact HO.out, HB.out⟩
end Go.Proofs.Ytadjoaipmcbieaa
namespace Go.Proofs.Ytadjoaipmcbieaa
open Go.RowKit Go.Proofs.YtadjoaipmcbieaaW.PrintWords Go.Proofs.YtadjoaipmcbieaaW.PrintLast Go.Proofs.YtadjoaipmcbieaaW.PrintMore A
theorem own_empty (w : World) : Kd.R (Kd.int .i64) 3 (w.alloc (.cells #[] 3)) w.heap.size (fun _ => True) (.slice (some ⟨w.heap.size, 0, none⟩) 0 0) ([] : List Int) :=
  ⟨fun _ _ => trivial, [], ⟨rfl, .inr ⟨w.heap.size, 0, #[], rfl, Nat.le_refl _, heap_alloc_new w _, Nat.le_refl _, Nat.zero_le _, rfl, rfl⟩⟩, by exact Reps.none _ _⟩
set_option maxHeartbeats 1000000 in
theorem clone_any (A : Option Addr) (c : Nat) (t : List Int) (w : World) (ht : Kd.C (Kd.int .i64) w A t.length t) (hl : t.length ≤ 17592186044415) :
    Calls Try.prog 82 #[.slice A t.length c] w fun e w' => ∃ v, e = .returned v ∧ Kd.R (Kd.int .i64) 3 w' w.heap.size (fun _ => True) v t ∧ Below w.heap.size w w' := by
  have q : ∀ (w : World) (a : Option Addr) (n c : Nat), (binOp .eql 25 (.slice a n c) (.slice none 0 0)).run Try.prog w = .ok (.bool a.isNone) w := fun w a n c => Lib.run_eql_slice_nil w _ _ a n c 0 0 Try.underlying25
  have HT := Aside0.mk ht
  cases A with
  | none =>
    have h0 : t = [] := by
      rcases Nat.eq_zero_or_pos t.length with h | h
      · exact List.eq_nil_of_length_eq_zero h
      · obtain ⟨ad, e, _⟩ := ht.2.2 h; cases e
    subst h0
    clear ht hl
    go_enter Try.func82, Try.ntmps82
    go_wp2_with fail
    go_ret
    exact ⟨_, rfl, Kd.R_nil _ _ _ _ _, Below.refl _ _⟩
  | some ad =>
    clear ht
    go_enter Try.func82, Try.ntmps82
    go_wp2_with ((at_builtin; refine Kd.R_append_rows (Kd.int .i64) (Rr := fun x cs => cs = [.int .i64 x]) (w0 := w) w.heap.size rfl (.tmp 5) (.tmp 6) 25 3 (.int .i64 0) 8 rfl Try.underlying25 info3 rfl (by decide) (by omega) (.slice (some ⟨w.heap.size, 0, none⟩) 0 0) [] t (some ad) t.length c (fun _ => True) (fun _ => False) rfl rfl (own_empty w) (Kd.C_below HT.out (below_alloc (Below.refl _ _) _)) (fun _ _ h => h) (fun _ hk => hk.elim) (fun _ _ => trivial) (below_alloc (Below.refl _ _) _) (by simp) (by simp only [List.length_nil]; omega) ?_; intro v1 w1 ho hb hg hat))
    go_ret
    exact ⟨_, rfl, by simpa using ho, hb⟩
theorem plc_ok {l : List S89} {t : List Int} {p : Int} (h : plc l t p = 0) : chk l t = 0 ∧ 0 ≤ p ∧ p < t.length := by
  unfold plc at h
  split at h
  · split at h
    · omega
    · split at h <;> omega
  · omega
theorem chk_len {l : List S89} {t : List Int} (h : chk l t = 0) : t.length ≤ 2000 := by
  unfold chk at h; split at h <;> omega
theorem End_ok (g : Nat) (l : List S89) (A : Option Addr) (c : Nat) (t : List Int) (p : Int) (w : World) (hs : SigC w g l) (hl : GoodL l)
    (ht : Kd.C (Kd.int .i64) w A t.length t) (hp : plc l t p = 0) :
    Calls Try.prog 36 #[.pointer (some ⟨g, 0, none⟩), .slice A t.length c, .int .i64 p] w fun e w' => e = .returned (.tuple #[.int .i64 (endN l t p.toNat), .int .i64 0]) ∧ Below w.heap.size w w' := by
  obtain ⟨h1, h2, h3⟩ := plc_ok hp
  have h4 := chk_len h1
  obtain ⟨p, rfl⟩ := Int.eq_ofNat_of_zero_le h2
  have e1 : (plc l t (p : Int) != 0) = false := bne_eq_false_iff_eq.2 hp
  rw [Int.toNat_natCast, endN_cast]
  clear hp h1
  go_enter Try.func36, Try.ntmps36
  go_wp2_with (first | (go_at_call 76; refine (place_any g l A c t p _ hs hl ht).mono ?_; rintro e w1 ⟨rfl, hb⟩) | (go_at_call 77; refine (end_any g l A c t p _ (hs.below hb) hl (Kd.C_below ht hb) h4 (by omega)).mono ?_; rintro e w2 ⟨rfl, hb2⟩))
  go_ret2
  exact ⟨rfl, below_then hb hb.size hb2⟩
end Go.Proofs.Ytadjoaipmcbieaa
namespace Go.Proofs.Ytadjoaipmcbieaa
open Go.RowKit Go.Proofs.YtadjoaipmcbieaaW.PrintWords Go.Proofs.YtadjoaipmcbieaaW.PrintLast Go.Proofs.YtadjoaipmcbieaaW.PrintMore A
/-- A list is just k terms, one behind the other. -/
inductive IsT (b : Int → Nat) : Nat → List Int → Prop
  | nil : IsT b 0 []
  | cons {k : Nat} {n : Int} {r : List Int} (h : IsT b (b n + k) r) : IsT b (k + 1) (n :: r)
section
variable {b : Int → Nat} {a : Int → Int}
theorem IsT.zero {xs : List Int} (h : IsT b 0 xs) : xs = [] := by cases h; rfl
theorem IsT.of_nil {k : Nat} (h : IsT b k []) : k = 0 := by cases h; rfl
theorem IsT.uncons {k : Nat} {n : Int} {r : List Int} (h : IsT b k (n :: r)) : ∃ m, k = m + 1 ∧ IsT b (b n + m) r := by
  cases h with | cons h => exact ⟨_, rfl, h⟩
theorem IsT.pos {k : Nat} {xs : List Int} (h : IsT b k xs) : k ≤ xs.length := by
  induction h with
  | nil => simp
  | cons _ ih => simp only [List.length_cons]; omega
theorem IsT.split {k m : Nat} {zs : List Int} (h : IsT b (k + m) zs) : ∃ xs ys, zs = xs ++ ys ∧ IsT b k xs ∧ IsT b m ys := by
  generalize hN : k + m = N at h
  induction h generalizing k m with
  | nil => exact ⟨[], [], rfl, by rw [show k = 0 by omega]; exact .nil, by rw [show m = 0 by omega]; exact .nil⟩
  | @cons N n r _ ih =>
    rcases Nat.eq_zero_or_pos k with rfl | hk
    · exact ⟨[], n :: r, rfl, .nil, by rw [show m = N + 1 by omega]; exact .cons ‹_›⟩
    · obtain ⟨xs, ys, rfl, h1, h2⟩ := ih (k := b n + (k - 1)) (m := m) (by omega)
      exact ⟨n :: xs, ys, rfl, by rw [show k = (k - 1) + 1 by omega]; exact .cons h1, h2⟩
/-- What stands behind a place is some terms, too. -/
theorem IsT.suffix {k : Nat} {xs ys : List Int} (h : IsT b k (xs ++ ys)) : ∃ m, IsT b m ys := by
  induction xs generalizing k with
  | nil => exact ⟨k, h⟩
  | cons x xs ih => obtain ⟨m, _, h'⟩ := IsT.uncons h; exact ih h'
theorem fin_isT (hb : ∀ n, a n = b n) {k : Nat} {xs : List Int} (h : IsT b k xs) (r : List Int) (p : Nat) : fin a (xs ++ r) k p = p + xs.length := by
  induction h generalizing p with
  | nil => rw [fin_stop (by omega)]; simp
  | @cons k n xs _ ih =>
    rw [List.cons_append, fin, if_pos (by omega), hb, show ((k + 1 : Nat) : Int) + ((b n : Int) - 1) = ((b n + k : Nat) : Int) by omega, ih]
    simp only [List.length_cons]; omega
theorem isT_fin (hb : ∀ n, a n = b n) : ∀ (t : List Int) (k p : Nat), fin a t k p ≤ p + t.length → ∃ xs r, t = xs ++ r ∧ IsT b k xs ∧ fin a t k p = p + xs.length
  | [], k, p, h => by
    rcases Nat.eq_zero_or_pos k with rfl | hk
    · exact ⟨[], [], rfl, .nil, by simp [fin]⟩
    · rw [fin, if_pos (by omega)] at h; simp at h; omega
  | n :: t, k, p, h => by
    rcases Nat.eq_zero_or_pos k with rfl | hk
    · exact ⟨[], n :: t, rfl, .nil, by simp [fin]⟩
    · obtain ⟨k, rfl⟩ : ∃ m, k = m + 1 := ⟨k - 1, by omega⟩
      have e : fin a (n :: t) ((k + 1 : Nat) : Int) p = fin a t ((b n + k : Nat) : Int) (p + 1) := by
        rw [fin, if_pos (by omega), hb, show ((k + 1 : Nat) : Int) + ((b n : Int) - 1) = ((b n + k : Nat) : Int) by omega]
      rw [e] at h ⊢
      simp only [List.length_cons] at h
      obtain ⟨xs, r, rfl, h1, h2⟩ := isT_fin hb t (b n + k) (p + 1) (by omega)
      exact ⟨n :: xs, r, rfl, .cons h1, by rw [h2]; simp only [List.length_cons]; omega⟩
end
/-- Arities as numbers from 0 on. -/
def an (l : List S89) (n : Int) : Nat := (ar l n).toNat
theorem an_ar {l : List S89} (hl : GoodL l) (n : Int) : ar l n = (an l n : Nat) := by have := ar_bd hl n; unfold an; omega
/-- t is a term over l. -/
abbrev Ter (l : List S89) (t : List Int) : Prop := IsT (an l) 1 t
theorem chk_ter {l : List S89} {t : List Int} (hl : GoodL l) (h : chk l t = 0) : Ter l t := by
  unfold chk at h
  split at h
  · omega
  · have key : ∀ (r : List Int) (z : Int), bads l.length r z = 0 → z = 0 := by
      intro r
      induction r with
      | nil => intro z hz; exact hz
      | cons n r ih =>
        intro z hz
        rw [bads] at hz
        split at hz
        · exact ih z hz
        · contradiction
    have h2 := key _ _ h
    unfold shape at h2
    split at h2
    · omega
    · split at h2
      · rename_i h3 h4
        obtain ⟨xs, r, e, h5, h6⟩ := isT_fin (an_ar hl) t 1 0 (by have h4' : fin (ar l) t ((1 : Nat) : Int) 0 = t.length := h4; omega)
        have h7 : xs.length = t.length := by have h4' : fin (ar l) t ((1 : Nat) : Int) 0 = t.length := h4; omega
        have h8 : r = [] := by
          have := congrArg List.length e
          rw [List.length_append] at this
          exact List.eq_nil_of_length_eq_zero (by omega)
        subst h8
        rw [List.append_nil] at e
        rw [e]; exact h5
      · omega
/-- At each place of a term a subterm stands. -/
theorem Ter.at_ {l : List S89} {t : List Int} (h : Ter l t) {p : Nat} (hp : p < t.length) : ∃ s r, t.drop p = s ++ r ∧ Ter l s := by
  have h1 : IsT (an l) 1 (t.take p ++ t.drop p) := by rw [List.take_append_drop]; exact h
  obtain ⟨m, hm⟩ := h1.suffix
  have hm1 : 1 ≤ m := by
    rcases Nat.eq_zero_or_pos m with rfl | h0
    · have := congrArg List.length hm.zero; simp at this; omega
    · exact h0
  obtain ⟨s, r, e, hs, _⟩ := IsT.split (k := 1) (m := m - 1) (by rw [show 1 + (m - 1) = m by omega]; exact hm)
  exact ⟨s, r, e, hs⟩
theorem endN_of {l : List S89} (hl : GoodL l) {t s r : List Int} {p : Nat} (e : t.drop p = s ++ r) (hs : Ter l s) : endN l t p = p + s.length := by
  have h := fin_isT (an_ar hl) hs r p
  unfold endN
  rw [e]
  have h' : fin (ar l) (s ++ r) 1 p = p + s.length := h
  rw [h']; omega
theorem endN_le {l : List S89} (hl : GoodL l) {t : List Int} (h : Ter l t) {p : Nat} (hp : p < t.length) : endN l t p ≤ t.length ∧ p < endN l t p := by
  obtain ⟨s, r, e, hs⟩ := h.at_ hp
  have hs1 := hs.pos
  rw [endN_of hl e hs]
  have := congrArg List.length e
  simp at this
  omega
/-- The places at which lists stand that are laid one behind the other. -/
def starts : Nat → List (List Int) → List Nat
  | _, [] => []
  | p, s :: ss => p :: starts (p + s.length) ss
theorem IsT.parts {b : Int → Nat} : ∀ {k : Nat} {xs : List Int}, IsT b k xs → ∃ ss : List (List Int), ss.length = k ∧ (∀ s ∈ ss, IsT b 1 s) ∧ xs = ss.flatten
  | 0, xs, h => ⟨[], rfl, by simp, by rw [h.zero]; rfl⟩
  | k + 1, xs, h => by
    obtain ⟨s, r, rfl, h1, h2⟩ := IsT.split (k := 1) (m := k) (by rw [Nat.add_comm]; exact h)
    obtain ⟨ss, rfl, h3, rfl⟩ := h2.parts
    exact ⟨s :: ss, rfl, by simpa using ⟨h1, h3⟩, rfl⟩
theorem argsF_starts {l : List S89} (hl : GoodL l) {t : List Int} : ∀ {ss : List (List Int)} {nx : Nat} {r : List Int}, (∀ s ∈ ss, Ter l s) → t.drop nx = ss.flatten ++ r → argsF l t ss.length nx = starts nx ss
  | [], _, _, _, _ => rfl
  | s :: ss, nx, r, hs, e => by
    rw [List.flatten_cons, List.append_assoc] at e
    have he := endN_of hl e (hs s (by simp))
    simp only [List.length_cons, argsF, starts]
    rw [he, argsF_starts hl (r := r) (fun x hx => hs x (by simp [hx]))]
    rw [← List.drop_drop, e]; simp
theorem starts_le : ∀ {ss : List (List Int)} {p x : Nat}, (∀ s ∈ ss, s ≠ []) → x ∈ starts p ss → p ≤ x ∧ x < p + ss.flatten.length
  | [], _, _, _, h => by simp [starts] at h
  | s :: ss, p, x, hs, h => by
    have h0 : 0 < s.length := List.length_pos_iff.2 (hs s (by simp))
    simp only [starts, List.mem_cons] at h
    rw [List.flatten_cons, List.length_append]
    rcases h with rfl | h
    · omega
    · have := starts_le (fun x hx => hs x (by simp [hx])) h; omega
theorem Ter.ne {l : List S89} {s : List Int} (h : Ter l s) : s ≠ [] := by rintro rfl; have := h.of_nil; omega
/-- What stands behind a place of a term: its arguments, one behind the other. -/
theorem Ter.args_at {l : List S89} {t : List Int} (h : Ter l t) {p : Nat} (hp : p < t.length) :
    ∃ (ss : List (List Int)) (r : List Int), t.drop (p + 1) = ss.flatten ++ r ∧ ss.length = an l (rd t p) ∧ (∀ s ∈ ss, Ter l s) ∧ Ter l (rd t p :: ss.flatten) := by
  obtain ⟨s, r, e, hs⟩ := h.at_ hp
  rw [drop_rd t p hp] at e
  cases s with
  | nil => exact absurd rfl hs.ne
  | cons n s =>
    simp only [List.cons_append, List.cons.injEq] at e
    obtain ⟨rfl, e⟩ := e
    obtain ⟨m, hm, h1⟩ := hs.uncons
    obtain rfl : m = 0 := by omega
    obtain ⟨ss, h2, h3, rfl⟩ := h1.parts
    exact ⟨ss, r, e, by omega, h3, hs⟩
theorem argsL_at {l : List S89} (hl : GoodL l) {t : List Int} {p : Nat} {ss : List (List Int)} {r : List Int} (e : t.drop (p + 1) = ss.flatten ++ r) (hn : ss.length = an l (rd t p)) (hs : ∀ s ∈ ss, Ter l s) : argsL l t p = starts (p + 1) ss := by
  unfold argsL
  rw [← argsF_starts hl hs e, hn]; rfl
theorem argsL_le {l : List S89} (hl : GoodL l) {t : List Int} (h : Ter l t) {p : Nat} (hp : p < t.length) : ∀ x ∈ argsL l t p, p < x ∧ x < t.length := by
  obtain ⟨ss, r, e, hn, hs, _⟩ := h.args_at hp
  rw [argsL_at hl e hn hs]
  intro x hx
  have h1 := starts_le (fun s h => (hs s h).ne) hx
  have := congrArg List.length e
  simp at this
  rw [List.length_flatten] at h1
  omega
end Go.Proofs.Ytadjoaipmcbieaa

/-! S5 -/
namespace Go.Proofs.Ytadjoaipmcbieaa
open Go.RowKit Go.Proofs.YtadjoaipmcbieaaW.PrintWords Go.Proofs.YtadjoaipmcbieaaW.PrintLast Go.Proofs.YtadjoaipmcbieaaW.PrintMore A
/-- The place to which a path leads from a place. -/
def fromL (l : List S89) (t : List Int) : List Int → Nat → Option Nat
  | [], p => some p
  | k :: r, p => if k < 0 then none else if ((argsL l t p).length : Int) ≤ k then none else fromL l t r ((argsL l t p).getD k.toNat 0)
theorem fromL_step {l : List S89} {t path : List Int} {j p : Nat} (h : j < path.length) :
    fromL l t (path.drop j) p = if rd path j < 0 then none else if ((argsL l t p).length : Int) ≤ rd path j then none else fromL l t (path.drop (j + 1)) ((argsL l t p).getD (rd path j).toNat 0) := by
  rw [drop_rd path j h, fromL]
theorem fromL_end {l : List S89} {t path : List Int} {j p : Nat} (h : path.length ≤ j) : fromL l t (path.drop j) p = some p := by
  rw [List.drop_eq_nil_of_le h, fromL]
theorem rd_toI (xs : List Nat) (i : Int) (h : i.toNat < xs.length) : rd (toI xs) i = (xs.getD i.toNat 0 : Nat) := by
  simp [rd, toI, List.getD_eq_getElem?_getD, List.getElem?_eq_getElem h]
/-- What Place tells: the place and the error. -/
def placeV : Option Nat → Value
  | none => .tuple #[.int .i64 0, .int .i64 25]
  | some p => .tuple #[.int .i64 p, .int .i64 0]
set_option maxHeartbeats 1000000 in
theorem Place_ok (g : Nat) (l : List S89) (A B : Option Addr) (c d : Nat) (t path : List Int) (w : World) (hs : SigC w g l) (hl : GoodL l)
    (ht : Kd.C (Kd.int .i64) w A t.length t) (hpath : Kd.C (Kd.int .i64) w B path.length path) (hp : chk l t = 0) :
    Calls Try.prog 34 #[.pointer (some ⟨g, 0, none⟩), .slice A t.length c, .slice B path.length d] w fun e w' => e = .returned (placeV (fromL l t path 0)) ∧ Below w.heap.size w w' := by
  have h2 := chk_len hp
  have hT := chk_ter hl hp
  have hpos := hT.pos
  have e1 : (chk l t != 0) = false := bne_eq_false_iff_eq.2 hp
  have hR : fromL l t path 0 = fromL l t (path.drop 0) 0 := rfl
  generalize fromL l t path 0 = R at hR ⊢
  have hm := hpath.2.1
  have HS := Aside0.mk hs
  have HT := Aside0.mk ht
  have HP := Aside0.mk hpath
  have HV : Aside0 (∀ p, p < t.length → ∀ x ∈ argsL l t p, p < x ∧ x < t.length) := ⟨fun p hp => argsL_le hl hT hp⟩
  have HR := Aside0.mk hR.symm
  clear hs ht hpath hp hT hR
  go_enter Try.func34, Try.ntmps34
  go_wp2_with (go_at_call 38; refine (check_any g l A c t _ HS.out hl HT.out).mono ?_; rintro e w1 ⟨rfl, hb⟩)
  go_loopw [9, 21] (fun a i wr => ∃ (j p : Nat), a = .int .i64 p ∧ i = .int .i64 j ∧ j ≤ path.length ∧ p < t.length ∧ Aside0 (fromL l t (path.drop j) p = R) ∧ Aside0 (Below w.heap.size w wr)) (fun _ i _ => path.length - (intOf i).toNat)
  case atStart => exact ⟨0, 0, rfl, rfl, by omega, by omega, HR, ⟨hb⟩⟩
  case round =>
    clear HR e1
    obtain ⟨j, p, rfl, rfl, hj, hpt, HR, HB⟩ := hrel
    by_cases hlt : j < path.length
    · obtain ⟨bd, e, hc⟩ := int_at (Kd.C_below HP.out HB.out) j hlt
      cases e
      have hE := HR.out
      rw [fromL_step hlt] at hE
      have hval : ∀ x ∈ argsL l t p, x ≤ t.length := fun x hx => Nat.le_of_lt (HV.out p hpt x hx).2
      have HVL := Aside0.mk hval
      have HB1 := HB.out.size
      clear hval HR
      by_cases h3 : rd path j < 0
      · rw [if_pos h3] at hE
        have e2 : decide (rd path j < 0) = true := decide_eq_true h3
        have HE := Aside0.mk hE
        clear hE
        go_wp2_with (go_at_call 78; refine (args_any g l A c t p _ (HS.out.below HB.out) hl (Kd.C_below HT.out HB.out) h2 hpt HVL.out).mono ?_; rintro e w2 ⟨v, rfl, hR2, hb2⟩)
        go_ret2
        exact ⟨by rw [← HE.out]; rfl, below_then HB.out HB1 hb2⟩
      · rw [if_neg h3] at hE
        have e2 : decide (rd path j < 0) = false := decide_eq_false h3
        by_cases h4 : ((argsL l t p).length : Int) ≤ rd path j
        · rw [if_pos h4] at hE
          have e3 : decide (((toI (argsL l t p)).length : Int) ≤ rd path j) = true := decide_eq_true (by rw [toI_length]; exact h4)
          have HE := Aside0.mk hE
          clear hE h4
          go_wp2_with (go_at_call 78; refine (args_any g l A c t p _ (HS.out.below HB.out) hl (Kd.C_below HT.out HB.out) h2 hpt HVL.out).mono ?_; rintro e w2 ⟨v, rfl, hR2, hb2⟩; obtain ⟨A2, c2, rfl, hc2, hC2⟩ := Kd.R_reads hR2)
          go_ret2
          exact ⟨by rw [← HE.out]; rfl, below_then HB.out HB1 hb2⟩
        · rw [if_neg h4] at hE
          have hin : (rd path j).toNat < (argsL l t p).length := by omega
          have e3 : decide (((toI (argsL l t p)).length : Int) ≤ rd path j) = false := decide_eq_false (by rw [toI_length]; exact h4)
          have h5 : rd path j < (toI (argsL l t p)).length := by rw [toI_length]; omega
          have h6 : 0 ≤ rd path j := by omega
          have HE := Aside0.mk hE
          have HN := Aside0.mk (rd_toI (argsL l t p) (rd path j) hin)
          have hnew : (argsL l t p).getD (rd path j).toNat 0 < t.length := by
            rw [List.getD_eq_getElem?_getD, List.getElem?_eq_getElem hin]
            exact (HV.out p hpt _ (List.getElem_mem hin)).2
          have HW := Aside0.mk hnew
          clear hE h4 hin hnew
          go_wp2_with (go_at_call 78; refine (args_any g l A c t p _ (HS.out.below HB.out) hl (Kd.C_below HT.out HB.out) h2 hpt HVL.out).mono ?_; rintro e w2 ⟨v, rfl, hR2, hb2⟩; obtain ⟨A2, c2, rfl, hc2, hC2⟩ := Kd.R_reads hR2; obtain ⟨ad2, e2', hcell⟩ := Kd.at_int hC2 (rd path j) h6 h5; cases e2')
          go_roundw
          case rel => exact ⟨j + 1, _, by rw [HN.out], by go_num, by omega, HW.out, HE, ⟨below_then HB.out HB1 hb2⟩⟩
          case measure => simp [intOf]; omega
    · have hE := HR.out
      rw [fromL_end (by omega)] at hE
      have HE := Aside0.mk hE
      clear hE HR
      go_wp2
      go_ret2
      exact ⟨by rw [← HE.out]; rfl, HB.out⟩
end Go.Proofs.Ytadjoaipmcbieaa

/-! R0 -/
namespace Go.Proofs.Ytadjoaipmcbieaa
open Go.RowKit Go.Proofs.YtadjoaipmcbieaaW.PrintWords Go.Proofs.YtadjoaipmcbieaaW.PrintLast Go.Proofs.YtadjoaipmcbieaaW.PrintMore A
theorem wrap_suc (i n : Nat) (h : i < n) (hn : n ≤ 9223372036854775807) : wrap64 ((i : Int) + 1) = ((i + 1 : Nat) : Int) := by unfold wrap64; omega
theorem rd_nat (xs : List Int) (i : Nat) (h : i < xs.length) : rd xs i = xs[i] := by simp [rd, List.getD_eq_getElem?_getD, List.getElem?_eq_getElem h]
theorem same_l0 (l0 l1 : List Int) (hl : l0.length = l1.length) (hm : l0.length ≤ 9223372036854775807) : ∀ (n i k : Nat), i + n = l0.length → n < k →
    ropewalkref02_Same.l0 k l0 l1 i = some (decide (l0.drop i = l1.drop i))
  | 0, i, k + 1, h, _ => by
    simp only [ropewalkref02_Same.l0]; rw [if_neg (by omega), List.drop_eq_nil_of_le (by omega), List.drop_eq_nil_of_le (by omega)]; simp
  | n + 1, i, k + 1, h, hk => by
    have h0 : i < l0.length := by omega
    have h1 : i < l1.length := by omega
    simp only [ropewalkref02_Same.l0]
    rw [if_pos (by omega), if_pos (by omega), if_pos (by omega), rd_nat l0 i h0, rd_nat l1 i h1, wrap_suc i _ h0 hm, List.drop_eq_getElem_cons h0, List.drop_eq_getElem_cons h1]
    by_cases e : l0[i] = l1[i]
    · rw [if_pos e, same_l0 l0 l1 hl hm n (i + 1) k (by omega) (by omega)]; simp only [e, List.cons.injEq, true_and]
    · rw [if_neg e]; simp only [List.cons.injEq, e, false_and, decide_false]
theorem same_f (l0 l1 : List Int) (hm : l0.length ≤ 9223372036854775807) : ropewalkref02_Same.f (l0.length + 1) l0 l1 = some (decide (l0 = l1)) := by
  unfold ropewalkref02_Same.f
  by_cases h : l0.length = l1.length
  · rw [if_pos (by omega)]
    exact same_l0 l0 l1 h hm l0.length 0 _ (by omega) (by omega)
  · rw [if_neg (by omega), decide_eq_false (fun e => h (by rw [e]))]
theorem same_any (A0 : Option Addr) (c0 : Nat) (l0 : List Int) (A1 : Option Addr) (c1 : Nat) (l1 : List Int) (w : World) (hr0 : Kd.C (Kd.int .i64) w A0 l0.length l0) (hc0 : l0.length ≤ c0)
    (hr1 : Kd.C (Kd.int .i64) w A1 l1.length l1) (hc1 : l1.length ≤ c1) :
    Calls Try.prog 42 #[.slice A0 l0.length c0, .slice A1 l1.length c1] w fun e w' => e = .returned (.bool (decide (l0 = l1))) ∧ Drawn0 w w' :=
  ropewalkref02_Same.calls _ A0 c0 l0 A1 c1 l1 _ w hr0 hc0 hr1 hc1 (same_f l0 l1 hr0.2.1)
theorem same_n (A0 : Option Addr) (n0 c0 : Nat) (l0 : List Int) (A1 : Option Addr) (n1 c1 : Nat) (l1 : List Int) (w : World) (hr0 : Kd.C (Kd.int .i64) w A0 n0 l0) (hc0 : n0 ≤ c0)
    (hr1 : Kd.C (Kd.int .i64) w A1 n1 l1) (hc1 : n1 ≤ c1) :
    Calls Try.prog 42 #[.slice A0 n0 c0, .slice A1 n1 c1] w fun e w' => e = .returned (.bool (decide (l0 = l1))) ∧ Drawn0 w w' := by
  obtain rfl : l0.length = n0 := hr0.1
  obtain rfl : l1.length = n1 := hr1.1
  exact same_any A0 c0 l0 A1 c1 l1 w hr0 hc0 hr1 hc1
end Go.Proofs.Ytadjoaipmcbieaa

/-! GB -/
namespace Go.Proofs.Ytadjoaipmcbieaa.A
end Go.Proofs.Ytadjoaipmcbieaa.A

/-! GC -/
namespace Go.Proofs.Ytadjoaipmcbieaa.A
end Go.Proofs.Ytadjoaipmcbieaa.A

/-! Q0 -/
namespace Go.Proofs.Ytadjoaipmcbieaa
open Go.RowKit Go.Proofs.YtadjoaipmcbieaaW.PrintWords Go.Proofs.YtadjoaipmcbieaaW.PrintLast Go.Proofs.YtadjoaipmcbieaaW.PrintMore A
theorem wrap_id {x : Int} (h1 : -9223372036854775808 ≤ x) (h2 : x ≤ 9223372036854775807) : wrap64 x = x := by unfold wrap64; omega
end Go.Proofs.Ytadjoaipmcbieaa

/-! GD -/
namespace Go.Proofs.Ytadjoaipmcbieaa.A
open Go.RowKit Go.Proofs.YtadjoaipmcbieaaW.PrintWords Go.Proofs.YtadjoaipmcbieaaW.PrintLast Go.Proofs.YtadjoaipmcbieaaW.PrintMore
attribute [local go_sem] max2_int min2_int max_two min_two max_three min_three max_four min_four   -- for this text's walks alone
set_option linter.unusedVariables false
set_option linter.unusedSimpArgs false
mutual
def ropewalklaw02_apart.l0 : Nat → List Int → List Int → List Int → Bool → Int → Option (Bool)
  | 0, _, _, _, _, _ => none
  | k + 1, x0, x1, x2, x7, x8 => if x8 < (x0.length : Int) then (if 0 ≤ x8 then (ropewalklaw02_apart.l0 k (x0.set (x8 : Int).toNat (-55)) x1 x2 x7 (wrap64 (x8 + 1))) else (none)) else (ropewalklaw02_apart.l1 k x0 x1 x2 x7 0)
def ropewalklaw02_apart.l1 : Nat → List Int → List Int → List Int → Bool → Int → Option (Bool)
  | 0, _, _, _, _, _ => none
  | k + 1, x0, x1, x2, x7, x9 => if x9 < 9 then (if x0.length < 17592186044416 then (ropewalklaw02_apart.l1 k (x0 ++ [(-56)]) x1 x2 x7 (wrap64 (x9 + 1))) else (none)) else (if x7 = true then ((ropewalkref02_Same.f k x1 x2).bind fun t154 => (some t154)) else (some false))
end
def ropewalklaw02_apart.f (k : Nat) (l0 : List Int) (l1 : List Int) (l2 : List Int) : Option (Bool) := (ropewalkref02_Same.f k l0 l2).bind fun t149 => (ropewalklaw02_apart.l0 k l0 l1 l2 t149 0)
set_option maxHeartbeats 8000000 in
set_option maxRecDepth 100000 in
theorem ropewalklaw02_apart.calls (k : Nat) (P0_ : Nat → Prop) (u9000_ : Value) (l0 : List Int) (A1 : Option Addr) (c1 : Nat) (l1 : List Int) (A2 : Option Addr) (c2 : Nat) (l2 : List Int) (r : Bool) (w0 w : World) (hB : Below w0.heap.size w0 w) (ho0 : Kd.R (Kd.int .i64) 3 w w0.heap.size P0_ u9000_ l0) (hr1 : ∀ W_, Kept w W_ (fun k_ => P0_ k_) → Kd.C (Kd.int .i64) W_ A1 l1.length l1) (hc1 : l1.length ≤ c1) (hr2 : ∀ W_, Kept w W_ (fun k_ => P0_ k_) → Kd.C (Kd.int .i64) W_ A2 l2.length l2) (hc2 : l2.length ≤ c2) (h : ropewalklaw02_apart.f k l0 l1 l2 = some r) :
    Calls Try.prog 33 #[u9000_, .slice A1 l1.length c1, .slice A2 l2.length c2] w fun e w' => e = .returned (.bool r) ∧ Below w0.heap.size w0 w' ∧ Kept w w' (fun k_ => P0_ k_) := by
  have HO0 := Aside0.mk (show Kd.R (Kd.int .i64) 3 w w0.heap.size (fun k_ => (P0_ k_ ∨ w.heap.size ≤ k_)) u9000_ l0 from Kd.R_mono ho0 (fun k_ hk => (.inl hk)))
  have HR1 := Aside0.mk hr1
  have HC1 := Aside0.mk hc1
  clear hr1 hc1
  have HR2 := Aside0.mk hr2
  have HC2 := Aside0.mk hc2
  clear hr2 hc2
  have HK := Aside0.mk (Kept.refl w (fun k_ => P0_ k_))
  have HW0 := Aside0.mk hB.size
  have HB := Aside0.mk hB
  clear hB
  have H : ((ropewalkref02_Same.f k l0 l2).bind fun t149 => (ropewalklaw02_apart.l0 k l0 l1 l2 t149 0)) = some r := h
  clear h
  replace H := Option.bind_eq_some_iff.mp H
  obtain ⟨t149, A40, H⟩ := H
  replace H : (ropewalklaw02_apart.l0 k l0 l1 l2 t149 0) = some r := H
  have A4 := Aside0.mk A40
  clear A40
  have H' := Aside0.mk H
  clear H
  obtain ⟨Ao5, co5, eo5⟩ := Kd.R_slice HO0.out
  subst eo5
  go_enter Try.func33, Try.ntmps33
  go_wp2_with (first | ((with_reducible refine gate_callee (f := 42) rfl ?_); refine goesL_ (some 12) rfl rfl Try.func42 (by kernel_rfl) rfl #[.slice Ao5 l0.length co5, .slice A2 l2.length c2] rfl (by (try simp only [List.map_toArray, List.map_cons, List.map_nil]); first | done | rfl | (simp only [List.length_drop, List.length_take]; rfl)) ?_; (with_reducible refine (ropewalkref02_Same.calls k _ _ l0 _ _ l2 t149 _ ?side1 ?side2 ?side3 ?side4 A4.out).mono ?_); (case side1 => repeat (first | exact (Kd.R_reads' HO0.out).2.2 | (with_reducible refine Kd.C_alloc ?_ _) | (with_reducible refine Kd.C_drewN ?_ _) | (with_reducible refine Kd.C_drew ?_))); (case side2 => exact (Kd.R_reads' HO0.out).2.1); (case side3 => exact Kd.C_kept_now HR2.out (by repeat (first | (with_reducible first | exact HK.out | apply Kept.alloc | apply Kept.drewN | apply Kept.drew) | exact HK.out))); (case side4 => exact HC2.out); rintro e w' ⟨rfl, ⟨nd, rfl⟩⟩; refine ⟨_, rfl, ?_⟩))
  go_loopg [8] k (fun kq v8 w' => ∃ (x0_1 : List Int) (x8_1 : Int), v8 = .int .i64 x8_1 ∧ Aside0 (ropewalklaw02_apart.l0 kq x0_1 l1 l2 t149 x8_1 = some r) ∧ Aside0 (kq ≤ k) ∧ Aside0 (Kd.R (Kd.int .i64) 3 w' w0.heap.size (fun k_ => (P0_ k_ ∨ w.heap.size ≤ k_)) (.slice Ao5 l0.length co5) x0_1) ∧ Aside0 (Kept w w' (fun k_ => P0_ k_)) ∧ Aside0 (Below w0.heap.size w0 w'))
  case atStart => exact ⟨(l0), (0), (by first | rfl | (simp; done) | (simp [*]; done)), H', ⟨Nat.le_refl _⟩, ⟨by (with_reducible repeat (first | apply Kd.R_alloc | apply Kd.R_drewN | apply Kd.R_drew)); exact HO0.out⟩, ⟨by repeat (first | (with_reducible first | exact HK.out | apply Kept.alloc | apply Kept.drewN | apply Kept.drew) | exact HK.out)⟩, ⟨by repeat (first | (with_reducible first | exact HB.out | apply below_alloc | apply pw_below_drewN | apply below_drew1) | exact HB.out)⟩⟩
  case round =>
    clear H'
    try clear c1
    try clear c2
    try clear p2
    try clear c3
    try clear c4
    obtain ⟨x0_1, x8_1, rfl, HA, HK1, HO_0, HK, HB⟩ := hrel
    have hl0_1 := (Kd.R_reads' HO_0.out).1
    rw [hl0_1] at HO_0
    (try simp only [hl0_1])
    cases gk with
    | zero => exact absurd HA.out (by simp [ropewalklaw02_apart.l0])
    | succ k1 =>
      have H := HA.out
      clear HA
      simp only [ropewalklaw02_apart.l0] at H
      by_cases c6 : x8_1 < (x0_1.length : Int)
      · rw [if_pos c6] at H
        have c6b0 : decide (x8_1 < (x0_1.length : Int)) = true := decide_eq_true c6
        clear c6
        by_cases c7 : 0 ≤ x8_1
        · rw [if_pos c7] at H
          have c7b0 : decide (0 ≤ x8_1) = true := decide_eq_true c7
          clear c7
          obtain ⟨y150, hy150⟩ : ∃ y_ : List Int, y_ = (x0_1.set (x8_1 : Int).toNat (-55)) := ⟨_, rfl⟩
          replace H : (ropewalklaw02_apart.l0 k1 y150 l1 l2 t149 (wrap64 (x8_1 + 1))) = some r := by first | (rw [hy150]; with_reducible exact H) | (have H2_ := (Option.bind_some _ _).symm.trans H; rw [hy150]; with_reducible exact H2_) | (have H2_ := (Option.bind_some _ _).symm.trans H; with_reducible exact H2_) | with_reducible exact H | (rw [hy150]; exact H) | exact H
          have Ny150 := Aside0.mk hy150
          clear hy150
          have H' := Aside0.mk H
          clear H
          have p8 : 0 ≤ (x8_1 : Int) := of_decide_eq_true (by first | (with_reducible assumption) | assumption)
          have q8 : (x8_1 : Int) < ((x0_1.length : Int) : Int) := of_decide_eq_true (by first | (with_reducible assumption) | assumption)
          obtain ⟨go8, co8, eo8, gb8, gl8, cl8, HG8⟩ := Kd.R_form HO_0.out (by omega)
          (first | cases eo8 | (injection eo8 with ea_ en_ ec_; (first | subst ea_ | (injection ea_ with ea_; subst ea_)); subst ec_; clear en_))
          have GB8 := Aside0.mk gb8
          have GG8 := Aside0.mk HG8
          clear gb8 gl8 HG8
          have HMgo8 := Aside0.mk (show (P0_ go8 ∨ w.heap.size ≤ go8) from (HO_0.out.1 _ rfl))
          obtain ⟨hx8_0, hf8_0⟩ := Kd.R_celln 0 HO_0.out (x8_1 : Int) p8 q8
          replace p8 := eq_true p8
          replace q8 := eq_true q8
          have HP9 := Kd.R_putg HO_0.out (x8_1 : Int) (-55)
          go_wp2_with (first | ((with_reducible refine gate_store (t := 3) (p := 21) rfl ?_); refine store_event (t := 3) (p := 21) (v := ?vo_w10) (w1 := (wr.setCell ⟨go8, (x8_1 : Int).toNat, none⟩ (.int .i64 (-55)))) ?hg ?ho ?hn ?hr ?_; (case ho => rfl); (case hg => rfl); (case hn => rfl); (case hr => first | (go_simp; done) | (go_simp; rfl)); intro w10 hw; have hg : wr.grownBy w10 (some go8) := (by rw [hw]; exact HP9.2); have hp_ : Kd.R (Kd.int .i64) 3 w10 w0.heap.size (fun k_ => (P0_ k_ ∨ w.heap.size ≤ k_)) (.slice (some ⟨go8, 0, none⟩) x0_1.length co5) y150 := (by rw [hw, Ny150.out]; exact HP9.1); clear HP9; have n0_ := Aside0.mk (hp_); have n1_ := Aside0.mk ((by rw [hw]; exact below_set (HB.out) GB8.out : Below w0.heap.size w0 w10)); have n2_ := Aside0.mk (Kept.of_grown (S := (fun k_ => P0_ k_)) hg (by repeat (first | (with_reducible first | exact HK.out | apply Kept.alloc | apply Kept.drewN | apply Kept.drew) | exact HK.out)) (fun k_ e_ => (HO_0.out.1 k_ e_))); clear HO_0; clear HB; clear HK; have HO_0 := n0_; have HB := n1_; have HK := n2_; clear n0_ n1_ n2_; clear hg hw hp_))
          (try simp only [← hl0_1])
          go_roundg k1
          case measure => have := HK1.out; omega
          case rel => exact ⟨(y150), (wrap64 (x8_1 + 1)), (by first | rfl | (simp; done) | (simp [*]; done)), H', ⟨by have := HK1.out; omega⟩, ⟨by (try simp only [hl0_1]); (with_reducible repeat (first | apply Kd.R_alloc | apply Kd.R_drewN | apply Kd.R_drew)); exact HO_0.out⟩, ⟨by repeat (first | (with_reducible first | exact HK.out | apply Kept.alloc | apply Kept.drewN | apply Kept.drew) | exact HK.out)⟩, ⟨by repeat (first | (with_reducible first | exact HB.out | apply below_alloc | apply pw_below_drewN | apply below_drew1) | exact HB.out)⟩⟩
        · rw [if_neg c7] at H
          exact absurd H (by simp)
      · rw [if_neg c6] at H
        have c6b0 : decide (x8_1 < (x0_1.length : Int)) = false := decide_eq_false c6
        clear c6
        have H' := Aside0.mk H
        clear H
        go_wp2
        go_loopg [0, 9] k1 (fun kq v0 v9 w' => ∃ (x0_2 : List Int) (x9_2 : Int), v9 = .int .i64 x9_2 ∧ Aside0 (ropewalklaw02_apart.l1 kq x0_2 l1 l2 t149 x9_2 = some r) ∧ Aside0 (kq ≤ k1) ∧ Aside0 (Kd.R (Kd.int .i64) 3 w' w0.heap.size (fun k_ => (P0_ k_ ∨ w.heap.size ≤ k_)) v0 x0_2) ∧ Aside0 (Kept w w' (fun k_ => P0_ k_)) ∧ Aside0 (Below w0.heap.size w0 w'))
        case atStart => exact ⟨(x0_1), (0), (by first | rfl | (simp; done) | (simp [*]; done)), H', ⟨Nat.le_refl _⟩, ⟨by (try simp only [hl0_1]); (with_reducible repeat (first | apply Kd.R_alloc | apply Kd.R_drewN | apply Kd.R_drew)); exact HO_0.out⟩, ⟨by repeat (first | (with_reducible first | exact HK.out | apply Kept.alloc | apply Kept.drewN | apply Kept.drew) | exact HK.out)⟩, ⟨by repeat (first | (with_reducible first | exact HB.out | apply below_alloc | apply pw_below_drewN | apply below_drew1) | exact HB.out)⟩⟩
        case round =>
          clear H'
          try clear c1
          try clear c2
          try clear p2
          try clear c3
          try clear c4
          try clear c6
          try clear c6b0
          try clear p6
          try clear c7
          try clear c7b0
          try clear p8
          try clear q8
          try clear hx8
          try clear hf8
          try clear hx8_0
          try clear p2
          try clear p8
          try clear q8
          obtain ⟨x0_2, x9_2, rfl, HA, HK2, HO_0, HK, HB⟩ := hrel
          cases gk with
          | zero => exact absurd HA.out (by simp [ropewalklaw02_apart.l1])
          | succ k2 =>
            have H := HA.out
            clear HA
            simp only [ropewalklaw02_apart.l1] at H
            by_cases c11 : x9_2 < 9
            · rw [if_pos c11] at H
              have c11b0 : decide (x9_2 < 9) = true := decide_eq_true c11
              clear c11
              by_cases c12 : x0_2.length < 17592186044416
              · rw [if_pos c12] at H
                have LMc12 := Aside0.mk c12
                clear c12
                obtain ⟨y151, hy151⟩ : ∃ y_ : List Int, y_ = (x0_2 ++ [(-56)]) := ⟨_, rfl⟩
                replace H : (ropewalklaw02_apart.l1 k2 y151 l1 l2 t149 (wrap64 (x9_2 + 1))) = some r := by first | (rw [hy151]; with_reducible exact H) | (have H2_ := (Option.bind_some _ _).symm.trans H; rw [hy151]; with_reducible exact H2_) | (have H2_ := (Option.bind_some _ _).symm.trans H; with_reducible exact H2_) | with_reducible exact H | (rw [hy151]; exact H) | exact H
                have Ny151 := Aside0.mk hy151
                clear hy151
                have H' := Aside0.mk H
                clear H
                go_wp2_with (first | ((with_reducible refine gate_builtin (b := .append) (xs := #[.tmp 26, .tmp 27]) rfl ?_); at_builtin; refine Kd.R_append (Kd.int .i64) (w0 := w0) w0.heap.size rfl (.tmp 26) (.tmp 27) 24 3 (.int .i64 0) 8 rfl Try.underlying24 info3 rfl (by decide) (by omega) u0 x0_2 (-56) [.int .i64 (-56)] (fun k_ => (P0_ k_ ∨ w.heap.size ≤ k_)) (fun _ => False) rfl rfl ?aP (fun _ hk => hk.elim) ?aF ?aO ?aB ?aS ?aL ?_; (case aP => exact rfl); (case aB => exact (by repeat (first | (with_reducible first | exact HB.out | apply below_alloc | apply pw_below_drewN | apply below_drew1) | exact HB.out))); (case aF => exact (fun k_ hk => (.inr (Nat.le_trans (by first | exact HK.out.1 | exact (show Kept w _ (fun k_ => P0_ k_) from by repeat (first | (with_reducible first | exact HK.out | apply Kept.alloc | apply Kept.drewN | apply Kept.drew) | exact HK.out)).1) hk)))); (case aO => exact (by (with_reducible repeat (first | apply Kd.R_alloc | apply Kd.R_drewN | apply Kd.R_drew)); exact HO_0.out)); (case aS => exact (below_size (by repeat (first | (with_reducible first | exact HB.out | apply below_alloc | apply pw_below_drewN | apply below_drew1) | exact HB.out)))); (case aL => have := LMc12.out; omega); intro v152 w13 ho hb hg hat; rw [← Ny151.out] at ho; have n0_ := Aside0.mk (hb); have n1_ := Aside0.mk (Kept.of_grown (S := (fun k_ => P0_ k_)) hg (by repeat (first | (with_reducible first | exact HK.out | apply Kept.alloc | apply Kept.drewN | apply Kept.drew) | exact HK.out)) (fun k_ e_ => (HO_0.out.1 k_ e_))); have n2_ := Aside0.mk (ho); clear HB; clear HK; clear HO_0; have HB := n0_; have HK := n1_; have HO153 := n2_; clear n0_ n1_ n2_; clear ho hb hg hat))
                go_roundg k2
                case measure => have := HK1.out; have := HK2.out; omega
                case rel => exact ⟨(y151), (wrap64 (x9_2 + 1)), (by first | rfl | (simp; done) | (simp [*]; done)), H', ⟨by have := HK1.out; have := HK2.out; omega⟩, ⟨by (try simp only [hl0_1]); (with_reducible repeat (first | apply Kd.R_alloc | apply Kd.R_drewN | apply Kd.R_drew)); exact HO153.out⟩, ⟨by repeat (first | (with_reducible first | exact HK.out | apply Kept.alloc | apply Kept.drewN | apply Kept.drew) | exact HK.out)⟩, ⟨by repeat (first | (with_reducible first | exact HB.out | apply below_alloc | apply pw_below_drewN | apply below_drew1) | exact HB.out)⟩⟩
              · rw [if_neg c12] at H
                exact absurd H (by simp)
            · rw [if_neg c11] at H
              have c11b0 : decide (x9_2 < 9) = false := decide_eq_false c11
              clear c11
              by_cases c14 : t149 = true
              · subst c14
                have H1 : ((ropewalkref02_Same.f k2 l1 l2).bind fun t154 => (some t154)) = some r := by rw [if_pos rfl] at H; exact H
                clear H
                have H := H1
                clear H1
                replace H := Option.bind_eq_some_iff.mp H
                obtain ⟨t154, A150, H⟩ := H
                replace H : (some t154) = some r := H
                have A15 := Aside0.mk A150
                clear A150
                obtain rfl := Option.some.inj H
                go_wp2_with (first | (go_at_call 42; (with_reducible refine (ropewalkref02_Same.calls k2 _ _ l1 _ _ l2 t154 _ ?side1 ?side2 ?side3 ?side4 A15.out).mono ?_); (case side1 => exact Kd.C_kept_now HR1.out (by repeat (first | (with_reducible first | exact HK.out | apply Kept.alloc | apply Kept.drewN | apply Kept.drew) | exact HK.out))); (case side2 => exact HC1.out); (case side3 => exact Kd.C_kept_now HR2.out (by repeat (first | (with_reducible first | exact HK.out | apply Kept.alloc | apply Kept.drewN | apply Kept.drew) | exact HK.out))); (case side4 => exact HC2.out); rintro e w' ⟨rfl, ⟨nd, rfl⟩⟩))
                go_ret
                exact ⟨by first | rfl | (simp [errW_none, errW_some] <;> rfl) | (simp [*, errW_none, errW_some] <;> rfl), by repeat (first | (with_reducible first | exact HB.out | apply below_alloc | apply pw_below_drewN | apply below_drew1) | exact HB.out), by repeat (first | (with_reducible first | exact HK.out | apply Kept.alloc | apply Kept.drewN | apply Kept.drew) | exact HK.out)⟩
              · replace c14 := Bool.eq_false_iff.mpr c14
                subst c14
                have H1 : (some false) = some r := by rw [if_neg (show ¬ (false = true) by decide)] at H; exact H
                clear H
                have H := H1
                clear H1
                obtain rfl := Option.some.inj H
                go_wp2
                go_ret
                exact ⟨by first | rfl | (simp [errW_none, errW_some] <;> rfl) | (simp [*, errW_none, errW_some] <;> rfl), by repeat (first | (with_reducible first | exact HB.out | apply below_alloc | apply pw_below_drewN | apply below_drew1) | exact HB.out), by repeat (first | (with_reducible first | exact HK.out | apply Kept.alloc | apply Kept.drewN | apply Kept.drew) | exact HK.out)⟩
end Go.Proofs.Ytadjoaipmcbieaa.A

/-! Q2 -/
namespace Go.Proofs.Ytadjoaipmcbieaa
open Go.RowKit Go.Proofs.YtadjoaipmcbieaaW.PrintWords Go.Proofs.YtadjoaipmcbieaaW.PrintLast Go.Proofs.YtadjoaipmcbieaaW.PrintMore A
theorem rsame_self (l : List Int) (hl : l.length ≤ 9223372036854775807) {k : Nat} (hk : l.length < k) : ropewalkref02_Same.f k l l = some true := by
  unfold ropewalkref02_Same.f
  rw [if_pos rfl, show (0 : Int) = ((0 : Nat) : Int) from rfl, same_l0 l l rfl hl l.length 0 k (by omega) hk]
  simp
theorem rapart_l1 (l : List Int) (hl : l.length ≤ 100000) : ∀ (n i k : Nat) (x : List Int), i + n = 9 → n + l.length + 1 < k → x.length + n ≤ 100010 → ropewalklaw02_apart.l1 k x l l true i = some true
  | 0, i, k + 1, x, h, hk, hx => by
    simp only [ropewalklaw02_apart.l1]
    rw [if_neg (by omega), if_pos trivial, rsame_self l (by omega) (by omega)]; rfl
  | n + 1, i, k + 1, x, h, hk, hx => by
    simp only [ropewalklaw02_apart.l1]
    rw [if_pos (by omega), if_pos (by omega), wrap_id (by omega) (by omega), show (i : Int) + 1 = ((i + 1 : Nat) : Int) by omega]
    exact rapart_l1 l hl n (i + 1) k _ (by omega) (by omega) (by simp; omega)
theorem rapart_l0 (l : List Int) (hl : l.length ≤ 100000) : ∀ (n i k : Nat) (x : List Int), i + n = x.length → n + l.length + 12 < k → x.length ≤ 100000 → ropewalklaw02_apart.l0 k x l l true i = some true
  | 0, i, k + 1, x, h, hk, hx => by
    simp only [ropewalklaw02_apart.l0]
    rw [if_neg (by omega), show (0 : Int) = ((0 : Nat) : Int) from rfl]
    exact rapart_l1 l hl 9 0 k x (by omega) (by omega) (by omega)
  | n + 1, i, k + 1, x, h, hk, hx => by
    simp only [ropewalklaw02_apart.l0]
    rw [if_pos (by omega), if_pos (by omega), wrap_id (by omega) (by omega), show (i : Int) + 1 = ((i + 1 : Nat) : Int) by omega]
    exact rapart_l0 l hl n (i + 1) k _ (by simp; omega) (by omega) (by simpa using hx)
theorem rapart (l : List Int) (hl : l.length ≤ 100000) {k : Nat} (hk : 2 * l.length + 12 < k) : ropewalklaw02_apart.f k l l l = some true := by
  unfold ropewalklaw02_apart.f
  rw [rsame_self l (by omega) (by omega), Option.bind_some, show (0 : Int) = ((0 : Nat) : Int) from rfl]
  exact rapart_l0 l hl l.length 0 k l (by omega) (by omega) hl
theorem apart_any (w0 w : World) (hB : Below w0.heap.size w0 w) (l : List Int) (hl : l.length ≤ 100000) (va vb vc : Value) (bb bc : Nat) (ob oc : Nat → Prop) (ha : Kd.R (Kd.int .i64) 3 w w0.heap.size (fun _ => True) va l)
    (hb : Kd.R (Kd.int .i64) 3 w bb ob vb l) (hob : ∀ k, ob k → some k ≠ va.ownBlock) (hc : Kd.R (Kd.int .i64) 3 w bc oc vc l) (hoc : ∀ k, oc k → some k ≠ va.ownBlock) :
    Calls Try.prog 33 #[va, vb, vc] w fun e w' => e = .returned (.bool true) ∧ Below w0.heap.size w0 w' ∧ Kept w w' (fun k => some k = va.ownBlock) := by
  obtain ⟨A1, c1, rfl, hc1, _⟩ := Kd.R_reads hb
  obtain ⟨A2, c2, rfl, hc2, _⟩ := Kd.R_reads hc
  exact ropewalklaw02_apart.calls _ _ va l A1 c1 l A2 c2 l true w0 w hB (Kd.R_tight rfl ha) (Kd.C_kept_own hb (fun k hk h => hob k hk h)) hc1 (Kd.C_kept_own hc (fun k hk h => hoc k hk h)) hc2 (rapart l hl (Nat.lt_succ_self _))
end Go.Proofs.Ytadjoaipmcbieaa

/-! GI -/
namespace Go.Proofs.Ytadjoaipmcbieaa.A
open Go.RowKit Go.Proofs.YtadjoaipmcbieaaW.PrintWords Go.Proofs.YtadjoaipmcbieaaW.PrintLast Go.Proofs.YtadjoaipmcbieaaW.PrintMore
attribute [local go_sem] max2_int min2_int max_two min_two max_three min_three max_four min_four   -- for this text's walks alone
set_option linter.unusedVariables false
set_option linter.unusedSimpArgs false
def ropewalkref02_IsVariable.f (a0 : Int) : Option (Bool) := if a0 < 0 then (some (decide (a0 ≥ (-99)))) else (some false)
set_option maxHeartbeats 8000000 in
set_option maxRecDepth 100000 in
theorem ropewalkref02_IsVariable.calls (a0 : Int) (r : Bool) (w : World) (h : ropewalkref02_IsVariable.f a0 = some r) :
    Calls Try.prog 84 #[.int .i64 a0] w fun e w' => e = .returned (.bool r) ∧ Drawn0 w w' := by
  have H : (if a0 < 0 then (some (decide (a0 ≥ (-99)))) else (some false)) = some r := h
  clear h
  by_cases c2 : a0 < 0
  · rw [if_pos c2] at H
    have c2b0 : decide (a0 < 0) = true := decide_eq_true c2
    clear c2
    obtain rfl := Option.some.inj H
    go_enter Try.func84, Try.ntmps84
    go_wp2
    go_ret
    exact ⟨by first | rfl | (simp; done) | (simp [*]; done), by repeat (first | exact Drawn0.refl _ | apply Drawn0.step)⟩
  · rw [if_neg c2] at H
    have c2b0 : decide (a0 < 0) = false := decide_eq_false c2
    clear c2
    obtain rfl := Option.some.inj H
    go_enter Try.func84, Try.ntmps84
    go_wp2
    go_ret
    exact ⟨by first | rfl | (simp; done) | (simp [*]; done), by repeat (first | exact Drawn0.refl _ | apply Drawn0.step)⟩
def ropewalkref02_In.l0 : Nat → List Int → Int → Int → Option (Bool)
  | 0, _, _, _ => none
  | k + 1, x0, x1, x5 => if x5 < (x0.length : Int) then (if 0 ≤ x5 then (if (rd x0 x5) = x1 then (some true) else (ropewalkref02_In.l0 k x0 x1 (wrap64 (x5 + 1)))) else (none)) else (some false)
def ropewalkref02_In.f (k : Nat) (l0 : List Int) (a1 : Int) : Option (Bool) := ropewalkref02_In.l0 k l0 a1 0
set_option maxHeartbeats 8000000 in
set_option maxRecDepth 100000 in
theorem ropewalkref02_In.calls (k : Nat) (A0 : Option Addr) (c0 : Nat) (l0 : List Int) (a1 : Int) (r : Bool) (w : World) (hr0 : Kd.C (Kd.int .i64) w A0 l0.length l0) (hc0 : l0.length ≤ c0) (h : ropewalkref02_In.f k l0 a1 = some r) :
    Calls Try.prog 85 #[.slice A0 l0.length c0, .int .i64 a1] w fun e w' => e = .returned (.bool r) ∧ Drawn0 w w' := by
  have HR0 := Aside0.mk hr0
  have HC0 := Aside0.mk hc0
  clear hr0 hc0
  have H : (ropewalkref02_In.l0 k l0 a1 0) = some r := h
  clear h
  have H' := Aside0.mk H
  clear H
  go_enter Try.func85, Try.ntmps85
  go_wp2
  go_loopg [5] k (fun kq v5 w' => ∃ (x5_1 : Int), v5 = .int .i64 x5_1 ∧ Aside0 (ropewalkref02_In.l0 kq l0 a1 x5_1 = some r) ∧ Aside0 (kq ≤ k) ∧ Drawn0 w w')
  case atStart => exact ⟨(0), (by first | rfl | (simp; done) | (simp [*]; done)), H', ⟨Nat.le_refl _⟩, by repeat (first | exact Drawn0.refl _ | apply Drawn0.step)⟩
  case round =>
    clear H'
    try clear p2
    obtain ⟨x5_1, rfl, HA, HK1, ⟨m1, rfl⟩⟩ := hrel
    cases gk with
    | zero => exact absurd HA.out (by simp [ropewalkref02_In.l0])
    | succ k1 =>
      have H := HA.out
      clear HA
      simp only [ropewalkref02_In.l0] at H
      by_cases c3 : x5_1 < (l0.length : Int)
      · rw [if_pos c3] at H
        have c3b0 : decide (x5_1 < (l0.length : Int)) = true := decide_eq_true c3
        clear c3
        by_cases c4 : 0 ≤ x5_1
        · rw [if_pos c4] at H
          have c4b0 : decide (0 ≤ x5_1) = true := decide_eq_true c4
          clear c4
          by_cases c5 : (rd l0 x5_1) = a1
          · rw [if_pos c5] at H
            have c5b0 : ((rd l0 x5_1) == a1) = true := beq_iff_eq.mpr c5
            have c5b1 : ((rd l0 x5_1) != a1) = false := bne_eq_false_iff_eq.mpr c5
            clear c5
            obtain rfl := Option.some.inj H
            have p203 : 0 ≤ (x5_1 : Int) := of_decide_eq_true (by first | (with_reducible assumption) | assumption)
            have q203 : x5_1 < (l0.length : Int) := of_decide_eq_true (by first | (with_reducible assumption) | assumption)
            obtain ⟨ad203, e203, hx203_0⟩ := Kd.at_int HR0.out x5_1 p203 q203
            cases e203
            replace p203 := eq_true p203
            replace q203 := eq_true q203
            go_wp2
            go_ret
            exact ⟨by first | rfl | (simp; done) | (simp [*]; done), by repeat (first | exact Drawn0.refl _ | apply Drawn0.step)⟩
          · rw [if_neg c5] at H
            have c5b0 : ((rd l0 x5_1) == a1) = false := beq_eq_false_iff_ne.mpr c5
            have c5b1 : ((rd l0 x5_1) != a1) = true := bne_iff_ne.mpr c5
            have H' := Aside0.mk H
            clear H
            have p203 : 0 ≤ (x5_1 : Int) := of_decide_eq_true (by first | (with_reducible assumption) | assumption)
            have q203 : x5_1 < (l0.length : Int) := of_decide_eq_true (by first | (with_reducible assumption) | assumption)
            obtain ⟨ad203, e203, hx203_0⟩ := Kd.at_int HR0.out x5_1 p203 q203
            cases e203
            replace p203 := eq_true p203
            replace q203 := eq_true q203
            go_wp2
            go_roundg k1
            case measure => have := HK1.out; omega
            case rel => exact ⟨(wrap64 (x5_1 + 1)), (by first | rfl | (simp; done) | (simp [*]; done)), H', ⟨by have := HK1.out; omega⟩, by repeat (first | exact Drawn0.refl _ | apply Drawn0.step)⟩
        · rw [if_neg c4] at H
          exact absurd H (by simp)
      · rw [if_neg c3] at H
        have c3b0 : decide (x5_1 < (l0.length : Int)) = false := decide_eq_false c3
        clear c3
        obtain rfl := Option.some.inj H
        go_wp2
        go_ret
        exact ⟨by first | rfl | (simp; done) | (simp [*]; done), by repeat (first | exact Drawn0.refl _ | apply Drawn0.step)⟩
def ropewalkref02_Variables.l0 : Nat → List Int → List Int → Int → Option (List Int)
  | 0, _, _, _ => none
  | k + 1, x0, x3, x4 => if x4 < (x0.length : Int) then (if 0 ≤ x4 then ((ropewalkref02_IsVariable.f (rd x0 x4)).bind fun t205 => (if t205 = true then ((ropewalkref02_In.f k x3 (wrap64 (-(rd x0 x4)))).bind fun t207 => (if t207 = true then (ropewalkref02_Variables.l0 k x0 x3 (wrap64 (x4 + 1))) else (if x3.length < 17592186044416 then (ropewalkref02_Variables.l0 k x0 (x3 ++ [wrap64 (-(rd x0 x4))]) (wrap64 (x4 + 1))) else (none)))) else (ropewalkref02_Variables.l0 k x0 x3 (wrap64 (x4 + 1))))) else (none)) else (some x3)
def ropewalkref02_Variables.f (k : Nat) (l0 : List Int) : Option (List Int) := ropewalkref02_Variables.l0 k l0 ([] : List Int) 0
set_option maxHeartbeats 8000000 in
set_option maxRecDepth 100000 in
theorem ropewalkref02_Variables.calls (k : Nat) (A0 : Option Addr) (c0 : Nat) (l0 : List Int) (r : List Int) (w : World) (hr0 : Kd.C (Kd.int .i64) w A0 l0.length l0) (hc0 : l0.length ≤ c0) (h : ropewalkref02_Variables.f k l0 = some r) :
    Calls Try.prog 52 #[.slice A0 l0.length c0] w fun e w' => ∃ v0_ : Value, e = .returned (v0_) ∧ Kd.R (Kd.int .i64) 3 w' w.heap.size (fun _ => True) v0_ r ∧ Below w.heap.size w w' := by
  have HR0 := Aside0.mk hr0
  have HC0 := Aside0.mk hc0
  clear hr0 hc0
  have HB := Aside0.mk (Below.refl w.heap.size w)
  have H : (ropewalkref02_Variables.l0 k l0 ([] : List Int) 0) = some r := h
  clear h
  have H' := Aside0.mk H
  clear H
  go_enter Try.func52, Try.ntmps52
  go_wp2
  go_loopg [3, 4] k (fun kq v3 v4 w' => ∃ (x3_1 : List Int) (x4_1 : Int), v4 = .int .i64 x4_1 ∧ Aside0 (ropewalkref02_Variables.l0 kq l0 x3_1 x4_1 = some r) ∧ Aside0 (kq ≤ k) ∧ Aside0 (Kd.R (Kd.int .i64) 3 w' w.heap.size (fun _ => True) v3 x3_1) ∧ Aside0 (Below w.heap.size w w'))
  case atStart => exact ⟨(([] : List Int)), (0), (by first | rfl | (simp; done) | (simp [*]; done)), H', ⟨Nat.le_refl _⟩, ⟨by first | exact Kd.R_nil _ _ _ _ _ | exact Kd.N_nil _ _ _ _ _ | exact Kd.V_nil _ _ _ _ _ | exact Kd.Q_nil _ _ _ _ _ | exact Kd.S_nil _ _ _ _ _⟩, ⟨by repeat (first | (with_reducible first | exact HB.out | apply below_alloc | apply pw_below_drewN | apply below_drew1) | exact HB.out)⟩⟩
  case round =>
    clear H'
    obtain ⟨x3_1, x4_1, rfl, HA, HK1, HO_3, HB⟩ := hrel
    cases gk with
    | zero => exact absurd HA.out (by simp [ropewalkref02_Variables.l0])
    | succ k1 =>
      have H := HA.out
      clear HA
      simp only [ropewalkref02_Variables.l0] at H
      by_cases c2 : x4_1 < (l0.length : Int)
      · rw [if_pos c2] at H
        have c2b0 : decide (x4_1 < (l0.length : Int)) = true := decide_eq_true c2
        clear c2
        by_cases c3 : 0 ≤ x4_1
        · rw [if_pos c3] at H
          have c3b0 : decide (0 ≤ x4_1) = true := decide_eq_true c3
          clear c3
          replace H := Option.bind_eq_some_iff.mp H
          obtain ⟨t205, A40, H⟩ := H
          replace H : (if t205 = true then ((ropewalkref02_In.f k1 x3_1 (wrap64 (-(rd l0 x4_1)))).bind fun t207 => (if t207 = true then (ropewalkref02_Variables.l0 k1 l0 x3_1 (wrap64 (x4_1 + 1))) else (if x3_1.length < 17592186044416 then (ropewalkref02_Variables.l0 k1 l0 (x3_1 ++ [wrap64 (-(rd l0 x4_1))]) (wrap64 (x4_1 + 1))) else (none)))) else (ropewalkref02_Variables.l0 k1 l0 x3_1 (wrap64 (x4_1 + 1)))) = some r := H
          have A4 := Aside0.mk A40
          clear A40
          by_cases c5 : t205 = true
          · subst c5
            have H1 : ((ropewalkref02_In.f k1 x3_1 (wrap64 (-(rd l0 x4_1)))).bind fun t207 => (if t207 = true then (ropewalkref02_Variables.l0 k1 l0 x3_1 (wrap64 (x4_1 + 1))) else (if x3_1.length < 17592186044416 then (ropewalkref02_Variables.l0 k1 l0 (x3_1 ++ [wrap64 (-(rd l0 x4_1))]) (wrap64 (x4_1 + 1))) else (none)))) = some r := by rw [if_pos rfl] at H; exact H
            clear H
            have H := H1
            clear H1
            replace H := Option.bind_eq_some_iff.mp H
            obtain ⟨t207, A60, H⟩ := H
            replace H : (if t207 = true then (ropewalkref02_Variables.l0 k1 l0 x3_1 (wrap64 (x4_1 + 1))) else (if x3_1.length < 17592186044416 then (ropewalkref02_Variables.l0 k1 l0 (x3_1 ++ [wrap64 (-(rd l0 x4_1))]) (wrap64 (x4_1 + 1))) else (none))) = some r := H
            have A6 := Aside0.mk A60
            clear A60
            by_cases c7 : t207 = true
            · subst c7
              have H1 : (ropewalkref02_Variables.l0 k1 l0 x3_1 (wrap64 (x4_1 + 1))) = some r := by rw [if_pos rfl] at H; exact H
              clear H
              have H := H1
              clear H1
              have H' := Aside0.mk H
              clear H
              have p204 : 0 ≤ (x4_1 : Int) := of_decide_eq_true (by first | (with_reducible assumption) | assumption)
              have q204 : x4_1 < (l0.length : Int) := of_decide_eq_true (by first | (with_reducible assumption) | assumption)
              obtain ⟨ad204, e204, hx204_0⟩ := Kd.at_int HR0.out x4_1 p204 q204
              cases e204
              replace hx204_0 := (HB.out.cell (World.block_lt_of_cell? w _ hx204_0)).trans hx204_0
              replace p204 := eq_true p204
              replace q204 := eq_true q204
              go_wp2_with (first | ((with_reducible refine gate_callee (f := 84) rfl ?_); refine goesL_ (some 17) rfl rfl Try.func84 (by kernel_rfl) rfl #[.int .i64 (rd l0 x4_1)] rfl (by (try simp only [List.map_toArray, List.map_cons, List.map_nil]); first | done | rfl | (simp only [List.length_drop, List.length_take]; rfl)) ?_; (with_reducible refine (ropewalkref02_IsVariable.calls (rd l0 x4_1) true _ A4.out).mono ?_); rintro e w' ⟨rfl, ⟨nd, rfl⟩⟩; refine ⟨_, rfl, ?_⟩; have p206 : 0 ≤ (x4_1 : Int) := of_decide_eq_true (by first | (with_reducible assumption) | assumption); have q206 : x4_1 < (l0.length : Int) := of_decide_eq_true (by first | (with_reducible assumption) | assumption); obtain ⟨ad206, e206, hx206_0⟩ := Kd.at_int HR0.out x4_1 p206 q206; obtain rfl : ad204 = ad206 := (by injection e206); replace hx206_0 := (HB.out.cell (World.block_lt_of_cell? w _ hx206_0)).trans hx206_0; replace p206 := eq_true p206; replace q206 := eq_true q206; obtain ⟨Ao8, co8, eo8⟩ := Kd.R_slice HO_3.out; subst eo8) | ((with_reducible refine gate_callee (f := 85) rfl ?_); refine goesL_ (some 26) rfl rfl Try.func85 (by kernel_rfl) rfl #[.slice Ao8 x3_1.length co8, .int .i64 (wrap64 (-(rd l0 x4_1)))] rfl (by (try simp only [List.map_toArray, List.map_cons, List.map_nil]); first | done | rfl | (simp only [List.length_drop, List.length_take]; rfl)) ?_; (with_reducible refine (ropewalkref02_In.calls k1 _ _ x3_1 (wrap64 (-(rd l0 x4_1))) true _ ?side1 ?side2 A6.out).mono ?_); (case side1 => repeat (first | exact (Kd.R_reads' HO_3.out).2.2 | (with_reducible refine Kd.C_alloc ?_ _) | (with_reducible refine Kd.C_drewN ?_ _) | (with_reducible refine Kd.C_drew ?_))); (case side2 => exact (Kd.R_reads' HO_3.out).2.1); rintro e w' ⟨rfl, ⟨nd, rfl⟩⟩; refine ⟨_, rfl, ?_⟩))
              go_roundg k1
              case measure => have := HK1.out; omega
              case rel => exact ⟨(x3_1), (wrap64 (x4_1 + 1)), (by first | rfl | (simp; done) | (simp [*]; done)), H', ⟨by have := HK1.out; omega⟩, ⟨by (with_reducible repeat (first | apply Kd.R_alloc | apply Kd.R_drewN | apply Kd.R_drew)); exact HO_3.out⟩, ⟨by repeat (first | (with_reducible first | exact HB.out | apply below_alloc | apply pw_below_drewN | apply below_drew1) | exact HB.out)⟩⟩
            · replace c7 := Bool.eq_false_iff.mpr c7
              subst c7
              have H1 : (if x3_1.length < 17592186044416 then (ropewalkref02_Variables.l0 k1 l0 (x3_1 ++ [wrap64 (-(rd l0 x4_1))]) (wrap64 (x4_1 + 1))) else (none)) = some r := by rw [if_neg (show ¬ (false = true) by decide)] at H; exact H
              clear H
              have H := H1
              clear H1
              by_cases c9 : x3_1.length < 17592186044416
              · rw [if_pos c9] at H
                have LMc9 := Aside0.mk c9
                clear c9
                obtain ⟨y209, hy209⟩ : ∃ y_ : List Int, y_ = (x3_1 ++ [wrap64 (-(rd l0 x4_1))]) := ⟨_, rfl⟩
                replace H : (ropewalkref02_Variables.l0 k1 l0 y209 (wrap64 (x4_1 + 1))) = some r := by first | (rw [hy209]; with_reducible exact H) | (have H2_ := (Option.bind_some _ _).symm.trans H; rw [hy209]; with_reducible exact H2_) | (have H2_ := (Option.bind_some _ _).symm.trans H; with_reducible exact H2_) | with_reducible exact H | (rw [hy209]; exact H) | exact H
                have Ny209 := Aside0.mk hy209
                clear hy209
                have H' := Aside0.mk H
                clear H
                have p204 : 0 ≤ (x4_1 : Int) := of_decide_eq_true (by first | (with_reducible assumption) | assumption)
                have q204 : x4_1 < (l0.length : Int) := of_decide_eq_true (by first | (with_reducible assumption) | assumption)
                obtain ⟨ad204, e204, hx204_0⟩ := Kd.at_int HR0.out x4_1 p204 q204
                cases e204
                replace hx204_0 := (HB.out.cell (World.block_lt_of_cell? w _ hx204_0)).trans hx204_0
                replace p204 := eq_true p204
                replace q204 := eq_true q204
                go_wp2_with (first | ((with_reducible refine gate_callee (f := 84) rfl ?_); refine goesL_ (some 17) rfl rfl Try.func84 (by kernel_rfl) rfl #[.int .i64 (rd l0 x4_1)] rfl (by (try simp only [List.map_toArray, List.map_cons, List.map_nil]); first | done | rfl | (simp only [List.length_drop, List.length_take]; rfl)) ?_; (with_reducible refine (ropewalkref02_IsVariable.calls (rd l0 x4_1) true _ A4.out).mono ?_); rintro e w' ⟨rfl, ⟨nd, rfl⟩⟩; refine ⟨_, rfl, ?_⟩; have p206 : 0 ≤ (x4_1 : Int) := of_decide_eq_true (by first | (with_reducible assumption) | assumption); have q206 : x4_1 < (l0.length : Int) := of_decide_eq_true (by first | (with_reducible assumption) | assumption); obtain ⟨ad206, e206, hx206_0⟩ := Kd.at_int HR0.out x4_1 p206 q206; obtain rfl : ad204 = ad206 := (by injection e206); replace hx206_0 := (HB.out.cell (World.block_lt_of_cell? w _ hx206_0)).trans hx206_0; replace p206 := eq_true p206; replace q206 := eq_true q206; obtain ⟨Ao10, co10, eo10⟩ := Kd.R_slice HO_3.out; subst eo10) | ((with_reducible refine gate_callee (f := 85) rfl ?_); refine goesL_ (some 26) rfl rfl Try.func85 (by kernel_rfl) rfl #[.slice Ao10 x3_1.length co10, .int .i64 (wrap64 (-(rd l0 x4_1)))] rfl (by (try simp only [List.map_toArray, List.map_cons, List.map_nil]); first | done | rfl | (simp only [List.length_drop, List.length_take]; rfl)) ?_; (with_reducible refine (ropewalkref02_In.calls k1 _ _ x3_1 (wrap64 (-(rd l0 x4_1))) false _ ?side1 ?side2 A6.out).mono ?_); (case side1 => repeat (first | exact (Kd.R_reads' HO_3.out).2.2 | (with_reducible refine Kd.C_alloc ?_ _) | (with_reducible refine Kd.C_drewN ?_ _) | (with_reducible refine Kd.C_drew ?_))); (case side2 => exact (Kd.R_reads' HO_3.out).2.1); rintro e w' ⟨rfl, ⟨nd, rfl⟩⟩; refine ⟨_, rfl, ?_⟩; have p208 : 0 ≤ (x4_1 : Int) := of_decide_eq_true (by first | (with_reducible assumption) | assumption); have q208 : x4_1 < (l0.length : Int) := of_decide_eq_true (by first | (with_reducible assumption) | assumption); obtain ⟨ad208, e208, hx208_0⟩ := Kd.at_int HR0.out x4_1 p208 q208; obtain rfl : ad204 = ad208 := (by injection e208); replace hx208_0 := (HB.out.cell (World.block_lt_of_cell? w _ hx208_0)).trans hx208_0; replace p208 := eq_true p208; replace q208 := eq_true q208) | ((with_reducible refine gate_builtin (b := .append) (xs := #[.tmp 29, .tmp 35]) rfl ?_); at_builtin; refine Kd.R_append (Kd.int .i64) (w0 := w) w.heap.size rfl (.tmp 29) (.tmp 35) 24 3 (.int .i64 0) 8 rfl Try.underlying24 info3 rfl (by decide) (by omega) (.slice Ao10 x3_1.length co10) x3_1 (wrap64 (-(rd l0 x4_1))) [.int .i64 (wrap64 (-(rd l0 x4_1)))] (fun _ => True) (fun _ => False) rfl rfl ?aP (fun _ hk => hk.elim) ?aF ?aO ?aB ?aS ?aL ?_; (case aP => exact rfl); (case aB => exact (by repeat (first | (with_reducible first | exact HB.out | apply below_alloc | apply pw_below_drewN | apply below_drew1) | exact HB.out))); (case aF => exact (fun _ _ => trivial)); (case aO => exact (by (with_reducible repeat (first | apply Kd.R_alloc | apply Kd.R_drewN | apply Kd.R_drew)); exact HO_3.out)); (case aS => exact (below_size (by repeat (first | (with_reducible first | exact HB.out | apply below_alloc | apply pw_below_drewN | apply below_drew1) | exact HB.out)))); (case aL => have := LMc9.out; omega); intro v210 w11 ho hb hg hat; rw [← Ny209.out] at ho; have n0_ := Aside0.mk (hb); have n1_ := Aside0.mk (ho); clear HB; clear HO_3; have HB := n0_; have HO211 := n1_; clear n0_ n1_; clear ho hb hg hat))
                go_roundg k1
                case measure => have := HK1.out; omega
                case rel => exact ⟨(y209), (wrap64 (x4_1 + 1)), (by first | rfl | (simp; done) | (simp [*]; done)), H', ⟨by have := HK1.out; omega⟩, ⟨by (with_reducible repeat (first | apply Kd.R_alloc | apply Kd.R_drewN | apply Kd.R_drew)); exact HO211.out⟩, ⟨by repeat (first | (with_reducible first | exact HB.out | apply below_alloc | apply pw_below_drewN | apply below_drew1) | exact HB.out)⟩⟩
              · rw [if_neg c9] at H
                exact absurd H (by simp)
          · replace c5 := Bool.eq_false_iff.mpr c5
            subst c5
            have H1 : (ropewalkref02_Variables.l0 k1 l0 x3_1 (wrap64 (x4_1 + 1))) = some r := by rw [if_neg (show ¬ (false = true) by decide)] at H; exact H
            clear H
            have H := H1
            clear H1
            have H' := Aside0.mk H
            clear H
            have p204 : 0 ≤ (x4_1 : Int) := of_decide_eq_true (by first | (with_reducible assumption) | assumption)
            have q204 : x4_1 < (l0.length : Int) := of_decide_eq_true (by first | (with_reducible assumption) | assumption)
            obtain ⟨ad204, e204, hx204_0⟩ := Kd.at_int HR0.out x4_1 p204 q204
            cases e204
            replace hx204_0 := (HB.out.cell (World.block_lt_of_cell? w _ hx204_0)).trans hx204_0
            replace p204 := eq_true p204
            replace q204 := eq_true q204
            go_wp2_with (first | ((with_reducible refine gate_callee (f := 84) rfl ?_); refine goesL_ (some 17) rfl rfl Try.func84 (by kernel_rfl) rfl #[.int .i64 (rd l0 x4_1)] rfl (by (try simp only [List.map_toArray, List.map_cons, List.map_nil]); first | done | rfl | (simp only [List.length_drop, List.length_take]; rfl)) ?_; (with_reducible refine (ropewalkref02_IsVariable.calls (rd l0 x4_1) false _ A4.out).mono ?_); rintro e w' ⟨rfl, ⟨nd, rfl⟩⟩; refine ⟨_, rfl, ?_⟩))
            go_roundg k1
            case measure => have := HK1.out; omega
            case rel => exact ⟨(x3_1), (wrap64 (x4_1 + 1)), (by first | rfl | (simp; done) | (simp [*]; done)), H', ⟨by have := HK1.out; omega⟩, ⟨by (with_reducible repeat (first | apply Kd.R_alloc | apply Kd.R_drewN | apply Kd.R_drew)); exact HO_3.out⟩, ⟨by repeat (first | (with_reducible first | exact HB.out | apply below_alloc | apply pw_below_drewN | apply below_drew1) | exact HB.out)⟩⟩
        · rw [if_neg c3] at H
          exact absurd H (by simp)
      · rw [if_neg c2] at H
        have c2b0 : decide (x4_1 < (l0.length : Int)) = false := decide_eq_false c2
        clear c2
        obtain rfl := Option.some.inj H
        go_wp2
        go_ret
        exact ⟨_, by first | rfl | (simp [errW_none, errW_some] <;> rfl) | (simp [*, errW_none, errW_some] <;> rfl), by (with_reducible repeat (first | apply Kd.R_alloc | apply Kd.R_drewN | apply Kd.R_drew)); exact HO_3.out, by repeat (first | (with_reducible first | exact HB.out | apply below_alloc | apply pw_below_drewN | apply below_drew1) | exact HB.out)⟩
end Go.Proofs.Ytadjoaipmcbieaa.A

/-! GJ -/
namespace Go.Proofs.Ytadjoaipmcbieaa.A
open Go.RowKit Go.Proofs.YtadjoaipmcbieaaW.PrintWords Go.Proofs.YtadjoaipmcbieaaW.PrintLast Go.Proofs.YtadjoaipmcbieaaW.PrintMore
attribute [local go_sem] max2_int min2_int max_two min_two max_three min_three max_four min_four   -- for this text's walks alone
set_option linter.unusedVariables false
set_option linter.unusedSimpArgs false
mutual
def ropewalkref02_Plain.l0 : Nat → List (List Int) → List Int → Int → Option ((List (List Int)))
  | 0, _, _, _ => none
  | k + 1, x0, x3, x4 => if x4 < (x0.length : Int) then (if 0 ≤ x4 then ((ropewalkref02_Variables.f k (rd_L4 x0 x4)).bind fun t213 => (ropewalkref02_Plain.l1 k x0 x3 x4 t213 0)) else (none)) else ((ropewalkref02_Variables.f k x3).bind fun t220 => (ropewalkref02_Plain.l2 k x0 t220 ([] : List (List Int)) 0))
def ropewalkref02_Plain.l1 : Nat → List (List Int) → List Int → Int → List Int → Int → Option ((List (List Int)))
  | 0, _, _, _, _, _ => none
  | k + 1, x0, x3, x4, x5, x6 => if x6 < (x5.length : Int) then (if 0 ≤ x6 then (if x3.length < 17592186044416 then (ropewalkref02_Plain.l1 k x0 (x3 ++ [wrap64 (-(rd x5 x6))]) x4 x5 (wrap64 (x6 + 1))) else (none)) else (none)) else (ropewalkref02_Plain.l0 k x0 x3 (wrap64 (x4 + 1)))
def ropewalkref02_Plain.l2 : Nat → List (List Int) → List Int → List (List Int) → Int → Option ((List (List Int)))
  | 0, _, _, _, _ => none
  | k + 1, x0, x7, x8, x9 => if x9 < (x0.length : Int) then ((some (([] : List Int) : List Int)).bind fun y223 => (if 0 ≤ x9 then (if y223.length + (rd_L4 x0 x9).length < 17592186044416 then (ropewalkref02_Plain.l3 k x0 x7 x8 x9 (y223 ++ (rd_L4 x0 x9)) 0) else (none)) else (none))) else (some x8)
def ropewalkref02_Plain.l3 : Nat → List (List Int) → List Int → List (List Int) → Int → List Int → Int → Option ((List (List Int)))
  | 0, _, _, _, _, _, _ => none
  | k + 1, x0, x7, x8, x9, x10, x11 => if x11 < (x10.length : Int) then (ropewalkref02_Plain.l4 k x0 x7 x8 x9 x10 x11 0) else (if x8.length < 5864062014805 then (ropewalkref02_Plain.l2 k x0 x7 (x8 ++ [x10]) (wrap64 (x9 + 1))) else (none))
def ropewalkref02_Plain.l4 : Nat → List (List Int) → List Int → List (List Int) → Int → List Int → Int → Int → Option ((List (List Int)))
  | 0, _, _, _, _, _, _, _ => none
  | k + 1, x0, x7, x8, x9, x10, x11, x12 => if x12 < (x7.length : Int) then (if 0 ≤ x9 then (if x9 < (x0.length : Int) then (if 0 ≤ x11 then (if x11 < ((rd_L4 x0 x9).length : Int) then (if 0 ≤ x12 then (if (rd (rd_L4 x0 x9) x11) = (wrap64 (-(rd x7 x12))) then (if x11 < (x10.length : Int) then (ropewalkref02_Plain.l4 k x0 x7 x8 x9 (x10.set (x11 : Int).toNat (wrap64 (-(wrap64 (x12 + 1))))) x11 (wrap64 (x12 + 1))) else (none)) else (ropewalkref02_Plain.l4 k x0 x7 x8 x9 x10 x11 (wrap64 (x12 + 1)))) else (none)) else (none)) else (none)) else (none)) else (none)) else (ropewalkref02_Plain.l3 k x0 x7 x8 x9 x10 (wrap64 (x11 + 1)))
end
def ropewalkref02_Plain.f (k : Nat) (l0 : List (List Int)) : Option ((List (List Int))) := ropewalkref02_Plain.l0 k l0 ([] : List Int) 0
set_option maxHeartbeats 8000000 in
set_option maxRecDepth 100000 in
theorem ropewalkref02_Plain.calls (k : Nat) (A0 : Option Addr) (c0 : Nat) (l0 : List (List Int)) (r : List (List Int)) (w : World) (hr0 : Kd.C (Kd.slice 3 (Kd.int .i64)) w A0 l0.length l0) (hc0 : l0.length ≤ c0) (h : ropewalkref02_Plain.f k l0 = some r) :
    Calls Try.prog 49 #[.slice A0 l0.length c0] w fun e w' => ∃ v0_ : Value, e = .returned (v0_) ∧ Kd.S (Kd.slice 3 (Kd.int .i64)) 25 w' w.heap.size (fun _ => True) v0_ r ∧ Below w.heap.size w w' := by
  have HR0 := Aside0.mk hr0
  have HC0 := Aside0.mk hc0
  clear hr0 hc0
  have HB := Aside0.mk (Below.refl w.heap.size w)
  have H : (ropewalkref02_Plain.l0 k l0 ([] : List Int) 0) = some r := h
  clear h
  have H' := Aside0.mk H
  clear H
  go_enter Try.func49, Try.ntmps49
  go_wp2
  repeat (go_quiet (fail); try go_wp2)
  go_loopg [3, 4] k (fun kq v3 v4 w' => ∃ (x3_1 : List Int) (x4_1 : Int), v4 = .int .i64 x4_1 ∧ Aside0 (ropewalkref02_Plain.l0 kq l0 x3_1 x4_1 = some r) ∧ Aside0 (kq ≤ k) ∧ Aside0 (Kd.R (Kd.int .i64) 3 w' w.heap.size (fun _ => True) v3 x3_1) ∧ Aside0 (Below w.heap.size w w'))
  case atStart => exact ⟨(([] : List Int)), (0), (by first | rfl | (simp; done) | (simp [*]; done)), H', ⟨Nat.le_refl _⟩, ⟨by first | exact Kd.R_nil _ _ _ _ _ | exact Kd.N_nil _ _ _ _ _ | exact Kd.V_nil _ _ _ _ _ | exact Kd.Q_nil _ _ _ _ _ | exact Kd.S_nil _ _ _ _ _⟩, ⟨by repeat (first | (with_reducible first | exact HB.out | apply below_alloc | apply pw_below_drewN | apply below_drew1) | exact HB.out)⟩⟩
  case round =>
    clear H'
    obtain ⟨x3_1, x4_1, rfl, HA, HK1, HO_3, HB⟩ := hrel
    cases gk with
    | zero => exact absurd HA.out (by simp [ropewalkref02_Plain.l0])
    | succ k1 =>
      have H := HA.out
      clear HA
      simp only [ropewalkref02_Plain.l0] at H
      by_cases c2 : x4_1 < (l0.length : Int)
      · rw [if_pos c2] at H
        have c2b0 : decide (x4_1 < (l0.length : Int)) = true := decide_eq_true c2
        clear c2
        by_cases c3 : 0 ≤ x4_1
        · rw [if_pos c3] at H
          have c3b0 : decide (0 ≤ x4_1) = true := decide_eq_true c3
          clear c3
          replace H := Option.bind_eq_some_iff.mp H
          obtain ⟨t213, A40, H⟩ := H
          replace H : (ropewalkref02_Plain.l1 k1 l0 x3_1 x4_1 t213 0) = some r := H
          have A4 := Aside0.mk A40
          clear A40
          have H' := Aside0.mk H
          clear H
          have p212 : 0 ≤ (x4_1 : Int) := of_decide_eq_true (by first | (with_reducible assumption) | assumption)
          have q212 : x4_1 < (l0.length : Int) := of_decide_eq_true (by first | (with_reducible assumption) | assumption)
          obtain ⟨ad212, A212_0, c212_0, e212, hx212_0, hl212_0, hi212_0⟩ := at_L4 HR0.out x4_1 p212 q212
          cases e212
          replace hx212_0 := (HB.out.cell (World.block_lt_of_cell? w _ hx212_0)).trans hx212_0
          have HR212_0 := Aside0.mk hi212_0
          have HC212_0 := Aside0.mk hl212_0
          clear hi212_0 hl212_0
          replace p212 := eq_true p212
          replace q212 := eq_true q212
          go_wp2_with (first | (go_at_call 52; (with_reducible refine (ropewalkref02_Variables.calls k1 _ _ (rd_L4 l0 x4_1) t213 _ ?side1 ?side2 A4.out).mono ?_); (case side1 => repeat (first | exact (Kd.C_below HR212_0.out HB.out) | (with_reducible refine Kd.C_alloc ?_ _) | (with_reducible refine Kd.C_drewN ?_ _) | (with_reducible refine Kd.C_drew ?_))); (case side2 => exact HC212_0.out); rintro e w5 ⟨v214, rfl, ho0, hb⟩; have n0_ := Aside0.mk (Kd.R_elder' (by (with_reducible repeat (first | apply Kd.R_alloc | apply Kd.R_drewN | apply Kd.R_drew)); exact HO_3.out) (Kd.R_base ho0) hb); have n1_ := Aside0.mk (Kd.R_lower (Kd.R_new' ho0 (Kd.R_lt (by (with_reducible repeat (first | apply Kd.R_alloc | apply Kd.R_drewN | apply Kd.R_drew)); exact HO_3.out))) (below_size (by repeat (first | (with_reducible first | exact HB.out | apply below_alloc | apply pw_below_drewN | apply below_drew1) | exact HB.out)))); have n2_ := Aside0.mk (below_step (by repeat (first | (with_reducible first | exact HB.out | apply below_alloc | apply pw_below_drewN | apply below_drew1) | exact HB.out)) hb); clear HO_3; clear HB; have HO_3 := n0_; have HO215 := n1_; have HB := n2_; clear n0_ n1_ n2_; (try clear hb); (try clear hb2); (try clear hk); (try clear hi); (try clear ho0)))
          repeat (go_quiet (first | (go_at_call 52; (with_reducible refine (ropewalkref02_Variables.calls k1 _ _ (rd_L4 l0 x4_1) t213 _ ?side1 ?side2 A4.out).mono ?_); (case side1 => repeat (first | exact (Kd.C_below HR212_0.out HB.out) | (with_reducible refine Kd.C_alloc ?_ _) | (with_reducible refine Kd.C_drewN ?_ _) | (with_reducible refine Kd.C_drew ?_))); (case side2 => exact HC212_0.out); rintro e w5 ⟨v214, rfl, ho0, hb⟩; have n0_ := Aside0.mk (Kd.R_elder' (by (with_reducible repeat (first | apply Kd.R_alloc | apply Kd.R_drewN | apply Kd.R_drew)); exact HO_3.out) (Kd.R_base ho0) hb); have n1_ := Aside0.mk (Kd.R_lower (Kd.R_new' ho0 (Kd.R_lt (by (with_reducible repeat (first | apply Kd.R_alloc | apply Kd.R_drewN | apply Kd.R_drew)); exact HO_3.out))) (below_size (by repeat (first | (with_reducible first | exact HB.out | apply below_alloc | apply pw_below_drewN | apply below_drew1) | exact HB.out)))); have n2_ := Aside0.mk (below_step (by repeat (first | (with_reducible first | exact HB.out | apply below_alloc | apply pw_below_drewN | apply below_drew1) | exact HB.out)) hb); clear HO_3; clear HB; have HO_3 := n0_; have HO215 := n1_; have HB := n2_; clear n0_ n1_ n2_; (try clear hb); (try clear hb2); (try clear hk); (try clear hi); (try clear ho0))); try go_wp2_with (first | (go_at_call 52; (with_reducible refine (ropewalkref02_Variables.calls k1 _ _ (rd_L4 l0 x4_1) t213 _ ?side1 ?side2 A4.out).mono ?_); (case side1 => repeat (first | exact (Kd.C_below HR212_0.out HB.out) | (with_reducible refine Kd.C_alloc ?_ _) | (with_reducible refine Kd.C_drewN ?_ _) | (with_reducible refine Kd.C_drew ?_))); (case side2 => exact HC212_0.out); rintro e w5 ⟨v214, rfl, ho0, hb⟩; have n0_ := Aside0.mk (Kd.R_elder' (by (with_reducible repeat (first | apply Kd.R_alloc | apply Kd.R_drewN | apply Kd.R_drew)); exact HO_3.out) (Kd.R_base ho0) hb); have n1_ := Aside0.mk (Kd.R_lower (Kd.R_new' ho0 (Kd.R_lt (by (with_reducible repeat (first | apply Kd.R_alloc | apply Kd.R_drewN | apply Kd.R_drew)); exact HO_3.out))) (below_size (by repeat (first | (with_reducible first | exact HB.out | apply below_alloc | apply pw_below_drewN | apply below_drew1) | exact HB.out)))); have n2_ := Aside0.mk (below_step (by repeat (first | (with_reducible first | exact HB.out | apply below_alloc | apply pw_below_drewN | apply below_drew1) | exact HB.out)) hb); clear HO_3; clear HB; have HO_3 := n0_; have HO215 := n1_; have HB := n2_; clear n0_ n1_ n2_; (try clear hb); (try clear hb2); (try clear hk); (try clear hi); (try clear ho0))))
          go_loopg [3, 6] k1 (fun kq v3 v6 w' => ∃ (x3_2 : List Int) (x6_2 : Int), v6 = .int .i64 x6_2 ∧ Aside0 (ropewalkref02_Plain.l1 kq l0 x3_2 x4_1 t213 x6_2 = some r) ∧ Aside0 (kq ≤ k1) ∧ Aside0 (Kd.R (Kd.int .i64) 3 w' w.heap.size (fun k_ => some k_ ≠ (v214 : Value).ownBlock) v3 x3_2) ∧ Aside0 (Kd.R (Kd.int .i64) 3 w' w.heap.size (fun k_ => some k_ ≠ (v3 : Value).ownBlock) v214 t213) ∧ Aside0 (Below w.heap.size w w'))
          case atStart => exact ⟨(x3_1), (0), (by first | rfl | (simp; done) | (simp [*]; done)), H', ⟨Nat.le_refl _⟩, ⟨by (with_reducible repeat (first | apply Kd.R_alloc | apply Kd.R_drewN | apply Kd.R_drew)); exact Kd.R_mono HO_3.out (fun _ hk => hk.2)⟩, ⟨by (with_reducible repeat (first | apply Kd.R_alloc | apply Kd.R_drewN | apply Kd.R_drew)); exact Kd.R_mono HO215.out (fun _ hk => hk.2)⟩, ⟨by repeat (first | (with_reducible first | exact HB.out | apply below_alloc | apply pw_below_drewN | apply below_drew1) | exact HB.out)⟩⟩
          case round =>
            clear H'
            try clear c2
            try clear c2b0
            try clear p2
            try clear q2
            try clear hx2
            try clear c3
            try clear c3b0
            try clear c4
            try clear hx212_0
            try clear p212
            try clear q212
            obtain ⟨x3_2, x6_2, rfl, HA, HK2, HO_3, HO_5, HB⟩ := hrel
            cases gk with
            | zero => exact absurd HA.out (by simp [ropewalkref02_Plain.l1])
            | succ k2 =>
              have H := HA.out
              clear HA
              simp only [ropewalkref02_Plain.l1] at H
              by_cases c6 : x6_2 < (t213.length : Int)
              · rw [if_pos c6] at H
                have c6b0 : decide (x6_2 < (t213.length : Int)) = true := decide_eq_true c6
                clear c6
                by_cases c7 : 0 ≤ x6_2
                · rw [if_pos c7] at H
                  have c7b0 : decide (0 ≤ x6_2) = true := decide_eq_true c7
                  clear c7
                  by_cases c8 : x3_2.length < 17592186044416
                  · rw [if_pos c8] at H
                    have LMc8 := Aside0.mk c8
                    clear c8
                    obtain ⟨y217, hy217⟩ : ∃ y_ : List Int, y_ = (x3_2 ++ [wrap64 (-(rd t213 x6_2))]) := ⟨_, rfl⟩
                    replace H : (ropewalkref02_Plain.l1 k2 l0 y217 x4_1 t213 (wrap64 (x6_2 + 1))) = some r := by first | (rw [hy217]; with_reducible exact H) | (have H2_ := (Option.bind_some _ _).symm.trans H; rw [hy217]; with_reducible exact H2_) | (have H2_ := (Option.bind_some _ _).symm.trans H; with_reducible exact H2_) | with_reducible exact H | (rw [hy217]; exact H) | exact H
                    have Ny217 := Aside0.mk hy217
                    clear hy217
                    have H' := Aside0.mk H
                    clear H
                    obtain ⟨Ao9, co9, eo9⟩ := Kd.R_slice HO_5.out
                    subst eo9
                    have p216 : 0 ≤ (x6_2 : Int) := of_decide_eq_true (by first | (with_reducible assumption) | assumption)
                    have q216 : x6_2 < (t213.length : Int) := of_decide_eq_true (by first | (with_reducible assumption) | assumption)
                    obtain ⟨ad216, e216, hx216_0⟩ := Kd.at_int (Kd.R_reads' HO_5.out).2.2 x6_2 p216 q216
                    cases e216
                    replace p216 := eq_true p216
                    replace q216 := eq_true q216
                    go_wp2_with (first | ((with_reducible refine gate_builtin (b := .append) (xs := #[.tmp 30, .tmp 36]) rfl ?_); at_builtin; refine Kd.R_append (Kd.int .i64) (w0 := w) w.heap.size rfl (.tmp 30) (.tmp 36) 25 3 (.int .i64 0) 8 rfl Try.underlying25 info3 rfl (by decide) (by omega) u3 x3_2 (wrap64 (-(rd t213 x6_2))) [.int .i64 (wrap64 (-(rd t213 x6_2)))] (fun k_ => some k_ ≠ (.slice (some ad216) t213.length co9 : Value).ownBlock) (fun _ => False) rfl rfl ?aP (fun _ hk => hk.elim) ?aF ?aO ?aB ?aS ?aL ?_; (case aP => exact rfl); (case aB => exact (by repeat (first | (with_reducible first | exact HB.out | apply below_alloc | apply pw_below_drewN | apply below_drew1) | exact HB.out))); (case aF => exact (fun k_ hk => Kd.fresh' (Kd.R_lt (by (with_reducible repeat (first | apply Kd.R_alloc | apply Kd.R_drewN | apply Kd.R_drew)); exact HO_5.out)) k_ hk)); (case aO => exact (by (with_reducible repeat (first | apply Kd.R_alloc | apply Kd.R_drewN | apply Kd.R_drew)); exact HO_3.out)); (case aS => exact (below_size (by repeat (first | (with_reducible first | exact HB.out | apply below_alloc | apply pw_below_drewN | apply below_drew1) | exact HB.out)))); (case aL => have := LMc8.out; omega); intro v218 w10 ho hb hg hat; rw [← Ny217.out] at ho; have n0_ := Aside0.mk (Kd.R_after (ok := (fun _ => True)) (by (with_reducible repeat (first | apply Kd.R_alloc | apply Kd.R_drewN | apply Kd.R_drew)); exact Kd.R_mono HO_5.out (fun _ hk => ⟨trivial, hk⟩)) hg hat); have n1_ := Aside0.mk (hb); have n2_ := Aside0.mk (ho); clear HO_5; clear HB; clear HO_3; have HO_5 := n0_; have HB := n1_; have HO219 := n2_; clear n0_ n1_ n2_; clear ho hb hg hat))
                    repeat (go_quiet (first | ((with_reducible refine gate_builtin (b := .append) (xs := #[.tmp 30, .tmp 36]) rfl ?_); at_builtin; refine Kd.R_append (Kd.int .i64) (w0 := w) w.heap.size rfl (.tmp 30) (.tmp 36) 25 3 (.int .i64 0) 8 rfl Try.underlying25 info3 rfl (by decide) (by omega) u3 x3_2 (wrap64 (-(rd t213 x6_2))) [.int .i64 (wrap64 (-(rd t213 x6_2)))] (fun k_ => some k_ ≠ (.slice (some ad216) t213.length co9 : Value).ownBlock) (fun _ => False) rfl rfl ?aP (fun _ hk => hk.elim) ?aF ?aO ?aB ?aS ?aL ?_; (case aP => exact rfl); (case aB => exact (by repeat (first | (with_reducible first | exact HB.out | apply below_alloc | apply pw_below_drewN | apply below_drew1) | exact HB.out))); (case aF => exact (fun k_ hk => Kd.fresh' (Kd.R_lt (by (with_reducible repeat (first | apply Kd.R_alloc | apply Kd.R_drewN | apply Kd.R_drew)); exact HO_5.out)) k_ hk)); (case aO => exact (by (with_reducible repeat (first | apply Kd.R_alloc | apply Kd.R_drewN | apply Kd.R_drew)); exact HO_3.out)); (case aS => exact (below_size (by repeat (first | (with_reducible first | exact HB.out | apply below_alloc | apply pw_below_drewN | apply below_drew1) | exact HB.out)))); (case aL => have := LMc8.out; omega); intro v218 w10 ho hb hg hat; rw [← Ny217.out] at ho; have n0_ := Aside0.mk (Kd.R_after (ok := (fun _ => True)) (by (with_reducible repeat (first | apply Kd.R_alloc | apply Kd.R_drewN | apply Kd.R_drew)); exact Kd.R_mono HO_5.out (fun _ hk => ⟨trivial, hk⟩)) hg hat); have n1_ := Aside0.mk (hb); have n2_ := Aside0.mk (ho); clear HO_5; clear HB; clear HO_3; have HO_5 := n0_; have HB := n1_; have HO219 := n2_; clear n0_ n1_ n2_; clear ho hb hg hat)); try go_wp2_with (first | ((with_reducible refine gate_builtin (b := .append) (xs := #[.tmp 30, .tmp 36]) rfl ?_); at_builtin; refine Kd.R_append (Kd.int .i64) (w0 := w) w.heap.size rfl (.tmp 30) (.tmp 36) 25 3 (.int .i64 0) 8 rfl Try.underlying25 info3 rfl (by decide) (by omega) u3 x3_2 (wrap64 (-(rd t213 x6_2))) [.int .i64 (wrap64 (-(rd t213 x6_2)))] (fun k_ => some k_ ≠ (.slice (some ad216) t213.length co9 : Value).ownBlock) (fun _ => False) rfl rfl ?aP (fun _ hk => hk.elim) ?aF ?aO ?aB ?aS ?aL ?_; (case aP => exact rfl); (case aB => exact (by repeat (first | (with_reducible first | exact HB.out | apply below_alloc | apply pw_below_drewN | apply below_drew1) | exact HB.out))); (case aF => exact (fun k_ hk => Kd.fresh' (Kd.R_lt (by (with_reducible repeat (first | apply Kd.R_alloc | apply Kd.R_drewN | apply Kd.R_drew)); exact HO_5.out)) k_ hk)); (case aO => exact (by (with_reducible repeat (first | apply Kd.R_alloc | apply Kd.R_drewN | apply Kd.R_drew)); exact HO_3.out)); (case aS => exact (below_size (by repeat (first | (with_reducible first | exact HB.out | apply below_alloc | apply pw_below_drewN | apply below_drew1) | exact HB.out)))); (case aL => have := LMc8.out; omega); intro v218 w10 ho hb hg hat; rw [← Ny217.out] at ho; have n0_ := Aside0.mk (Kd.R_after (ok := (fun _ => True)) (by (with_reducible repeat (first | apply Kd.R_alloc | apply Kd.R_drewN | apply Kd.R_drew)); exact Kd.R_mono HO_5.out (fun _ hk => ⟨trivial, hk⟩)) hg hat); have n1_ := Aside0.mk (hb); have n2_ := Aside0.mk (ho); clear HO_5; clear HB; clear HO_3; have HO_5 := n0_; have HB := n1_; have HO219 := n2_; clear n0_ n1_ n2_; clear ho hb hg hat)))
                    go_roundg k2
                    case measure => have := HK1.out; have := HK2.out; omega
                    case rel => exact ⟨(y217), (wrap64 (x6_2 + 1)), (by first | rfl | (simp; done) | (simp [*]; done)), H', ⟨by have := HK1.out; have := HK2.out; omega⟩, ⟨by (with_reducible repeat (first | apply Kd.R_alloc | apply Kd.R_drewN | apply Kd.R_drew)); exact HO219.out⟩, ⟨by (with_reducible repeat (first | apply Kd.R_alloc | apply Kd.R_drewN | apply Kd.R_drew)); exact Kd.R_mono HO_5.out (fun _ hk => hk.2)⟩, ⟨by repeat (first | (with_reducible first | exact HB.out | apply below_alloc | apply pw_below_drewN | apply below_drew1) | exact HB.out)⟩⟩
                  · rw [if_neg c8] at H
                    exact absurd H (by simp)
                · rw [if_neg c7] at H
                  exact absurd H (by simp)
              · rw [if_neg c6] at H
                have c6b0 : decide (x6_2 < (t213.length : Int)) = false := decide_eq_false c6
                clear c6
                have H' := Aside0.mk H
                clear H
                obtain ⟨Ao11, co11, eo11⟩ := Kd.R_slice HO_5.out
                subst eo11
                go_wp2
                repeat (go_quiet (fail); try go_wp2)
                go_roundg k2
                case measure => have := HK1.out; have := HK2.out; omega
                case rel => exact ⟨(x3_2), (wrap64 (x4_1 + 1)), (by first | rfl | (simp; done) | (simp [*]; done)), H', ⟨by have := HK1.out; have := HK2.out; omega⟩, ⟨by (with_reducible repeat (first | apply Kd.R_alloc | apply Kd.R_drewN | apply Kd.R_drew)); exact Kd.R_mono HO_3.out (fun _ hk => trivial)⟩, ⟨by repeat (first | (with_reducible first | exact HB.out | apply below_alloc | apply pw_below_drewN | apply below_drew1) | exact HB.out)⟩⟩
        · rw [if_neg c3] at H
          exact absurd H (by simp)
      · rw [if_neg c2] at H
        have c2b0 : decide (x4_1 < (l0.length : Int)) = false := decide_eq_false c2
        clear c2
        replace H := Option.bind_eq_some_iff.mp H
        obtain ⟨t220, A120, H⟩ := H
        replace H : (ropewalkref02_Plain.l2 k1 l0 t220 ([] : List (List Int)) 0) = some r := H
        have A12 := Aside0.mk A120
        clear A120
        have H' := Aside0.mk H
        clear H
        obtain ⟨Ao13, co13, eo13⟩ := Kd.R_slice HO_3.out
        subst eo13
        go_wp2_with (first | (go_at_call 52; (with_reducible refine (ropewalkref02_Variables.calls k1 _ _ x3_1 t220 _ ?side1 ?side2 A12.out).mono ?_); (case side1 => repeat (first | exact (Kd.R_reads' HO_3.out).2.2 | (with_reducible refine Kd.C_alloc ?_ _) | (with_reducible refine Kd.C_drewN ?_ _) | (with_reducible refine Kd.C_drew ?_))); (case side2 => exact (Kd.R_reads' HO_3.out).2.1); rintro e w14 ⟨v221, rfl, ho0, hb⟩; have n0_ := Aside0.mk (Kd.R_elder' (by (with_reducible repeat (first | apply Kd.R_alloc | apply Kd.R_drewN | apply Kd.R_drew)); exact HO_3.out) (Kd.R_base ho0) hb); have n1_ := Aside0.mk (Kd.R_lower (Kd.R_new' ho0 (Kd.R_lt (by (with_reducible repeat (first | apply Kd.R_alloc | apply Kd.R_drewN | apply Kd.R_drew)); exact HO_3.out))) (below_size (by repeat (first | (with_reducible first | exact HB.out | apply below_alloc | apply pw_below_drewN | apply below_drew1) | exact HB.out)))); have n2_ := Aside0.mk (below_step (by repeat (first | (with_reducible first | exact HB.out | apply below_alloc | apply pw_below_drewN | apply below_drew1) | exact HB.out)) hb); clear HO_3; clear HB; have HO_3 := n0_; have HO222 := n1_; have HB := n2_; clear n0_ n1_ n2_; (try clear hb); (try clear hb2); (try clear hk); (try clear hi); (try clear ho0)))
        repeat (go_quiet (first | (go_at_call 52; (with_reducible refine (ropewalkref02_Variables.calls k1 _ _ x3_1 t220 _ ?side1 ?side2 A12.out).mono ?_); (case side1 => repeat (first | exact (Kd.R_reads' HO_3.out).2.2 | (with_reducible refine Kd.C_alloc ?_ _) | (with_reducible refine Kd.C_drewN ?_ _) | (with_reducible refine Kd.C_drew ?_))); (case side2 => exact (Kd.R_reads' HO_3.out).2.1); rintro e w14 ⟨v221, rfl, ho0, hb⟩; have n0_ := Aside0.mk (Kd.R_elder' (by (with_reducible repeat (first | apply Kd.R_alloc | apply Kd.R_drewN | apply Kd.R_drew)); exact HO_3.out) (Kd.R_base ho0) hb); have n1_ := Aside0.mk (Kd.R_lower (Kd.R_new' ho0 (Kd.R_lt (by (with_reducible repeat (first | apply Kd.R_alloc | apply Kd.R_drewN | apply Kd.R_drew)); exact HO_3.out))) (below_size (by repeat (first | (with_reducible first | exact HB.out | apply below_alloc | apply pw_below_drewN | apply below_drew1) | exact HB.out)))); have n2_ := Aside0.mk (below_step (by repeat (first | (with_reducible first | exact HB.out | apply below_alloc | apply pw_below_drewN | apply below_drew1) | exact HB.out)) hb); clear HO_3; clear HB; have HO_3 := n0_; have HO222 := n1_; have HB := n2_; clear n0_ n1_ n2_; (try clear hb); (try clear hb2); (try clear hk); (try clear hi); (try clear ho0))); try go_wp2_with (first | (go_at_call 52; (with_reducible refine (ropewalkref02_Variables.calls k1 _ _ x3_1 t220 _ ?side1 ?side2 A12.out).mono ?_); (case side1 => repeat (first | exact (Kd.R_reads' HO_3.out).2.2 | (with_reducible refine Kd.C_alloc ?_ _) | (with_reducible refine Kd.C_drewN ?_ _) | (with_reducible refine Kd.C_drew ?_))); (case side2 => exact (Kd.R_reads' HO_3.out).2.1); rintro e w14 ⟨v221, rfl, ho0, hb⟩; have n0_ := Aside0.mk (Kd.R_elder' (by (with_reducible repeat (first | apply Kd.R_alloc | apply Kd.R_drewN | apply Kd.R_drew)); exact HO_3.out) (Kd.R_base ho0) hb); have n1_ := Aside0.mk (Kd.R_lower (Kd.R_new' ho0 (Kd.R_lt (by (with_reducible repeat (first | apply Kd.R_alloc | apply Kd.R_drewN | apply Kd.R_drew)); exact HO_3.out))) (below_size (by repeat (first | (with_reducible first | exact HB.out | apply below_alloc | apply pw_below_drewN | apply below_drew1) | exact HB.out)))); have n2_ := Aside0.mk (below_step (by repeat (first | (with_reducible first | exact HB.out | apply below_alloc | apply pw_below_drewN | apply below_drew1) | exact HB.out)) hb); clear HO_3; clear HB; have HO_3 := n0_; have HO222 := n1_; have HB := n2_; clear n0_ n1_ n2_; (try clear hb); (try clear hb2); (try clear hk); (try clear hi); (try clear ho0))))
        go_loopg [8, 9] k1 (fun kq v8 v9 w' => ∃ (x7_2 : List Int) (x8_2 : List (List Int)) (x9_2 : Int), v9 = .int .i64 x9_2 ∧ Aside0 (ropewalkref02_Plain.l2 kq l0 x7_2 x8_2 x9_2 = some r) ∧ Aside0 (kq ≤ k1) ∧ Aside0 (Kd.R (Kd.int .i64) 3 w' w.heap.size (fun _ => True) v221 x7_2) ∧ Aside0 (Kd.S (Kd.slice 3 (Kd.int .i64)) 25 w' w.heap.size (fun k_ => some k_ ≠ (v221 : Value).ownBlock) v8 x8_2) ∧ Aside0 (Below w.heap.size w w'))
        case atStart => exact ⟨(t220), (([] : List (List Int))), (0), (by first | rfl | (simp; done) | (simp [*]; done)), H', ⟨Nat.le_refl _⟩, ⟨by (with_reducible repeat (first | apply Kd.R_alloc | apply Kd.R_drewN | apply Kd.R_drew)); exact Kd.R_mono HO222.out (fun _ hk => trivial)⟩, ⟨by first | exact Kd.S_nil _ _ _ _ _ | exact Kd.N_nil _ _ _ _ _ | exact Kd.V_nil _ _ _ _ _ | exact Kd.Q_nil _ _ _ _ _ | exact Kd.R_nil _ _ _ _ _⟩, ⟨by repeat (first | (with_reducible first | exact HB.out | apply below_alloc | apply pw_below_drewN | apply below_drew1) | exact HB.out)⟩⟩
        case round =>
          clear H'
          try clear c2
          try clear c2b0
          try clear p2
          try clear q2
          try clear hx2
          try clear c3
          try clear c3b0
          try clear c4
          try clear c6
          try clear c6b0
          try clear p6
          try clear c7
          try clear c7b0
          try clear c8
          try clear hx212_0
          try clear hx216_0
          try clear p2
          try clear p212
          try clear p216
          try clear q2
          try clear q212
          try clear q216
          obtain ⟨x7_2, x8_2, x9_2, rfl, HA, HK2, HO_7, HO_8, HB⟩ := hrel
          cases gk with
          | zero => exact absurd HA.out (by simp [ropewalkref02_Plain.l2])
          | succ k2 =>
            have H := HA.out
            clear HA
            simp only [ropewalkref02_Plain.l2] at H
            by_cases c15 : x9_2 < (l0.length : Int)
            · rw [if_pos c15] at H
              have c15b0 : decide (x9_2 < (l0.length : Int)) = true := decide_eq_true c15
              clear c15
              obtain ⟨y223, hy223⟩ : ∃ y_ : List Int, y_ = (([] : List Int)) := ⟨_, rfl⟩
              replace H : (if 0 ≤ x9_2 then (if y223.length + (rd_L4 l0 x9_2).length < 17592186044416 then (ropewalkref02_Plain.l3 k2 l0 x7_2 x8_2 x9_2 (y223 ++ (rd_L4 l0 x9_2)) 0) else (none)) else (none)) = some r := by first | (rw [hy223]; with_reducible exact H) | (have H2_ := (Option.bind_some _ _).symm.trans H; rw [hy223]; with_reducible exact H2_) | (have H2_ := (Option.bind_some _ _).symm.trans H; with_reducible exact H2_) | with_reducible exact H | (rw [hy223]; exact H) | exact H
              have Ny223 := Aside0.mk hy223
              clear hy223
              by_cases c16 : 0 ≤ x9_2
              · rw [if_pos c16] at H
                have c16b0 : decide (0 ≤ x9_2) = true := decide_eq_true c16
                clear c16
                by_cases c17 : y223.length + (rd_L4 l0 x9_2).length < 17592186044416
                · rw [if_pos c17] at H
                  have LMc17 := Aside0.mk c17
                  clear c17
                  obtain ⟨y227, hy227⟩ : ∃ y_ : List Int, y_ = (y223 ++ (rd_L4 l0 x9_2)) := ⟨_, rfl⟩
                  replace H : (ropewalkref02_Plain.l3 k2 l0 x7_2 x8_2 x9_2 y227 0) = some r := by first | (rw [hy227]; with_reducible exact H) | (have H2_ := (Option.bind_some _ _).symm.trans H; rw [hy227]; with_reducible exact H2_) | (have H2_ := (Option.bind_some _ _).symm.trans H; with_reducible exact H2_) | with_reducible exact H | (rw [hy227]; exact H) | exact H
                  have Ny227 := Aside0.mk hy227
                  clear hy227
                  have H' := Aside0.mk H
                  clear H
                  go_wp2_with (first | ((with_reducible refine gate_dst (N := 46) rfl ?_); refine Kd.R_lit (Kd.int .i64) _ 3 ?hg (N := 46) ?hd (xs := ([] : List Int)) (inner := []) (ok := fun _ => True) (okp := fun _ => True) ?hr ?hp (fun _ hk => hk) trivial (Below.refl _ _) (Nat.le_refl _) (by simp) ?_; (case hd => rfl); (case hg => rfl); (case hr => first | (go_simp; done) | (go_simp; rfl)); (case hp => exact (Reps.none _ _)); intro v224 w18 ho19 hb hg_ hnew_; clear hg_ hnew_; (first | rw [← Ny223.out] at ho19 | (simp only [Int.reduceToNat] at ho19; rw [← Ny223.out] at ho19)); have n0_ := Aside0.mk (Kd.R_elder' (by (with_reducible repeat (first | apply Kd.R_alloc | apply Kd.R_drewN | apply Kd.R_drew)); exact HO_7.out) (Kd.R_base ho19) hb); have n1_ := Aside0.mk (Kd.S_elder' (by (with_reducible repeat (first | apply Kd.S_alloc | apply Kd.S_drewN | apply Kd.S_drew)); exact HO_8.out) (Kd.R_base ho19) hb); have n2_ := Aside0.mk (Kd.R_lower (Kd.R_new' ho19 (Kd.R_lt (by (with_reducible repeat (first | apply Kd.R_alloc | apply Kd.R_drewN | apply Kd.R_drew)); exact HO_7.out))) (below_size (by repeat (first | (with_reducible first | exact HB.out | apply below_alloc | apply pw_below_drewN | apply below_drew1) | exact HB.out)))); have n3_ := Aside0.mk (below_step (by repeat (first | (with_reducible first | exact HB.out | apply below_alloc | apply pw_below_drewN | apply below_drew1) | exact HB.out)) hb); clear HO_7; clear HO_8; clear HB; have HO_7 := n0_; have HO_8 := n1_; have HO225 := n2_; have HB := n3_; clear n0_ n1_ n2_ n3_; clear hb ho19; have p226 : 0 ≤ (x9_2 : Int) := of_decide_eq_true (by first | (with_reducible assumption) | assumption); have q226 : x9_2 < (l0.length : Int) := of_decide_eq_true (by first | (with_reducible assumption) | assumption); obtain ⟨ad226, A226_0, c226_0, e226, hx226_0, hl226_0, hi226_0⟩ := at_L4 HR0.out x9_2 p226 q226; cases e226; replace hx226_0 := (HB.out.cell (World.block_lt_of_cell? w _ hx226_0)).trans hx226_0; have HR226_0 := Aside0.mk hi226_0; have HC226_0 := Aside0.mk hl226_0; clear hi226_0 hl226_0; replace p226 := eq_true p226; replace q226 := eq_true q226) | ((with_reducible refine gate_builtin (b := .append) (xs := #[.tmp 46, .tmp 50]) rfl ?_); at_builtin; refine Kd.R_append_rows (Kd.int .i64) (w0 := w) w.heap.size rfl (.tmp 46) (.tmp 50) 25 3 (.int .i64 0) 8 rfl Try.underlying25 info3 rfl (by decide) (by omega) v224 y223 (rd_L4 l0 x9_2) _ _ _ (fun k_ => some k_ ≠ (v221 : Value).ownBlock) (fun _ => False) rfl rfl ?aO ?aR (fun _ _ h => h) (fun _ h => h.elim) ?aF ?aB ?aS ?aL ?_; (case aR => repeat (first | exact (Kd.C_below HR226_0.out HB.out) | (with_reducible refine Kd.C_alloc ?_ _) | (with_reducible refine Kd.C_drewN ?_ _) | (with_reducible refine Kd.C_drew ?_))); (case aB => exact (by repeat (first | (with_reducible first | exact HB.out | apply below_alloc | apply pw_below_drewN | apply below_drew1) | exact HB.out))); (case aF => exact (fun k_ hk => Kd.fresh' (Kd.R_lt (by (with_reducible repeat (first | apply Kd.R_alloc | apply Kd.R_drewN | apply Kd.R_drew)); exact HO_7.out)) k_ hk)); (case aO => exact (by (with_reducible repeat (first | apply Kd.R_alloc | apply Kd.R_drewN | apply Kd.R_drew)); exact Kd.R_mono HO225.out (fun _ hk => hk.2))); (case aS => exact (below_size (by repeat (first | (with_reducible first | exact HB.out | apply below_alloc | apply pw_below_drewN | apply below_drew1) | exact HB.out)))); (case aL => have := LMc17.out; omega); intro v228 w20 ho hb hg hat; rw [← Ny227.out] at ho; have n0_ := Aside0.mk (Kd.R_after (ok := (fun _ => True)) (by (with_reducible repeat (first | apply Kd.R_alloc | apply Kd.R_drewN | apply Kd.R_drew)); exact HO_7.out) hg hat); have n1_ := Aside0.mk (Kd.S_after (ok := (fun k_ => some k_ ≠ (v221 : Value).ownBlock)) (by (with_reducible repeat (first | apply Kd.S_alloc | apply Kd.S_drewN | apply Kd.S_drew)); exact HO_8.out) hg hat); have n2_ := Aside0.mk (hb); have n3_ := Aside0.mk (ho); clear HO_7; clear HO_8; clear HB; clear HO225; have HO_7 := n0_; have HO_8 := n1_; have HB := n2_; have HO229 := n3_; clear n0_ n1_ n2_ n3_; clear ho hb hg hat))
                  repeat (go_quiet (first | ((with_reducible refine gate_dst (N := 46) rfl ?_); refine Kd.R_lit (Kd.int .i64) _ 3 ?hg (N := 46) ?hd (xs := ([] : List Int)) (inner := []) (ok := fun _ => True) (okp := fun _ => True) ?hr ?hp (fun _ hk => hk) trivial (Below.refl _ _) (Nat.le_refl _) (by simp) ?_; (case hd => rfl); (case hg => rfl); (case hr => first | (go_simp; done) | (go_simp; rfl)); (case hp => exact (Reps.none _ _)); intro v224 w18 ho19 hb hg_ hnew_; clear hg_ hnew_; (first | rw [← Ny223.out] at ho19 | (simp only [Int.reduceToNat] at ho19; rw [← Ny223.out] at ho19)); have n0_ := Aside0.mk (Kd.R_elder' (by (with_reducible repeat (first | apply Kd.R_alloc | apply Kd.R_drewN | apply Kd.R_drew)); exact HO_7.out) (Kd.R_base ho19) hb); have n1_ := Aside0.mk (Kd.S_elder' (by (with_reducible repeat (first | apply Kd.S_alloc | apply Kd.S_drewN | apply Kd.S_drew)); exact HO_8.out) (Kd.R_base ho19) hb); have n2_ := Aside0.mk (Kd.R_lower (Kd.R_new' ho19 (Kd.R_lt (by (with_reducible repeat (first | apply Kd.R_alloc | apply Kd.R_drewN | apply Kd.R_drew)); exact HO_7.out))) (below_size (by repeat (first | (with_reducible first | exact HB.out | apply below_alloc | apply pw_below_drewN | apply below_drew1) | exact HB.out)))); have n3_ := Aside0.mk (below_step (by repeat (first | (with_reducible first | exact HB.out | apply below_alloc | apply pw_below_drewN | apply below_drew1) | exact HB.out)) hb); clear HO_7; clear HO_8; clear HB; have HO_7 := n0_; have HO_8 := n1_; have HO225 := n2_; have HB := n3_; clear n0_ n1_ n2_ n3_; clear hb ho19; have p226 : 0 ≤ (x9_2 : Int) := of_decide_eq_true (by first | (with_reducible assumption) | assumption); have q226 : x9_2 < (l0.length : Int) := of_decide_eq_true (by first | (with_reducible assumption) | assumption); obtain ⟨ad226, A226_0, c226_0, e226, hx226_0, hl226_0, hi226_0⟩ := at_L4 HR0.out x9_2 p226 q226; cases e226; replace hx226_0 := (HB.out.cell (World.block_lt_of_cell? w _ hx226_0)).trans hx226_0; have HR226_0 := Aside0.mk hi226_0; have HC226_0 := Aside0.mk hl226_0; clear hi226_0 hl226_0; replace p226 := eq_true p226; replace q226 := eq_true q226) | ((with_reducible refine gate_builtin (b := .append) (xs := #[.tmp 46, .tmp 50]) rfl ?_); at_builtin; refine Kd.R_append_rows (Kd.int .i64) (w0 := w) w.heap.size rfl (.tmp 46) (.tmp 50) 25 3 (.int .i64 0) 8 rfl Try.underlying25 info3 rfl (by decide) (by omega) v224 y223 (rd_L4 l0 x9_2) _ _ _ (fun k_ => some k_ ≠ (v221 : Value).ownBlock) (fun _ => False) rfl rfl ?aO ?aR (fun _ _ h => h) (fun _ h => h.elim) ?aF ?aB ?aS ?aL ?_; (case aR => repeat (first | exact (Kd.C_below HR226_0.out HB.out) | (with_reducible refine Kd.C_alloc ?_ _) | (with_reducible refine Kd.C_drewN ?_ _) | (with_reducible refine Kd.C_drew ?_))); (case aB => exact (by repeat (first | (with_reducible first | exact HB.out | apply below_alloc | apply pw_below_drewN | apply below_drew1) | exact HB.out))); (case aF => exact (fun k_ hk => Kd.fresh' (Kd.R_lt (by (with_reducible repeat (first | apply Kd.R_alloc | apply Kd.R_drewN | apply Kd.R_drew)); exact HO_7.out)) k_ hk)); (case aO => exact (by (with_reducible repeat (first | apply Kd.R_alloc | apply Kd.R_drewN | apply Kd.R_drew)); exact Kd.R_mono HO225.out (fun _ hk => hk.2))); (case aS => exact (below_size (by repeat (first | (with_reducible first | exact HB.out | apply below_alloc | apply pw_below_drewN | apply below_drew1) | exact HB.out)))); (case aL => have := LMc17.out; omega); intro v228 w20 ho hb hg hat; rw [← Ny227.out] at ho; have n0_ := Aside0.mk (Kd.R_after (ok := (fun _ => True)) (by (with_reducible repeat (first | apply Kd.R_alloc | apply Kd.R_drewN | apply Kd.R_drew)); exact HO_7.out) hg hat); have n1_ := Aside0.mk (Kd.S_after (ok := (fun k_ => some k_ ≠ (v221 : Value).ownBlock)) (by (with_reducible repeat (first | apply Kd.S_alloc | apply Kd.S_drewN | apply Kd.S_drew)); exact HO_8.out) hg hat); have n2_ := Aside0.mk (hb); have n3_ := Aside0.mk (ho); clear HO_7; clear HO_8; clear HB; clear HO225; have HO_7 := n0_; have HO_8 := n1_; have HB := n2_; have HO229 := n3_; clear n0_ n1_ n2_ n3_; clear ho hb hg hat)); try go_wp2_with (first | ((with_reducible refine gate_dst (N := 46) rfl ?_); refine Kd.R_lit (Kd.int .i64) _ 3 ?hg (N := 46) ?hd (xs := ([] : List Int)) (inner := []) (ok := fun _ => True) (okp := fun _ => True) ?hr ?hp (fun _ hk => hk) trivial (Below.refl _ _) (Nat.le_refl _) (by simp) ?_; (case hd => rfl); (case hg => rfl); (case hr => first | (go_simp; done) | (go_simp; rfl)); (case hp => exact (Reps.none _ _)); intro v224 w18 ho19 hb hg_ hnew_; clear hg_ hnew_; (first | rw [← Ny223.out] at ho19 | (simp only [Int.reduceToNat] at ho19; rw [← Ny223.out] at ho19)); have n0_ := Aside0.mk (Kd.R_elder' (by (with_reducible repeat (first | apply Kd.R_alloc | apply Kd.R_drewN | apply Kd.R_drew)); exact HO_7.out) (Kd.R_base ho19) hb); have n1_ := Aside0.mk (Kd.S_elder' (by (with_reducible repeat (first | apply Kd.S_alloc | apply Kd.S_drewN | apply Kd.S_drew)); exact HO_8.out) (Kd.R_base ho19) hb); have n2_ := Aside0.mk (Kd.R_lower (Kd.R_new' ho19 (Kd.R_lt (by (with_reducible repeat (first | apply Kd.R_alloc | apply Kd.R_drewN | apply Kd.R_drew)); exact HO_7.out))) (below_size (by repeat (first | (with_reducible first | exact HB.out | apply below_alloc | apply pw_below_drewN | apply below_drew1) | exact HB.out)))); have n3_ := Aside0.mk (below_step (by repeat (first | (with_reducible first | exact HB.out | apply below_alloc | apply pw_below_drewN | apply below_drew1) | exact HB.out)) hb); clear HO_7; clear HO_8; clear HB; have HO_7 := n0_; have HO_8 := n1_; have HO225 := n2_; have HB := n3_; clear n0_ n1_ n2_ n3_; clear hb ho19; have p226 : 0 ≤ (x9_2 : Int) := of_decide_eq_true (by first | (with_reducible assumption) | assumption); have q226 : x9_2 < (l0.length : Int) := of_decide_eq_true (by first | (with_reducible assumption) | assumption); obtain ⟨ad226, A226_0, c226_0, e226, hx226_0, hl226_0, hi226_0⟩ := at_L4 HR0.out x9_2 p226 q226; cases e226; replace hx226_0 := (HB.out.cell (World.block_lt_of_cell? w _ hx226_0)).trans hx226_0; have HR226_0 := Aside0.mk hi226_0; have HC226_0 := Aside0.mk hl226_0; clear hi226_0 hl226_0; replace p226 := eq_true p226; replace q226 := eq_true q226) | ((with_reducible refine gate_builtin (b := .append) (xs := #[.tmp 46, .tmp 50]) rfl ?_); at_builtin; refine Kd.R_append_rows (Kd.int .i64) (w0 := w) w.heap.size rfl (.tmp 46) (.tmp 50) 25 3 (.int .i64 0) 8 rfl Try.underlying25 info3 rfl (by decide) (by omega) v224 y223 (rd_L4 l0 x9_2) _ _ _ (fun k_ => some k_ ≠ (v221 : Value).ownBlock) (fun _ => False) rfl rfl ?aO ?aR (fun _ _ h => h) (fun _ h => h.elim) ?aF ?aB ?aS ?aL ?_; (case aR => repeat (first | exact (Kd.C_below HR226_0.out HB.out) | (with_reducible refine Kd.C_alloc ?_ _) | (with_reducible refine Kd.C_drewN ?_ _) | (with_reducible refine Kd.C_drew ?_))); (case aB => exact (by repeat (first | (with_reducible first | exact HB.out | apply below_alloc | apply pw_below_drewN | apply below_drew1) | exact HB.out))); (case aF => exact (fun k_ hk => Kd.fresh' (Kd.R_lt (by (with_reducible repeat (first | apply Kd.R_alloc | apply Kd.R_drewN | apply Kd.R_drew)); exact HO_7.out)) k_ hk)); (case aO => exact (by (with_reducible repeat (first | apply Kd.R_alloc | apply Kd.R_drewN | apply Kd.R_drew)); exact Kd.R_mono HO225.out (fun _ hk => hk.2))); (case aS => exact (below_size (by repeat (first | (with_reducible first | exact HB.out | apply below_alloc | apply pw_below_drewN | apply below_drew1) | exact HB.out)))); (case aL => have := LMc17.out; omega); intro v228 w20 ho hb hg hat; rw [← Ny227.out] at ho; have n0_ := Aside0.mk (Kd.R_after (ok := (fun _ => True)) (by (with_reducible repeat (first | apply Kd.R_alloc | apply Kd.R_drewN | apply Kd.R_drew)); exact HO_7.out) hg hat); have n1_ := Aside0.mk (Kd.S_after (ok := (fun k_ => some k_ ≠ (v221 : Value).ownBlock)) (by (with_reducible repeat (first | apply Kd.S_alloc | apply Kd.S_drewN | apply Kd.S_drew)); exact HO_8.out) hg hat); have n2_ := Aside0.mk (hb); have n3_ := Aside0.mk (ho); clear HO_7; clear HO_8; clear HB; clear HO225; have HO_7 := n0_; have HO_8 := n1_; have HB := n2_; have HO229 := n3_; clear n0_ n1_ n2_ n3_; clear ho hb hg hat)))
                  go_loopg [11] k2 (fun kq v11 w' => ∃ (x10_3 : List Int) (x11_3 : Int), v11 = .int .i64 x11_3 ∧ Aside0 (ropewalkref02_Plain.l3 kq l0 x7_2 x8_2 x9_2 x10_3 x11_3 = some r) ∧ Aside0 (kq ≤ k2) ∧ Aside0 (Kd.R (Kd.int .i64) 3 w' w.heap.size (fun k_ => some k_ ≠ (v228 : Value).ownBlock) v221 x7_2) ∧ Aside0 (Kd.S (Kd.slice 3 (Kd.int .i64)) 25 w' w.heap.size (fun k_ => some k_ ≠ (v221 : Value).ownBlock ∧ some k_ ≠ (v228 : Value).ownBlock) u8 x8_2) ∧ Aside0 (Kd.R (Kd.int .i64) 3 w' w.heap.size (fun k_ => some k_ ≠ (v221 : Value).ownBlock) v228 x10_3) ∧ Aside0 (Below w.heap.size w w'))
                  case atStart => exact ⟨(y227), (0), (by first | rfl | (simp; done) | (simp [*]; done)), H', ⟨Nat.le_refl _⟩, ⟨by (with_reducible repeat (first | apply Kd.R_alloc | apply Kd.R_drewN | apply Kd.R_drew)); exact Kd.R_mono HO_7.out (fun _ hk => hk.2)⟩, ⟨by (with_reducible repeat (first | apply Kd.S_alloc | apply Kd.S_drewN | apply Kd.S_drew)); exact HO_8.out⟩, ⟨by (with_reducible repeat (first | apply Kd.R_alloc | apply Kd.R_drewN | apply Kd.R_drew)); exact HO229.out⟩, ⟨by repeat (first | (with_reducible first | exact HB.out | apply below_alloc | apply pw_below_drewN | apply below_drew1) | exact HB.out)⟩⟩
                  case round =>
                    clear H'
                    try clear c1
                    try clear c2
                    try clear c2b0
                    try clear p2
                    try clear q2
                    try clear hx2
                    try clear c3
                    try clear c3b0
                    try clear c4
                    try clear c6
                    try clear c6b0
                    try clear p6
                    try clear c7
                    try clear c7b0
                    try clear c8
                    try clear c15
                    try clear c15b0
                    try clear c16
                    try clear c16b0
                    try clear c17
                    try clear hx212_0
                    try clear hx216_0
                    try clear hx226_0
                    try clear p2
                    try clear p212
                    try clear p216
                    try clear p226
                    try clear p6
                    try clear q2
                    try clear q212
                    try clear q216
                    try clear q226
                    obtain ⟨x10_3, x11_3, rfl, HA, HK3, HO_7, HO_8, HO_10, HB⟩ := hrel
                    cases gk with
                    | zero => exact absurd HA.out (by simp [ropewalkref02_Plain.l3])
                    | succ k3 =>
                      have H := HA.out
                      clear HA
                      simp only [ropewalkref02_Plain.l3] at H
                      by_cases c21 : x11_3 < (x10_3.length : Int)
                      · rw [if_pos c21] at H
                        have c21b0 : decide (x11_3 < (x10_3.length : Int)) = true := decide_eq_true c21
                        clear c21
                        have H' := Aside0.mk H
                        clear H
                        obtain ⟨Ao22, co22, eo22⟩ := Kd.R_slice HO_10.out
                        subst eo22
                        go_wp2
                        repeat (go_quiet (fail); try go_wp2)
                        go_loopg [12] k3 (fun kq v12 w' => ∃ (x10_4 : List Int) (x12_4 : Int), v12 = .int .i64 x12_4 ∧ Aside0 (ropewalkref02_Plain.l4 kq l0 x7_2 x8_2 x9_2 x10_4 x11_3 x12_4 = some r) ∧ Aside0 (kq ≤ k3) ∧ Aside0 (Kd.R (Kd.int .i64) 3 w' w.heap.size (fun k_ => some k_ ≠ ((.slice Ao22 x10_3.length co22) : Value).ownBlock) v221 x7_2) ∧ Aside0 (Kd.S (Kd.slice 3 (Kd.int .i64)) 25 w' w.heap.size (fun k_ => some k_ ≠ (v221 : Value).ownBlock ∧ some k_ ≠ ((.slice Ao22 x10_3.length co22) : Value).ownBlock) u8 x8_2) ∧ Aside0 (Kd.R (Kd.int .i64) 3 w' w.heap.size (fun k_ => some k_ ≠ (v221 : Value).ownBlock) (.slice Ao22 x10_3.length co22) x10_4) ∧ Aside0 (Below w.heap.size w w'))
                        case atStart => exact ⟨(x10_3), (0), (by first | rfl | (simp; done) | (simp [*]; done)), H', ⟨Nat.le_refl _⟩, ⟨by (with_reducible repeat (first | apply Kd.R_alloc | apply Kd.R_drewN | apply Kd.R_drew)); exact HO_7.out⟩, ⟨by (with_reducible repeat (first | apply Kd.S_alloc | apply Kd.S_drewN | apply Kd.S_drew)); exact HO_8.out⟩, ⟨by (with_reducible repeat (first | apply Kd.R_alloc | apply Kd.R_drewN | apply Kd.R_drew)); exact HO_10.out⟩, ⟨by repeat (first | (with_reducible first | exact HB.out | apply below_alloc | apply pw_below_drewN | apply below_drew1) | exact HB.out)⟩⟩
                        case round =>
                          clear H'
                          try clear c1
                          try clear c2
                          try clear c2b0
                          try clear p2
                          try clear q2
                          try clear hx2
                          try clear c3
                          try clear c3b0
                          try clear c4
                          try clear c6
                          try clear c6b0
                          try clear p6
                          try clear c7
                          try clear c7b0
                          try clear c8
                          try clear c15
                          try clear c15b0
                          try clear c16
                          try clear c16b0
                          try clear c17
                          try clear c21
                          try clear c21b0
                          try clear p21
                          try clear q21
                          try clear hx21
                          try clear c22
                          try clear p22
                          try clear q22
                          try clear hx22
                          try clear hx212_0
                          try clear hx216_0
                          try clear hx226_0
                          try clear p2
                          try clear p212
                          try clear p216
                          try clear p226
                          try clear p6
                          try clear q2
                          try clear q212
                          try clear q216
                          try clear q226
                          obtain ⟨x10_4, x12_4, rfl, HA, HK4, HO_7, HO_8, HO_10, HB⟩ := hrel
                          have hl10_4 := (Kd.R_reads' HO_10.out).1
                          rw [hl10_4] at HO_10
                          (try simp only [hl10_4])
                          (try simp only [hl10_4] at HO_7)
                          (try simp only [hl10_4] at HO_8)
                          cases gk with
                          | zero => exact absurd HA.out (by simp [ropewalkref02_Plain.l4])
                          | succ k4 =>
                            have H := HA.out
                            clear HA
                            simp only [ropewalkref02_Plain.l4] at H
                            by_cases c23 : x12_4 < (x7_2.length : Int)
                            · rw [if_pos c23] at H
                              have c23b0 : decide (x12_4 < (x7_2.length : Int)) = true := decide_eq_true c23
                              clear c23
                              by_cases c24 : 0 ≤ x9_2
                              · rw [if_pos c24] at H
                                have c24b0 : decide (0 ≤ x9_2) = true := decide_eq_true c24
                                clear c24
                                by_cases c25 : x9_2 < (l0.length : Int)
                                · rw [if_pos c25] at H
                                  have c25b0 : decide (x9_2 < (l0.length : Int)) = true := decide_eq_true c25
                                  clear c25
                                  by_cases c26 : 0 ≤ x11_3
                                  · rw [if_pos c26] at H
                                    have c26b0 : decide (0 ≤ x11_3) = true := decide_eq_true c26
                                    clear c26
                                    by_cases c27 : x11_3 < ((rd_L4 l0 x9_2).length : Int)
                                    · rw [if_pos c27] at H
                                      have c27b0 : decide (x11_3 < ((rd_L4 l0 x9_2).length : Int)) = true := decide_eq_true c27
                                      clear c27
                                      by_cases c28 : 0 ≤ x12_4
                                      · rw [if_pos c28] at H
                                        have c28b0 : decide (0 ≤ x12_4) = true := decide_eq_true c28
                                        clear c28
                                        by_cases c29 : (rd (rd_L4 l0 x9_2) x11_3) = (wrap64 (-(rd x7_2 x12_4)))
                                        · rw [if_pos c29] at H
                                          have c29b0 : ((rd (rd_L4 l0 x9_2) x11_3) == (wrap64 (-(rd x7_2 x12_4)))) = true := beq_iff_eq.mpr c29
                                          have c29b1 : ((rd (rd_L4 l0 x9_2) x11_3) != (wrap64 (-(rd x7_2 x12_4)))) = false := bne_eq_false_iff_eq.mpr c29
                                          clear c29
                                          by_cases c30 : x11_3 < (x10_4.length : Int)
                                          · rw [if_pos c30] at H
                                            have c30b0 : decide (x11_3 < (x10_4.length : Int)) = true := decide_eq_true c30
                                            clear c30
                                            obtain ⟨y236, hy236⟩ : ∃ y_ : List Int, y_ = (x10_4.set (x11_3 : Int).toNat (wrap64 (-(wrap64 (x12_4 + 1))))) := ⟨_, rfl⟩
                                            replace H : (ropewalkref02_Plain.l4 k4 l0 x7_2 x8_2 x9_2 y236 x11_3 (wrap64 (x12_4 + 1))) = some r := by first | (rw [hy236]; with_reducible exact H) | (have H2_ := (Option.bind_some _ _).symm.trans H; rw [hy236]; with_reducible exact H2_) | (have H2_ := (Option.bind_some _ _).symm.trans H; with_reducible exact H2_) | with_reducible exact H | (rw [hy236]; exact H) | exact H
                                            have Ny236 := Aside0.mk hy236
                                            clear hy236
                                            have H' := Aside0.mk H
                                            clear H
                                            obtain ⟨Ao32, co32, eo32⟩ := Kd.R_slice HO_7.out
                                            subst eo32
                                            have p233 : 0 ≤ (x9_2 : Int) := of_decide_eq_true (by first | (with_reducible assumption) | assumption)
                                            have q233 : x9_2 < (l0.length : Int) := of_decide_eq_true (by first | (with_reducible assumption) | assumption)
                                            obtain ⟨ad233, A233_0, c233_0, e233, hx233_0, hl233_0, hi233_0⟩ := at_L4 HR0.out x9_2 p233 q233
                                            obtain rfl : ad226 = ad233 := (by injection e233)
                                            replace hx233_0 := (HB.out.cell (World.block_lt_of_cell? w _ hx233_0)).trans hx233_0
                                            have HR233_0 := Aside0.mk hi233_0
                                            have HC233_0 := Aside0.mk hl233_0
                                            clear hi233_0 hl233_0
                                            replace p233 := eq_true p233
                                            replace q233 := eq_true q233
                                            have p234 : 0 ≤ (x11_3 : Int) := of_decide_eq_true (by first | (with_reducible assumption) | assumption)
                                            have q234 : x11_3 < ((rd_L4 l0 x9_2).length : Int) := of_decide_eq_true (by first | (with_reducible assumption) | assumption)
                                            obtain ⟨ad234, e234, hx234_0⟩ := Kd.at_int HR233_0.out x11_3 p234 q234
                                            cases e234
                                            replace hx234_0 := (HB.out.cell (World.block_lt_of_cell? w _ hx234_0)).trans hx234_0
                                            replace p234 := eq_true p234
                                            replace q234 := eq_true q234
                                            have p235 : 0 ≤ (x12_4 : Int) := of_decide_eq_true (by first | (with_reducible assumption) | assumption)
                                            have q235 : x12_4 < (x7_2.length : Int) := of_decide_eq_true (by first | (with_reducible assumption) | assumption)
                                            obtain ⟨ad235, e235, hx235_0⟩ := Kd.at_int (Kd.R_reads' HO_7.out).2.2 x12_4 p235 q235
                                            cases e235
                                            replace p235 := eq_true p235
                                            replace q235 := eq_true q235
                                            have p31 : 0 ≤ (x11_3 : Int) := of_decide_eq_true (by first | (with_reducible assumption) | assumption)
                                            have q31 : (x11_3 : Int) < ((x10_4.length : Int) : Int) := of_decide_eq_true (by first | (with_reducible assumption) | assumption)
                                            obtain ⟨go31, co31, eo31, gb31, gl31, cl31, HG31⟩ := Kd.R_form HO_10.out (by omega)
                                            (first | cases eo31 | (injection eo31 with ea_ en_ ec_; (first | subst ea_ | (injection ea_ with ea_; subst ea_)); subst ec_; clear en_))
                                            have GB31 := Aside0.mk gb31
                                            have GG31 := Aside0.mk HG31
                                            clear gb31 gl31 HG31
                                            obtain ⟨hx31_0, hf31_0⟩ := Kd.R_celln 0 HO_10.out (x11_3 : Int) p31 q31
                                            replace p31 := eq_true p31
                                            replace q31 := eq_true q31
                                            have HP33 := Kd.R_putg HO_10.out (x11_3 : Int) (wrap64 (-(wrap64 (x12_4 + 1))))
                                            go_wp2_with (first | ((with_reducible refine gate_store (t := 3) (p := 82) rfl ?_); (try (rw [drewN_self wr]; generalize hq_ : World.drewN wr _ = wr; have n0_ := Aside0.mk (Kd.R_at hq_ HO_7.out); have n1_ := Aside0.mk (Kd.S_at hq_ HO_8.out); have n2_ := Aside0.mk (Kd.R_at hq_ HO_10.out); have n3_ := Aside0.mk (below_at hq_ HB.out); clear hq_ HO_7 HO_8 HO_10 HB; have HO_7 := n0_; have HO_8 := n1_; have HO_10 := n2_; have HB := n3_; clear n0_ n1_ n2_ n3_; (try (have HP33 := Kd.R_putg HO_10.out (x11_3 : Int) (wrap64 (-(wrap64 (x12_4 + 1)))))))); refine store_event (t := 3) (p := 82) (v := ?vo_w34) (w1 := (wr.setCell ⟨go31, (x11_3 : Int).toNat, none⟩ (.int .i64 (wrap64 (-(wrap64 (x12_4 + 1))))))) ?hg ?ho ?hn ?hr ?_; (case ho => rfl); (case hg => rfl); (case hn => rfl); (case hr => first | (go_simp; done) | (go_simp; rfl)); intro w34 hw; have hg : wr.grownBy w34 (some go31) := (by rw [hw]; exact HP33.2); have hp_ : Kd.R (Kd.int .i64) 3 w34 w.heap.size (fun k_ => some k_ ≠ (.slice (some ad235) x7_2.length co32 : Value).ownBlock) (.slice (some ⟨go31, 0, none⟩) x10_4.length co22) y236 := (by rw [hw, Ny236.out]; exact HP33.1); clear HP33; have n0_ := Aside0.mk (Kd.R_after (v := (.slice (some ⟨go31, 0, none⟩) x10_4.length co22)) (v1 := (.slice (some ⟨go31, 0, none⟩) x10_4.length co22)) (ok := (fun _ => True)) (by (with_reducible repeat (first | apply Kd.R_alloc | apply Kd.R_drewN | apply Kd.R_drew)); exact Kd.R_mono HO_7.out (fun _ hk => ⟨trivial, hk⟩)) hg (.inl rfl)); have n1_ := Aside0.mk (Kd.S_after (v := (.slice (some ⟨go31, 0, none⟩) x10_4.length co22)) (v1 := (.slice (some ⟨go31, 0, none⟩) x10_4.length co22)) (ok := (fun k_ => some k_ ≠ (.slice (some ad235) x7_2.length co32 : Value).ownBlock)) (by (with_reducible repeat (first | apply Kd.S_alloc | apply Kd.S_drewN | apply Kd.S_drew)); exact HO_8.out) hg (.inl rfl)); have n2_ := Aside0.mk (hp_); have n3_ := Aside0.mk ((by rw [hw]; exact below_set (HB.out) GB31.out : Below w.heap.size w w34)); clear HO_7; clear HO_8; clear HO_10; clear HB; have HO_7 := n0_; have HO_8 := n1_; have HO_10 := n2_; have HB := n3_; clear n0_ n1_ n2_ n3_; clear hg hw hp_))
                                            repeat (go_quiet (first | ((with_reducible refine gate_store (t := 3) (p := 82) rfl ?_); (try (rw [drewN_self wr]; generalize hq_ : World.drewN wr _ = wr; have n0_ := Aside0.mk (Kd.R_at hq_ HO_7.out); have n1_ := Aside0.mk (Kd.S_at hq_ HO_8.out); have n2_ := Aside0.mk (Kd.R_at hq_ HO_10.out); have n3_ := Aside0.mk (below_at hq_ HB.out); clear hq_ HO_7 HO_8 HO_10 HB; have HO_7 := n0_; have HO_8 := n1_; have HO_10 := n2_; have HB := n3_; clear n0_ n1_ n2_ n3_; (try (have HP33 := Kd.R_putg HO_10.out (x11_3 : Int) (wrap64 (-(wrap64 (x12_4 + 1)))))))); refine store_event (t := 3) (p := 82) (v := ?vo_w34) (w1 := (wr.setCell ⟨go31, (x11_3 : Int).toNat, none⟩ (.int .i64 (wrap64 (-(wrap64 (x12_4 + 1))))))) ?hg ?ho ?hn ?hr ?_; (case ho => rfl); (case hg => rfl); (case hn => rfl); (case hr => first | (go_simp; done) | (go_simp; rfl)); intro w34 hw; have hg : wr.grownBy w34 (some go31) := (by rw [hw]; exact HP33.2); have hp_ : Kd.R (Kd.int .i64) 3 w34 w.heap.size (fun k_ => some k_ ≠ (.slice (some ad235) x7_2.length co32 : Value).ownBlock) (.slice (some ⟨go31, 0, none⟩) x10_4.length co22) y236 := (by rw [hw, Ny236.out]; exact HP33.1); clear HP33; have n0_ := Aside0.mk (Kd.R_after (v := (.slice (some ⟨go31, 0, none⟩) x10_4.length co22)) (v1 := (.slice (some ⟨go31, 0, none⟩) x10_4.length co22)) (ok := (fun _ => True)) (by (with_reducible repeat (first | apply Kd.R_alloc | apply Kd.R_drewN | apply Kd.R_drew)); exact Kd.R_mono HO_7.out (fun _ hk => ⟨trivial, hk⟩)) hg (.inl rfl)); have n1_ := Aside0.mk (Kd.S_after (v := (.slice (some ⟨go31, 0, none⟩) x10_4.length co22)) (v1 := (.slice (some ⟨go31, 0, none⟩) x10_4.length co22)) (ok := (fun k_ => some k_ ≠ (.slice (some ad235) x7_2.length co32 : Value).ownBlock)) (by (with_reducible repeat (first | apply Kd.S_alloc | apply Kd.S_drewN | apply Kd.S_drew)); exact HO_8.out) hg (.inl rfl)); have n2_ := Aside0.mk (hp_); have n3_ := Aside0.mk ((by rw [hw]; exact below_set (HB.out) GB31.out : Below w.heap.size w w34)); clear HO_7; clear HO_8; clear HO_10; clear HB; have HO_7 := n0_; have HO_8 := n1_; have HO_10 := n2_; have HB := n3_; clear n0_ n1_ n2_ n3_; clear hg hw hp_)); try go_wp2_with (first | ((with_reducible refine gate_store (t := 3) (p := 82) rfl ?_); (try (rw [drewN_self wr]; generalize hq_ : World.drewN wr _ = wr; have n0_ := Aside0.mk (Kd.R_at hq_ HO_7.out); have n1_ := Aside0.mk (Kd.S_at hq_ HO_8.out); have n2_ := Aside0.mk (Kd.R_at hq_ HO_10.out); have n3_ := Aside0.mk (below_at hq_ HB.out); clear hq_ HO_7 HO_8 HO_10 HB; have HO_7 := n0_; have HO_8 := n1_; have HO_10 := n2_; have HB := n3_; clear n0_ n1_ n2_ n3_; (try (have HP33 := Kd.R_putg HO_10.out (x11_3 : Int) (wrap64 (-(wrap64 (x12_4 + 1)))))))); refine store_event (t := 3) (p := 82) (v := ?vo_w34) (w1 := (wr.setCell ⟨go31, (x11_3 : Int).toNat, none⟩ (.int .i64 (wrap64 (-(wrap64 (x12_4 + 1))))))) ?hg ?ho ?hn ?hr ?_; (case ho => rfl); (case hg => rfl); (case hn => rfl); (case hr => first | (go_simp; done) | (go_simp; rfl)); intro w34 hw; have hg : wr.grownBy w34 (some go31) := (by rw [hw]; exact HP33.2); have hp_ : Kd.R (Kd.int .i64) 3 w34 w.heap.size (fun k_ => some k_ ≠ (.slice (some ad235) x7_2.length co32 : Value).ownBlock) (.slice (some ⟨go31, 0, none⟩) x10_4.length co22) y236 := (by rw [hw, Ny236.out]; exact HP33.1); clear HP33; have n0_ := Aside0.mk (Kd.R_after (v := (.slice (some ⟨go31, 0, none⟩) x10_4.length co22)) (v1 := (.slice (some ⟨go31, 0, none⟩) x10_4.length co22)) (ok := (fun _ => True)) (by (with_reducible repeat (first | apply Kd.R_alloc | apply Kd.R_drewN | apply Kd.R_drew)); exact Kd.R_mono HO_7.out (fun _ hk => ⟨trivial, hk⟩)) hg (.inl rfl)); have n1_ := Aside0.mk (Kd.S_after (v := (.slice (some ⟨go31, 0, none⟩) x10_4.length co22)) (v1 := (.slice (some ⟨go31, 0, none⟩) x10_4.length co22)) (ok := (fun k_ => some k_ ≠ (.slice (some ad235) x7_2.length co32 : Value).ownBlock)) (by (with_reducible repeat (first | apply Kd.S_alloc | apply Kd.S_drewN | apply Kd.S_drew)); exact HO_8.out) hg (.inl rfl)); have n2_ := Aside0.mk (hp_); have n3_ := Aside0.mk ((by rw [hw]; exact below_set (HB.out) GB31.out : Below w.heap.size w w34)); clear HO_7; clear HO_8; clear HO_10; clear HB; have HO_7 := n0_; have HO_8 := n1_; have HO_10 := n2_; have HB := n3_; clear n0_ n1_ n2_ n3_; clear hg hw hp_)))
                                            (try simp only [← hl10_4])
                                            go_roundg k4
                                            case measure => have := HK1.out; have := HK2.out; have := HK3.out; have := HK4.out; omega
                                            case rel => exact ⟨(y236), (wrap64 (x12_4 + 1)), (by first | rfl | (simp; done) | (simp [*]; done)), H', ⟨by have := HK1.out; have := HK2.out; have := HK3.out; have := HK4.out; omega⟩, ⟨Kd.R_far (Kd.R_drewN HO_7.out _) (p := ⟨go31, (x11_3 : Int).toNat, none⟩) (fun k hk e => hk (by rw [e]; rfl)) _⟩, ⟨Kd.S_far (Kd.S_drewN HO_8.out _) (p := ⟨go31, (x11_3 : Int).toNat, none⟩) (fun k hk e => hk.2 (by rw [e]; rfl)) _⟩, ⟨by (try simp only [hl10_4]); rw [Ny236.out]; exact (Kd.R_putg (Kd.R_drewN HO_10.out nq) (x11_3 : Int) (wrap64 (-(wrap64 (x12_4 + 1))))).1⟩, ⟨(pw_below_drewN HB.out _).setCell (p := ⟨go31, (x11_3 : Int).toNat, none⟩) GB31.out _⟩⟩
                                          · rw [if_neg c30] at H
                                            exact absurd H (by simp)
                                        · rw [if_neg c29] at H
                                          have c29b0 : ((rd (rd_L4 l0 x9_2) x11_3) == (wrap64 (-(rd x7_2 x12_4)))) = false := beq_eq_false_iff_ne.mpr c29
                                          have c29b1 : ((rd (rd_L4 l0 x9_2) x11_3) != (wrap64 (-(rd x7_2 x12_4)))) = true := bne_iff_ne.mpr c29
                                          have H' := Aside0.mk H
                                          clear H
                                          obtain ⟨Ao35, co35, eo35⟩ := Kd.R_slice HO_7.out
                                          subst eo35
                                          have p233 : 0 ≤ (x9_2 : Int) := of_decide_eq_true (by first | (with_reducible assumption) | assumption)
                                          have q233 : x9_2 < (l0.length : Int) := of_decide_eq_true (by first | (with_reducible assumption) | assumption)
                                          obtain ⟨ad233, A233_0, c233_0, e233, hx233_0, hl233_0, hi233_0⟩ := at_L4 HR0.out x9_2 p233 q233
                                          obtain rfl : ad226 = ad233 := (by injection e233)
                                          replace hx233_0 := (HB.out.cell (World.block_lt_of_cell? w _ hx233_0)).trans hx233_0
                                          have HR233_0 := Aside0.mk hi233_0
                                          have HC233_0 := Aside0.mk hl233_0
                                          clear hi233_0 hl233_0
                                          replace p233 := eq_true p233
                                          replace q233 := eq_true q233
                                          have p234 : 0 ≤ (x11_3 : Int) := of_decide_eq_true (by first | (with_reducible assumption) | assumption)
                                          have q234 : x11_3 < ((rd_L4 l0 x9_2).length : Int) := of_decide_eq_true (by first | (with_reducible assumption) | assumption)
                                          obtain ⟨ad234, e234, hx234_0⟩ := Kd.at_int HR233_0.out x11_3 p234 q234
                                          cases e234
                                          replace hx234_0 := (HB.out.cell (World.block_lt_of_cell? w _ hx234_0)).trans hx234_0
                                          replace p234 := eq_true p234
                                          replace q234 := eq_true q234
                                          have p235 : 0 ≤ (x12_4 : Int) := of_decide_eq_true (by first | (with_reducible assumption) | assumption)
                                          have q235 : x12_4 < (x7_2.length : Int) := of_decide_eq_true (by first | (with_reducible assumption) | assumption)
                                          obtain ⟨ad235, e235, hx235_0⟩ := Kd.at_int (Kd.R_reads' HO_7.out).2.2 x12_4 p235 q235
                                          cases e235
                                          replace p235 := eq_true p235
                                          replace q235 := eq_true q235
                                          go_wp2
                                          repeat (go_quiet (fail); try go_wp2)
                                          (try simp only [← hl10_4])
                                          go_roundg k4
                                          case measure => have := HK1.out; have := HK2.out; have := HK3.out; have := HK4.out; omega
                                          case rel => exact ⟨(x10_4), (wrap64 (x12_4 + 1)), (by first | rfl | (simp; done) | (simp [*]; done)), H', ⟨by have := HK1.out; have := HK2.out; have := HK3.out; have := HK4.out; omega⟩, ⟨by (try simp only [hl10_4]); (with_reducible repeat (first | apply Kd.R_alloc | apply Kd.R_drewN | apply Kd.R_drew)); exact HO_7.out⟩, ⟨by (try simp only [hl10_4]); (with_reducible repeat (first | apply Kd.S_alloc | apply Kd.S_drewN | apply Kd.S_drew)); exact HO_8.out⟩, ⟨by (try simp only [hl10_4]); (with_reducible repeat (first | apply Kd.R_alloc | apply Kd.R_drewN | apply Kd.R_drew)); exact HO_10.out⟩, ⟨by repeat (first | (with_reducible first | exact HB.out | apply below_alloc | apply pw_below_drewN | apply below_drew1) | exact HB.out)⟩⟩
                                      · rw [if_neg c28] at H
                                        exact absurd H (by simp)
                                    · rw [if_neg c27] at H
                                      exact absurd H (by simp)
                                  · rw [if_neg c26] at H
                                    exact absurd H (by simp)
                                · rw [if_neg c25] at H
                                  exact absurd H (by simp)
                              · rw [if_neg c24] at H
                                exact absurd H (by simp)
                            · rw [if_neg c23] at H
                              have c23b0 : decide (x12_4 < (x7_2.length : Int)) = false := decide_eq_false c23
                              clear c23
                              have H' := Aside0.mk H
                              clear H
                              obtain ⟨Ao36, co36, eo36⟩ := Kd.R_slice HO_7.out
                              subst eo36
                              go_wp2
                              repeat (go_quiet (fail); try go_wp2)
                              (try simp only [← hl10_4])
                              go_roundg k4
                              case measure => have := HK1.out; have := HK2.out; have := HK3.out; have := HK4.out; omega
                              case rel => exact ⟨(x10_4), (wrap64 (x11_3 + 1)), (by first | rfl | (simp; done) | (simp [*]; done)), H', ⟨by have := HK1.out; have := HK2.out; have := HK3.out; have := HK4.out; omega⟩, ⟨by (try simp only [hl10_4]); (with_reducible repeat (first | apply Kd.R_alloc | apply Kd.R_drewN | apply Kd.R_drew)); exact HO_7.out⟩, ⟨by (try simp only [hl10_4]); (with_reducible repeat (first | apply Kd.S_alloc | apply Kd.S_drewN | apply Kd.S_drew)); exact HO_8.out⟩, ⟨by (try simp only [hl10_4]); (with_reducible repeat (first | apply Kd.R_alloc | apply Kd.R_drewN | apply Kd.R_drew)); exact HO_10.out⟩, ⟨by repeat (first | (with_reducible first | exact HB.out | apply below_alloc | apply pw_below_drewN | apply below_drew1) | exact HB.out)⟩⟩
                      · rw [if_neg c21] at H
                        have c21b0 : decide (x11_3 < (x10_3.length : Int)) = false := decide_eq_false c21
                        clear c21
                        by_cases c37 : x8_2.length < 5864062014805
                        · rw [if_pos c37] at H
                          have LMc37 := Aside0.mk c37
                          clear c37
                          obtain ⟨y230, hy230⟩ : ∃ y_ : List (List Int), y_ = (x8_2 ++ [x10_3]) := ⟨_, rfl⟩
                          replace H : (ropewalkref02_Plain.l2 k3 l0 x7_2 y230 (wrap64 (x9_2 + 1))) = some r := by first | (rw [hy230]; with_reducible exact H) | (have H2_ := (Option.bind_some _ _).symm.trans H; rw [hy230]; with_reducible exact H2_) | (have H2_ := (Option.bind_some _ _).symm.trans H; with_reducible exact H2_) | with_reducible exact H | (rw [hy230]; exact H) | exact H
                          have Ny230 := Aside0.mk hy230
                          clear hy230
                          have H' := Aside0.mk H
                          clear H
                          obtain ⟨Ao38, co38, eo38⟩ := Kd.R_slice HO_10.out
                          subst eo38
                          go_wp2_with (first | ((with_reducible refine gate_builtin (b := .append) (xs := #[.tmp 83, .tmp 85]) rfl ?_); at_builtin; refine Kd.S_append (Kd.slice 3 (Kd.int .i64)) (w0 := w) w.heap.size rfl (.tmp 83) (.tmp 85) 54 25 (.slice none 0 0) 24 rfl Try.underlying54 info25 rfl (by decide) (by omega) u8 x8_2 x10_3 [.slice Ao38 x10_3.length co38] (fun k_ => some k_ ≠ (v221 : Value).ownBlock) (fun k_ => some k_ = (.slice Ao38 x10_3.length co38 : Value).ownBlock) rfl rfl ?aP (fun k_ hk_ => ((Kd.R_mono (ok' := fun k_ => ((fun k_ => some k_ ≠ (v221 : Value).ownBlock)) k_ ∧ some k_ ≠ (u8 : Value).ownBlock) (Kd.R_apart' (HO_10.out) (Kd.S_typed HO_8.out) (by decide)) (fun k_ hk => ⟨hk.1, hk.2⟩))).1 k_ hk_.symm) ?aF ?aO ?aB ?aS ?aL ?_; (case aP => exact Kd.M_row (Kd.R_mono (Kd.R_tight rfl (Kd.R_mono (ok' := fun k_ => ((fun k_ => some k_ ≠ (v221 : Value).ownBlock)) k_ ∧ some k_ ≠ (u8 : Value).ownBlock) (Kd.R_apart' (HO_10.out) (Kd.S_typed HO_8.out) (by decide)) (fun k_ hk => ⟨hk.1, hk.2⟩))) (fun _ h_ => h_))); (case aB => exact (by repeat (first | (with_reducible first | exact HB.out | apply below_alloc | apply pw_below_drewN | apply below_drew1) | exact HB.out))); (case aF => exact (fun k_ hk => Kd.fresh' (Kd.R_lt (by (with_reducible repeat (first | apply Kd.R_alloc | apply Kd.R_drewN | apply Kd.R_drew)); exact HO_7.out)) k_ hk)); (case aO => exact (by (with_reducible repeat (first | apply Kd.S_alloc | apply Kd.S_drewN | apply Kd.S_drew)); exact Kd.S_mono HO_8.out (fun k_ hk => ⟨hk.1, fun e_ => hk.2 e_⟩))); (case aS => exact (below_size (by repeat (first | (with_reducible first | exact HB.out | apply below_alloc | apply pw_below_drewN | apply below_drew1) | exact HB.out)))); (case aL => have := LMc37.out; omega); intro v231 w39 ho hb hg hat; rw [← Ny230.out] at ho; have n0_ := Aside0.mk (Kd.R_over' (by (with_reducible repeat (first | apply Kd.R_alloc | apply Kd.R_drewN | apply Kd.R_drew)); exact HO_7.out) (Kd.S_typed (by (with_reducible repeat (first | apply Kd.S_alloc | apply Kd.S_drewN | apply Kd.S_drew)); exact HO_8.out)) (by decide) hg); have n1_ := Aside0.mk (hb); have n2_ := Aside0.mk (ho); clear HO_7; clear HB; clear HO_8; clear HO_10; have HO_7 := n0_; have HB := n1_; have HO232 := n2_; clear n0_ n1_ n2_; clear ho hb hg hat))
                          repeat (go_quiet (first | ((with_reducible refine gate_builtin (b := .append) (xs := #[.tmp 83, .tmp 85]) rfl ?_); at_builtin; refine Kd.S_append (Kd.slice 3 (Kd.int .i64)) (w0 := w) w.heap.size rfl (.tmp 83) (.tmp 85) 54 25 (.slice none 0 0) 24 rfl Try.underlying54 info25 rfl (by decide) (by omega) u8 x8_2 x10_3 [.slice Ao38 x10_3.length co38] (fun k_ => some k_ ≠ (v221 : Value).ownBlock) (fun k_ => some k_ = (.slice Ao38 x10_3.length co38 : Value).ownBlock) rfl rfl ?aP (fun k_ hk_ => ((Kd.R_mono (ok' := fun k_ => ((fun k_ => some k_ ≠ (v221 : Value).ownBlock)) k_ ∧ some k_ ≠ (u8 : Value).ownBlock) (Kd.R_apart' (HO_10.out) (Kd.S_typed HO_8.out) (by decide)) (fun k_ hk => ⟨hk.1, hk.2⟩))).1 k_ hk_.symm) ?aF ?aO ?aB ?aS ?aL ?_; (case aP => exact Kd.M_row (Kd.R_mono (Kd.R_tight rfl (Kd.R_mono (ok' := fun k_ => ((fun k_ => some k_ ≠ (v221 : Value).ownBlock)) k_ ∧ some k_ ≠ (u8 : Value).ownBlock) (Kd.R_apart' (HO_10.out) (Kd.S_typed HO_8.out) (by decide)) (fun k_ hk => ⟨hk.1, hk.2⟩))) (fun _ h_ => h_))); (case aB => exact (by repeat (first | (with_reducible first | exact HB.out | apply below_alloc | apply pw_below_drewN | apply below_drew1) | exact HB.out))); (case aF => exact (fun k_ hk => Kd.fresh' (Kd.R_lt (by (with_reducible repeat (first | apply Kd.R_alloc | apply Kd.R_drewN | apply Kd.R_drew)); exact HO_7.out)) k_ hk)); (case aO => exact (by (with_reducible repeat (first | apply Kd.S_alloc | apply Kd.S_drewN | apply Kd.S_drew)); exact Kd.S_mono HO_8.out (fun k_ hk => ⟨hk.1, fun e_ => hk.2 e_⟩))); (case aS => exact (below_size (by repeat (first | (with_reducible first | exact HB.out | apply below_alloc | apply pw_below_drewN | apply below_drew1) | exact HB.out)))); (case aL => have := LMc37.out; omega); intro v231 w39 ho hb hg hat; rw [← Ny230.out] at ho; have n0_ := Aside0.mk (Kd.R_over' (by (with_reducible repeat (first | apply Kd.R_alloc | apply Kd.R_drewN | apply Kd.R_drew)); exact HO_7.out) (Kd.S_typed (by (with_reducible repeat (first | apply Kd.S_alloc | apply Kd.S_drewN | apply Kd.S_drew)); exact HO_8.out)) (by decide) hg); have n1_ := Aside0.mk (hb); have n2_ := Aside0.mk (ho); clear HO_7; clear HB; clear HO_8; clear HO_10; have HO_7 := n0_; have HB := n1_; have HO232 := n2_; clear n0_ n1_ n2_; clear ho hb hg hat)); try go_wp2_with (first | ((with_reducible refine gate_builtin (b := .append) (xs := #[.tmp 83, .tmp 85]) rfl ?_); at_builtin; refine Kd.S_append (Kd.slice 3 (Kd.int .i64)) (w0 := w) w.heap.size rfl (.tmp 83) (.tmp 85) 54 25 (.slice none 0 0) 24 rfl Try.underlying54 info25 rfl (by decide) (by omega) u8 x8_2 x10_3 [.slice Ao38 x10_3.length co38] (fun k_ => some k_ ≠ (v221 : Value).ownBlock) (fun k_ => some k_ = (.slice Ao38 x10_3.length co38 : Value).ownBlock) rfl rfl ?aP (fun k_ hk_ => ((Kd.R_mono (ok' := fun k_ => ((fun k_ => some k_ ≠ (v221 : Value).ownBlock)) k_ ∧ some k_ ≠ (u8 : Value).ownBlock) (Kd.R_apart' (HO_10.out) (Kd.S_typed HO_8.out) (by decide)) (fun k_ hk => ⟨hk.1, hk.2⟩))).1 k_ hk_.symm) ?aF ?aO ?aB ?aS ?aL ?_; (case aP => exact Kd.M_row (Kd.R_mono (Kd.R_tight rfl (Kd.R_mono (ok' := fun k_ => ((fun k_ => some k_ ≠ (v221 : Value).ownBlock)) k_ ∧ some k_ ≠ (u8 : Value).ownBlock) (Kd.R_apart' (HO_10.out) (Kd.S_typed HO_8.out) (by decide)) (fun k_ hk => ⟨hk.1, hk.2⟩))) (fun _ h_ => h_))); (case aB => exact (by repeat (first | (with_reducible first | exact HB.out | apply below_alloc | apply pw_below_drewN | apply below_drew1) | exact HB.out))); (case aF => exact (fun k_ hk => Kd.fresh' (Kd.R_lt (by (with_reducible repeat (first | apply Kd.R_alloc | apply Kd.R_drewN | apply Kd.R_drew)); exact HO_7.out)) k_ hk)); (case aO => exact (by (with_reducible repeat (first | apply Kd.S_alloc | apply Kd.S_drewN | apply Kd.S_drew)); exact Kd.S_mono HO_8.out (fun k_ hk => ⟨hk.1, fun e_ => hk.2 e_⟩))); (case aS => exact (below_size (by repeat (first | (with_reducible first | exact HB.out | apply below_alloc | apply pw_below_drewN | apply below_drew1) | exact HB.out)))); (case aL => have := LMc37.out; omega); intro v231 w39 ho hb hg hat; rw [← Ny230.out] at ho; have n0_ := Aside0.mk (Kd.R_over' (by (with_reducible repeat (first | apply Kd.R_alloc | apply Kd.R_drewN | apply Kd.R_drew)); exact HO_7.out) (Kd.S_typed (by (with_reducible repeat (first | apply Kd.S_alloc | apply Kd.S_drewN | apply Kd.S_drew)); exact HO_8.out)) (by decide) hg); have n1_ := Aside0.mk (hb); have n2_ := Aside0.mk (ho); clear HO_7; clear HB; clear HO_8; clear HO_10; have HO_7 := n0_; have HB := n1_; have HO232 := n2_; clear n0_ n1_ n2_; clear ho hb hg hat)))
                          go_roundg k3
                          case measure => have := HK1.out; have := HK2.out; have := HK3.out; omega
                          case rel => exact ⟨(x7_2), (y230), (wrap64 (x9_2 + 1)), (by first | rfl | (simp; done) | (simp [*]; done)), H', ⟨by have := HK1.out; have := HK2.out; have := HK3.out; omega⟩, ⟨by (with_reducible repeat (first | apply Kd.R_alloc | apply Kd.R_drewN | apply Kd.R_drew)); exact Kd.R_mono HO_7.out (fun _ hk => trivial)⟩, ⟨by (with_reducible repeat (first | apply Kd.S_alloc | apply Kd.S_drewN | apply Kd.S_drew)); exact HO232.out⟩, ⟨by repeat (first | (with_reducible first | exact HB.out | apply below_alloc | apply pw_below_drewN | apply below_drew1) | exact HB.out)⟩⟩
                        · rw [if_neg c37] at H
                          exact absurd H (by simp)
                · rw [if_neg c17] at H
                  exact absurd H (by simp)
              · rw [if_neg c16] at H
                exact absurd H (by simp)
            · rw [if_neg c15] at H
              have c15b0 : decide (x9_2 < (l0.length : Int)) = false := decide_eq_false c15
              clear c15
              obtain rfl := Option.some.inj H
              go_wp2
              repeat (go_quiet (fail); try go_wp2)
              go_ret
              exact ⟨_, by first | rfl | (simp [errW_none, errW_some] <;> rfl) | (simp [*, errW_none, errW_some] <;> rfl), by (with_reducible repeat (first | apply Kd.S_alloc | apply Kd.S_drewN | apply Kd.S_drew)); exact Kd.S_mono HO_8.out (fun _ hk => trivial), by repeat (first | (with_reducible first | exact HB.out | apply below_alloc | apply pw_below_drewN | apply below_drew1) | exact HB.out)⟩
end Go.Proofs.Ytadjoaipmcbieaa.A

/-! XA -/
namespace Go.Proofs.Ytadjoaipmcbieaa
section
variable {s : Int → List Int}
end
/-- A net: of each node its symbol (below 0: a variable), its arguments, the term that it stands for. -/
structure Net where
  n : Nat
  sym : Nat → Int
  args : Nat → List Nat
  tm : Nat → List Int
section
variable {b : Int → Nat} {G : Net} {ra rb : Nat} {R : Nat → Nat} {rep : Nat → Int} {st st' : List (Nat × Nat)}
end
section
/-- What the nodes of a list unfold to. -/
inductive Unf (G : Net) (R : Nat → Nat) (rep : Nat → Int) : List Nat → List Int → Prop
  | nil : Unf G R rep [] []
  | var {x : Nat} {xs : List Nat} {T : List Int} (h : rep (R x) < 0) (r : Unf G R rep xs T) : Unf G R rep (x :: xs) ((-(R x : Int) - 1) :: T)
  | app {x : Nat} {xs : List Nat} {T : List Int} (h : 0 ≤ rep (R x)) (r : Unf G R rep (G.args (rep (R x)).toNat ++ xs) T) : Unf G R rep (x :: xs) (G.sym (rep (R x)).toNat :: T)
variable {b : Int → Nat} {G : Net} {ra rb : Nat} {R : Nat → Nat} {rep : Nat → Int}
end
end Go.Proofs.Ytadjoaipmcbieaa
namespace Go.Proofs.Ytadjoaipmcbieaa
open Go.Proofs.YtadjoaipmcbieaaW.PrintWords
section
variable {b : Int → Nat} {G : Net} {ra rb : Nat} {R : Nat → Nat} {rep : Nat → Int} {st : List (Nat × Nat)}
open Classical in
/-- What a variable's node unfolds to. -/
noncomputable def th (G : Net) (R : Nat → Nat) (rep : Nat → Int) (v : Int) : List Int :=
  if h : ∃ T x, x < G.n ∧ G.sym x < 0 ∧ G.tm x = [v] ∧ Unf G R rep [x] T then Classical.choose h else [v]
end
/-- How long a list's unfolding is, argument by argument. -/
def szs (f : List Int → Nat → Option (List Int × Option Int)) : List Int → List Nat → Int → Option (List Int × Option Int)
  | K, [], all => some (K, some all)
  | K, a :: cs, all => (f K a).bind fun q => match q.2 with
    | none => some (q.1, none)
    | some m => szs f q.1 cs (min (all + m) 2001)
/-- How long a node's unfolding is (2001, if longer); none: it would lie in itself. -/
def sz (G : Net) (R : Nat → Nat) (rep : Nat → Int) : Nat → List Int → Nat → Option (List Int × Option Int)
  | 0, _, _ => none
  | k + 1, K, x => if rd K (R x) = -1 then some (K, none) else if rd K (R x) ≠ 0 then some (K, some (rd K (R x)))
    else if rep (R x) < 0 then some (K.set (R x) 1, some 1)
    else (szs (sz G R rep k) (K.set (R x) (-1)) (G.args (rep (R x)).toNat) 1).bind fun q => match q.2 with
      | none => some (q.1, none)
      | some all => some (q.1.set (R x) all, some all)
theorem rd_set (xs : List Int) (a x : Nat) (v : Int) (ha : a < xs.length) : rd (xs.set a v) x = if a = x then v else rd xs x := by
  simp only [rd, Int.toNat_natCast, List.getD_eq_getElem?_getD, List.getElem?_set]
  split
  · subst_vars; simp_all
  · rfl
section
variable {b : Int → Nat} {G : Net} {ra rb : Nat} {R : Nat → Nat} {rep : Nat → Int} {st : List (Nat × Nat)}
theorem min_two (a t u : Int) (ha : 0 ≤ a) (_ : 0 ≤ t) (hu : 0 ≤ u) : min (a + min (0 + t) 2001 + u) 2001 = min (a + (t + u)) 2001 := by omega
end
end Go.Proofs.Ytadjoaipmcbieaa
namespace Go.Proofs.Ytadjoaipmcbieaa
open Go.Proofs.YtadjoaipmcbieaaW.PrintWords
end Go.Proofs.Ytadjoaipmcbieaa
namespace Go.Proofs.Ytadjoaipmcbieaa
open Go.Proofs.YtadjoaipmcbieaaW.PrintWords
end Go.Proofs.Ytadjoaipmcbieaa

/-! P1 -/
namespace Go.Proofs.Ytadjoaipmcbieaa
theorem idx_in {a b : List Int} {x : Int} (h : x ∈ a) : (a ++ b).idxOf x = a.idxOf x := by rw [List.idxOf_append, if_pos h]
theorem idx_out {a b : List Int} {x : Int} (h : x ∉ a) : (a ++ b).idxOf x = a.length + b.idxOf x := by rw [List.idxOf_append, if_neg h]; omega
/-- The variables' numbers in the order in which they first stand, behind those of acc. -/
def vd : List Int → List Int → List Int
  | acc, [] => acc
  | acc, n :: t => if (n < 0 ∧ -99 ≤ n) ∧ -n ∉ acc then vd (acc ++ [-n]) t else vd acc t
/-- A number anew, by the order o. -/
def nw (o : List Int) (n : Int) : Int := if (n < 0 ∧ -99 ≤ n) ∧ -n ∈ o then -(o.idxOf (-n) : Int) - 1 else n
theorem vd_append : ∀ (t u acc : List Int), vd acc (t ++ u) = vd (vd acc t) u
  | [], _, _ => rfl
  | n :: t, u, acc => by
    simp only [List.cons_append, vd]
    split <;> exact vd_append t u _
theorem vd_pre : ∀ (t acc : List Int), ∃ r, vd acc t = acc ++ r
  | [], acc => ⟨[], by simp [vd]⟩
  | n :: t, acc => by
    simp only [vd]
    split
    · obtain ⟨r, h⟩ := vd_pre t (acc ++ [-n])
      exact ⟨-n :: r, by rw [h]; simp⟩
    · exact vd_pre t acc
theorem vd_sub {t acc : List Int} {x : Int} (h : x ∈ acc) : x ∈ vd acc t := by
  obtain ⟨r, e⟩ := vd_pre t acc
  rw [e]; simp [h]
theorem vd_idx {t acc : List Int} {x : Int} (h : x ∈ acc) : (vd acc t).idxOf x = acc.idxOf x := by
  obtain ⟨r, e⟩ := vd_pre t acc
  rw [e, idx_in h]
theorem nw_vd {t acc : List Int} {n : Int} (h : -n ∈ acc) : nw (vd acc t) n = nw acc n := by
  unfold nw
  have h2 : -n ∈ vd acc t := vd_sub h
  simp only [h, h2, vd_idx h]
theorem vd_mem : ∀ {t acc : List Int} {n : Int}, n ∈ t → n < 0 → -99 ≤ n → -n ∈ vd acc t
  | [], _, _, h, _, _ => by simp at h
  | m :: t, acc, n, h, h1, h2 => by
    simp only [vd]
    rcases List.mem_cons.1 h with rfl | h
    · split
      · exact vd_sub (by simp)
      · rename_i h3
        exact vd_sub (Decidable.of_not_not fun h4 => h3 ⟨⟨h1, h2⟩, h4⟩)
    · split <;> exact vd_mem h h1 h2
/-- Each is a variable's number. -/
def VarL (o : List Int) : Prop := ∀ x ∈ o, 1 ≤ x ∧ x ≤ 99
theorem vd_var : ∀ (t acc : List Int), VarL acc → VarL (vd acc t)
  | [], _, h => h
  | n :: t, acc, h => by
    simp only [vd]
    split
    · rename_i h1
      refine vd_var t _ (fun x hx => ?_)
      rcases List.mem_append.1 hx with hx | hx
      · exact h x hx
      · rw [List.mem_singleton.1 hx]; omega
    · exact vd_var t _ h
theorem vd_nodup : ∀ (t acc : List Int), acc.Nodup → (vd acc t).Nodup
  | [], _, h => h
  | n :: t, acc, h => by
    simp only [vd]
    split
    · rename_i h1
      refine vd_nodup t _ ?_
      rw [List.nodup_append]
      exact ⟨h, by simp, fun a ha b hb => by rw [List.mem_singleton.1 hb]; exact fun e => h1.2 (e ▸ ha)⟩
    · exact vd_nodup t _ h
theorem nodup_le : ∀ (k : Nat) (o : List Int), o.Nodup → (∀ x ∈ o, 1 ≤ x ∧ x ≤ (k : Int)) → o.length ≤ k
  | 0, o, _, h => by
    cases o with
    | nil => simp
    | cons x o => have := h x (by simp); omega
  | k + 1, o, hd, h => by
    have h1 := nodup_le k (o.erase ((k : Int) + 1)) (hd.erase _) (fun x hx => by
      have h2 := (List.Nodup.mem_erase_iff hd).1 hx
      have h3 := h x h2.2
      have h4 := h2.1
      omega)
    have h2 := List.length_erase_le (a := (k : Int) + 1) (l := o)
    have h3 : o.length ≤ (o.erase ((k : Int) + 1)).length + 1 := by
      rw [List.length_erase]; split <;> omega
    omega
theorem vd_len {t acc : List Int} (h : acc.Nodup) (hv : VarL acc) : (vd acc t).length ≤ 99 := nodup_le 99 _ (vd_nodup t acc h) (vd_var t acc hv)
/-- What stands already adds nothing. -/
theorem vd_skip {acc : List Int} : ∀ {xs : List Int}, (∀ x ∈ xs, x ∈ acc) → vd acc (xs.map (- ·)) = acc
  | [], _ => rfl
  | x :: xs, h => by
    simp only [List.map_cons, vd]
    rw [if_neg (fun h1 => h1.2 (by rw [Int.neg_neg]; exact h x (by simp)))]
    exact vd_skip fun y hy => h y (by simp [hy])
/-- The order of what was ordered is the order. -/
theorem vd_vd : ∀ (t a acc : List Int), (∀ x ∈ a, x ∈ acc) → vd acc ((vd a t).map (- ·)) = vd acc t
  | [], a, acc, h => vd_skip h
  | n :: t, a, acc, h => by
    simp only [vd]
    by_cases h1 : (n < 0 ∧ -99 ≤ n) ∧ -n ∉ a
    · rw [if_pos h1]
      by_cases h2 : -n ∈ acc
      · rw [if_neg (fun h3 => h3.2 h2)]
        refine vd_vd t _ _ (fun x hx => ?_)
        rcases List.mem_append.1 hx with hx | hx
        · exact h x hx
        · rw [List.mem_singleton.1 hx]; exact h2
      · rw [if_pos ⟨h1.1, h2⟩]
        rw [← vd_vd t (a ++ [-n]) (acc ++ [-n]) (fun x hx => by
          rcases List.mem_append.1 hx with hx | hx
          · simp [h x hx]
          · simp [List.mem_singleton.1 hx])]
        obtain ⟨r, e⟩ := vd_pre t (a ++ [-n])
        have h3 : vd acc ((a ++ [-n]).map (- ·)) = acc ++ [-n] := by
          rw [List.map_append, vd_append, vd_skip h]
          simp only [List.map_cons, List.map_nil, vd, Int.neg_neg]
          rw [if_pos ⟨h1.1, h2⟩]
        have h4 : vd (acc ++ [-n]) ((a ++ [-n]).map (- ·)) = acc ++ [-n] := vd_skip fun x hx => by
          rcases List.mem_append.1 hx with hx | hx
          · simp [h x hx]
          · simp [List.mem_singleton.1 hx]
        rw [e, List.map_append, vd_append, vd_append, h3, h4]
    · rw [if_neg h1]
      rw [if_neg (fun h3 => h1 ⟨h3.1, fun h4 => h3.2 (h _ h4)⟩)]
      exact vd_vd t a acc h
end Go.Proofs.Ytadjoaipmcbieaa

/-! Q3 -/
namespace Go.Proofs.Ytadjoaipmcbieaa
end Go.Proofs.Ytadjoaipmcbieaa

/-! S7 -/
namespace Go.Proofs.Ytadjoaipmcbieaa
end Go.Proofs.Ytadjoaipmcbieaa

/-! GE -/
namespace Go.Proofs.Ytadjoaipmcbieaa.A
end Go.Proofs.Ytadjoaipmcbieaa.A

/-! GF -/
namespace Go.Proofs.Ytadjoaipmcbieaa.A
end Go.Proofs.Ytadjoaipmcbieaa.A

/-! Q5 -/
namespace Go.Proofs.Ytadjoaipmcbieaa
end Go.Proofs.Ytadjoaipmcbieaa

/-! GQ -/
namespace Go.Proofs.Ytadjoaipmcbieaa.A
end Go.Proofs.Ytadjoaipmcbieaa.A

/-! N1 -/
namespace Go.Proofs.Ytadjoaipmcbieaa
end Go.Proofs.Ytadjoaipmcbieaa
