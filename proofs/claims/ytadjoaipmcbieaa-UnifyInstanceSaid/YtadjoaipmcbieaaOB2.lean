/- The texts G0, GA, SS, S5, R0, GB, GC, Q0, GD, Q2, XA, Q3, S7, GE, GF, Q5, joined by wip/slim.py: what the claim's theorem needs of them. (Those named W.. and G.. were printed by the kit's print.py for this seat.) -/
import Derived.Test.YtadjoaipmcbieaaOB1
import Derived.Test.YtadjoaipmcbieaaProg
import Derived.WalkSpells
import Derived.WalkLawsBesides

/-! G0 -/
namespace Go.Proofs.Ytadjoaipmcbieaa.A
open Go.RowKit Go.Proofs.YtadjoaipmcbieaaW.PrintWords Go.Proofs.YtadjoaipmcbieaaW.PrintLast Go.Proofs.YtadjoaipmcbieaaW.PrintMore
attribute [local go_sem] max2_int min2_int max_two min_two max_three min_three max_four min_four   -- for this text's walks alone
set_option linter.unusedVariables false
set_option linter.unusedSimpArgs false
def errW : Option Int → Value
  | none => .nilIface
  | some c => .iface 0 (.int .i64 c)
theorem errW_none : errW none = .nilIface := rfl
theorem errW_some (c : Int) : errW (some c) = .iface 0 (.int .i64 c) := rfl
theorem info3 : (Try.prog.info? 3).map (fun i => (i.zero, i.size, i.bytes)) = some (some (.int .i64 0), 1, 8) := by kernel_rfl
theorem info25 : (Try.prog.info? 25).map (fun i => (i.zero, i.size, i.bytes)) = some (some (.slice none 0 0), 1, 24) := by kernel_rfl
theorem info83 : (Try.prog.info? 83).map (fun i => (i.zero, i.size, i.bytes)) = some (some (.agg #[(.int .i64 0), (.slice none 0 0)]), 2, 32) := by kernel_rfl
structure S89 where
  f0 : ByteArray
  f1 : Int
  f2 : Bool
def z89 : S89 := ⟨(⟨#[]⟩ : ByteArray), (0 : Int), false⟩
def k89 : Kd S89 := Kd.iso (Kd.pair Kd.string (Kd.pair (Kd.int .i64) Kd.bool)) (fun x : S89 => (x.f0, x.f1, x.f2))
theorem k89_open {w : World} {x : S89} {cs : List Value} (h : k89.K w x cs) : cs = [.string x.f0, .int .i64 x.f1, .bool x.f2] := by
  obtain ⟨_, _, rfl, rfl, ⟨_, _, rfl, rfl, rfl⟩⟩ := h
  exact rfl
theorem k89_mk (w : World) (x : S89)  : k89.K w x [.string x.f0, .int .i64 x.f1, .bool x.f2] := ⟨[.string x.f0], [.int .i64 x.f1, .bool x.f2], rfl, rfl, ⟨[.int .i64 x.f1], [.bool x.f2], rfl, rfl, rfl⟩⟩
theorem k89_mkM (w : World) (base : Nat) (ok : Nat → Prop) (x : S89)  : k89.M w base ok x [.string x.f0, .int .i64 x.f1, .bool x.f2] := ⟨[.string x.f0], [.int .i64 x.f1, .bool x.f2], rfl, rfl, ⟨[.int .i64 x.f1], [.bool x.f2], rfl, rfl, rfl⟩⟩
def rd_T89 (xs : List S89) (i : Int) : S89 := xs.getD i.toNat z89
theorem at_T89 {w : World} {A : Option Addr} {n : Nat} {xs : List S89} (h : Kd.C k89 w A n xs) (i : Int) (h0 : 0 ≤ i) (h1 : i < n) : ∃ ad , A = some ad ∧ w.cell? (ad.add (i.toNat * 3)) = some (.string (rd_T89 xs i).f0) ∧ w.cell? ⟨(ad.add (i.toNat * 3)).block, (ad.add (i.toNat * 3)).off + 1, none⟩ = some (.int .i64 (rd_T89 xs i).f1) ∧ w.cell? ⟨(ad.add (i.toNat * 3)).block, (ad.add (i.toNat * 3)).off + 2, none⟩ = some (.bool (rd_T89 xs i).f2) := by
  obtain ⟨ad, c, e, _, hK, hc0⟩ := Kd.C_get h z89 i h0 h1
  have hc : ∀ j u, c[j]? = some u → w.cell? (ad.add (i.toNat * 3 + j)) = some u := hc0
  obtain rfl := k89_open hK
  exact ⟨ad, e, hc 0 _ rfl, by rw [← add_field _ _ 1 (by omega)]; exact hc 1 _ rfl, by rw [← add_field _ _ 2 (by omega)]; exact hc 2 _ rfl⟩
def rd_L4 (xs : List (List Int)) (i : Int) : (List Int) := xs.getD i.toNat ([] : List Int)
theorem at_L4 {w : World} {A : Option Addr} {n : Nat} {xs : List (List Int)} (h : Kd.C (Kd.slice 3 (Kd.int .i64)) w A n xs) (i : Int) (h0 : 0 ≤ i) (h1 : i < n) : ∃ ad A0 c0, A = some ad ∧ w.cell? (ad.add i.toNat) = some (.slice A0 (rd_L4 xs i).length c0) ∧ (rd_L4 xs i).length ≤ c0 ∧ (Kd.int .i64).C w A0 (rd_L4 xs i).length (rd_L4 xs i) := by
  obtain ⟨ad, c, e, _, hK, hc0⟩ := Kd.C_get h ([] : List Int) i h0 h1
  have hc : ∀ j u, c[j]? = some u → w.cell? (ad.add (i.toNat * 1 + j)) = some u := hc0
  obtain ⟨A0, c0, rfl, l0, g0⟩ := hK
  exact ⟨ad, A0, c0, e, by have hq := hc 0 _ rfl; rwa [Nat.mul_one, Nat.add_zero] at hq, l0, g0⟩
structure S83 where
  f0 : Int
  f1 : (List Int)
def z83 : S83 := ⟨(0 : Int), ([] : List Int)⟩
def k83 : Kd S83 := Kd.iso (Kd.pair (Kd.int .i64) (Kd.slice 3 (Kd.int .i64))) (fun x : S83 => (x.f0, x.f1))
theorem k83_open {w : World} {x : S83} {cs : List Value} (h : k83.K w x cs) : ∃ A1 c1, cs = [.int .i64 x.f0, .slice A1 x.f1.length c1] ∧ x.f1.length ≤ c1 ∧ (Kd.int .i64).C w A1 x.f1.length x.f1 := by
  obtain ⟨_, _, rfl, rfl, ⟨A1, c1, rfl, l1, g1⟩⟩ := h
  exact ⟨A1, c1, rfl, l1, g1⟩
theorem k83_mk (w : World) (x : S83) {A1 : Option Addr} {c1 : Nat} (l1 : x.f1.length ≤ c1) (g1 : (Kd.int .i64).C w A1 x.f1.length x.f1) : k83.K w x [.int .i64 x.f0, .slice A1 x.f1.length c1] := ⟨[.int .i64 x.f0], [.slice A1 x.f1.length c1], rfl, rfl, ⟨A1, c1, rfl, l1, g1⟩⟩
theorem k83_openF {W : World} {ok : Nat → Prop} {x : S83} {cs : List Value} (h : Kd.FK k83 W ok x cs) : ∃ A1 c1, cs = [.int .i64 x.f0, .slice A1 x.f1.length c1] ∧ x.f1.length ≤ c1 ∧ Kd.F (Kd.int .i64) W ok A1 x.f1.length x.f1 := by
  obtain ⟨A1, c1, rfl, l1, _⟩ := k83_open (Kd.FK_now h)
  exact ⟨A1, c1, rfl, l1, (fun W' hW => by obtain ⟨A1_, c1_, he, l1_, g1_⟩ := k83_open (h W' hW); injection (Option.some.inj (show some (Value.slice A1 x.f1.length c1) = some (Value.slice A1_ x.f1.length c1_) from congrArg (fun l => l[1]?) he)) with ha_ _ _; rw [ha_]; exact g1_)⟩
theorem k83_mkF (W : World) (ok : Nat → Prop) (x : S83) {A1 : Option Addr} {c1 : Nat} (l1 : x.f1.length ≤ c1) (g1 : Kd.F (Kd.int .i64) W ok A1 x.f1.length x.f1) : Kd.FK k83 W ok x [.int .i64 x.f0, .slice A1 x.f1.length c1] := fun W2 hW => k83_mk W2 x l1 (g1 W2 hW)
def rd_T83 (xs : List S83) (i : Int) : S83 := xs.getD i.toNat z83
theorem at_T83 {w : World} {A : Option Addr} {n : Nat} {xs : List S83} (h : Kd.C k83 w A n xs) (i : Int) (h0 : 0 ≤ i) (h1 : i < n) : ∃ ad A1 c1, A = some ad ∧ w.cell? (ad.add (i.toNat * 2)) = some (.int .i64 (rd_T83 xs i).f0) ∧ w.cell? ⟨(ad.add (i.toNat * 2)).block, (ad.add (i.toNat * 2)).off + 1, none⟩ = some (.slice A1 (rd_T83 xs i).f1.length c1) ∧ (rd_T83 xs i).f1.length ≤ c1 ∧ (Kd.int .i64).C w A1 (rd_T83 xs i).f1.length (rd_T83 xs i).f1 := by
  obtain ⟨ad, c, e, _, hK, hc0⟩ := Kd.C_get h z83 i h0 h1
  have hc : ∀ j u, c[j]? = some u → w.cell? (ad.add (i.toNat * 2 + j)) = some u := hc0
  obtain ⟨A1, c1, rfl, l1, g1⟩ := k83_open hK
  exact ⟨ad, A1, c1, e, hc 0 _ rfl, by rw [← add_field _ _ 1 (by omega)]; exact hc 1 _ rfl, l1, g1⟩
end Go.Proofs.Ytadjoaipmcbieaa.A

/-! GA -/
namespace Go.Proofs.Ytadjoaipmcbieaa.A
open Go.RowKit Go.Proofs.YtadjoaipmcbieaaW.PrintWords Go.Proofs.YtadjoaipmcbieaaW.PrintLast Go.Proofs.YtadjoaipmcbieaaW.PrintMore
attribute [local go_sem] max2_int min2_int max_two min_two max_three min_three max_four min_four   -- for this text's walks alone
set_option linter.unusedVariables false
set_option linter.unusedSimpArgs false
def sig_small.f (a0 : Int) : Option (Bool) := if a0 ≥ 97 then (some (decide (a0 ≤ 122))) else (some false)
set_option maxHeartbeats 8000000 in
set_option maxRecDepth 100000 in
theorem sig_small.calls (a0 : Int) (r : Bool) (w : World) (h : sig_small.f a0 = some r) :
    Calls Try.prog 118 #[.int .u8 a0] w fun e w' => e = .returned (.bool r) ∧ Drawn0 w w' := by
  have H : (if a0 ≥ 97 then (some (decide (a0 ≤ 122))) else (some false)) = some r := h
  clear h
  by_cases c2 : a0 ≥ 97
  · rw [if_pos c2] at H
    have c2b0 : decide (97 ≤ a0) = true := decide_eq_true c2
    clear c2
    obtain rfl := Option.some.inj H
    go_enter Try.func118, Try.ntmps118
    go_wp2
    go_ret
    exact ⟨by first | rfl | (simp; done) | (simp [*]; done), by repeat (first | exact Drawn0.refl _ | apply Drawn0.step)⟩
  · rw [if_neg c2] at H
    have c2b0 : decide (97 ≤ a0) = false := decide_eq_false c2
    clear c2
    obtain rfl := Option.some.inj H
    go_enter Try.func118, Try.ntmps118
    go_wp2
    go_ret
    exact ⟨by first | rfl | (simp; done) | (simp [*]; done), by repeat (first | exact Drawn0.refl _ | apply Drawn0.step)⟩
def sig_digit.f (a0 : Int) : Option (Bool) := if a0 ≥ 48 then (some (decide (a0 ≤ 57))) else (some false)
set_option maxHeartbeats 8000000 in
set_option maxRecDepth 100000 in
theorem sig_digit.calls (a0 : Int) (r : Bool) (w : World) (h : sig_digit.f a0 = some r) :
    Calls Try.prog 119 #[.int .u8 a0] w fun e w' => e = .returned (.bool r) ∧ Drawn0 w w' := by
  have H : (if a0 ≥ 48 then (some (decide (a0 ≤ 57))) else (some false)) = some r := h
  clear h
  by_cases c2 : a0 ≥ 48
  · rw [if_pos c2] at H
    have c2b0 : decide (48 ≤ a0) = true := decide_eq_true c2
    clear c2
    obtain rfl := Option.some.inj H
    go_enter Try.func119, Try.ntmps119
    go_wp2
    go_ret
    exact ⟨by first | rfl | (simp; done) | (simp [*]; done), by repeat (first | exact Drawn0.refl _ | apply Drawn0.step)⟩
  · rw [if_neg c2] at H
    have c2b0 : decide (48 ≤ a0) = false := decide_eq_false c2
    clear c2
    obtain rfl := Option.some.inj H
    go_enter Try.func119, Try.ntmps119
    go_wp2
    go_ret
    exact ⟨by first | rfl | (simp; done) | (simp [*]; done), by repeat (first | exact Drawn0.refl _ | apply Drawn0.step)⟩
mutual
def sig_IsName.j0 : Nat → ByteArray → Bool → Option (Bool)
  | 0, _, _ => none
  | k + 1, x0, x17 => if x17 = true then (some false) else (sig_IsName.l0 k x0 (x0.size : Int) 0)
def sig_IsName.l0 : Nat → ByteArray → Int → Int → Option (Bool)
  | 0, _, _, _ => none
  | k + 1, x0, x19, x20 => if x20 < x19 then (if 0 ≤ x20 then (if x20 < (x0.size : Int) then ((sig_small.f (bt x0 x20)).bind fun t102 => (if t102 = true then (sig_IsName.l0 k x0 x19 (wrap64 (x20 + 1))) else ((sig_digit.f (bt x0 x20)).bind fun t103 => (if t103 = true then (sig_IsName.l0 k x0 x19 (wrap64 (x20 + 1))) else (some false))))) else (none)) else (none)) else (some true)
end
def sig_IsName.f (k : Nat) (a0 : ByteArray) : Option (Bool) := if (a0.size : Int) = 0 then (sig_IsName.j0 k a0 true) else (if (a0.size : Int) > 12 then (sig_IsName.j0 k a0 true) else (if 0 < (a0.size : Int) then ((sig_small.f (bt a0 0)).bind fun t101 => (sig_IsName.j0 k a0 (!t101))) else (none)))
set_option maxHeartbeats 8000000 in
set_option maxRecDepth 100000 in
theorem sig_IsName.calls (k : Nat) (a0 : ByteArray) (r : Bool) (w : World) (h : sig_IsName.f k a0 = some r) :
    Calls Try.prog 100 #[.string a0] w fun e w' => e = .returned (.bool r) ∧ Drawn0 w w' := by
  have H : (if (a0.size : Int) = 0 then (sig_IsName.j0 k a0 true) else (if (a0.size : Int) > 12 then (sig_IsName.j0 k a0 true) else (if 0 < (a0.size : Int) then ((sig_small.f (bt a0 0)).bind fun t101 => (sig_IsName.j0 k a0 (!t101))) else (none)))) = some r := h
  clear h
  have HC2 := Aside0.mk H
  clear H
  go_enter Try.func100, Try.ntmps100
  go_upto_region 1 with (fail)
  go_cut [17] (fun v17 wc => ∃ (kq : Nat) (x17_1 : Bool), v17 = .bool x17_1 ∧ Aside0 (sig_IsName.j0 kq a0 x17_1 = some r) ∧ Aside0 (kq ≤ k) ∧ Drawn0 w wc)
  case first =>
    have H := HC2.out
    clear HC2
    by_cases c3 : (a0.size : Int) = 0
    · rw [if_pos c3] at H
      have c3b0 : ((a0.size : Int) == 0) = true := beq_iff_eq.mpr c3
      have c3b1 : ((a0.size : Int) != 0) = false := bne_eq_false_iff_eq.mpr c3
      clear c3
      (first | rw [c3b0] | (simp only [i64_w, i32_w]; rw [c3b0]) | skip)
      have H' := Aside0.mk H
      clear H
      go_wp2
      go_meet
      case rel => exact ⟨_, (true), (by first | rfl | (simp; done) | (simp [*]; done)), H', ⟨by first | omega | exact Nat.le_refl _⟩, by repeat (first | exact Drawn0.refl _ | apply Drawn0.step)⟩
    · rw [if_neg c3] at H
      have c3b0 : ((a0.size : Int) == 0) = false := beq_eq_false_iff_ne.mpr c3
      have c3b1 : ((a0.size : Int) != 0) = true := bne_iff_ne.mpr c3
      (first | rw [c3b0] | (simp only [i64_w, i32_w]; rw [c3b0]) | skip)
      by_cases c4 : (a0.size : Int) > 12
      · rw [if_pos c4] at H
        have c4b0 : decide (12 < (a0.size : Int)) = true := decide_eq_true c4
        have c4b1 : decide (12 < a0.size) = true := decide_eq_true (by omega)
        clear c4
        have H' := Aside0.mk H
        clear H
        go_wp2
        go_meet
        case rel => exact ⟨_, (true), (by first | rfl | (simp; done) | (simp [*]; done)), H', ⟨by first | omega | exact Nat.le_refl _⟩, by repeat (first | exact Drawn0.refl _ | apply Drawn0.step)⟩
      · rw [if_neg c4] at H
        have c4b0 : decide (12 < (a0.size : Int)) = false := decide_eq_false c4
        have c4b1 : decide (12 < a0.size) = false := decide_eq_false (by omega)
        clear c4
        by_cases c5 : 0 < (a0.size : Int)
        · rw [if_pos c5] at H
          have c5b0 : decide (0 < (a0.size : Int)) = true := decide_eq_true c5
          have c5b1 : decide (0 < a0.size) = true := decide_eq_true (by omega)
          clear c5
          replace H := Option.bind_eq_some_iff.mp H
          obtain ⟨t101, A70, H⟩ := H
          replace H : (sig_IsName.j0 k a0 (!t101)) = some r := H
          have A7 := Aside0.mk A70
          clear A70
          have H' := Aside0.mk H
          clear H
          have p6 : 0 ≤ (0 : Int) := (by omega)
          have q6 : 0 < a0.size := (by have : (0 : Int) < (a0.size : Int) := of_decide_eq_true (by first | (with_reducible assumption) | assumption); omega)
          have hx6 : ∀ h : 0 < a0.size, ((a0[0]'h).toNat : Int) = bt a0 0 := bt_at a0 0
          clear p6
          have qi6 : (0 < (a0.size : Int)) = True := eq_true (of_decide_eq_true (by first | (with_reducible assumption) | assumption))
          replace q6 := eq_true q6
          go_wp2_with (first | (go_at_call 118; (with_reducible refine (sig_small.calls (bt a0 0) t101 _ A7.out).mono ?_); rintro e w' ⟨rfl, ⟨nd, rfl⟩⟩))
          go_meet
          case rel => exact ⟨_, (!t101), (by first | rfl | (simp; done) | (simp [*]; done)), H', ⟨by first | omega | exact Nat.le_refl _⟩, by repeat (first | exact Drawn0.refl _ | apply Drawn0.step)⟩
        · rw [if_neg c5] at H
          exact absurd H (by simp)
  case rest =>
    clear HC2
    try clear c1
    try clear p2
    try clear c3
    try clear c3b0
    try clear c3b1
    try clear c4
    try clear c4b0
    try clear c4b1
    try clear c5
    try clear c5b0
    try clear c5b1
    try clear p6
    try clear q6
    try clear hx6
    try clear qi6
    try clear p6
    try clear q6
    obtain ⟨kq, x17_1, rfl, HA, HJ1, ⟨mc1, rfl⟩⟩ := hcut
    cases kq with
    | zero => exact absurd HA.out (by simp [sig_IsName.j0])
    | succ kj1 =>
      have H := HA.out
      clear HA
      simp only [sig_IsName.j0] at H
      by_cases c8 : x17_1 = true
      · subst c8
        have H1 : (some false) = some r := by rw [if_pos rfl] at H; exact H
        clear H
        have H := H1
        clear H1
        obtain rfl := Option.some.inj H
        go_wp2
        go_ret
        exact ⟨by first | rfl | (simp; done) | (simp [*]; done), by repeat (first | exact Drawn0.refl _ | apply Drawn0.step)⟩
      · replace c8 := Bool.eq_false_iff.mpr c8
        subst c8
        have H1 : (sig_IsName.l0 kj1 a0 (a0.size : Int) 0) = some r := by rw [if_neg (show ¬ (false = true) by decide)] at H; exact H
        clear H
        have H := H1
        clear H1
        have H' := Aside0.mk H
        clear H
        go_wp2
        go_loopg [20] kj1 (fun kq v20 w' => ∃ (x20_2 : Int), v20 = .int .i64 x20_2 ∧ Aside0 (sig_IsName.l0 kq a0 (a0.size : Int) x20_2 = some r) ∧ Aside0 (kq ≤ kj1) ∧ Drawn0 w w')
        case atStart => exact ⟨(0), (by first | rfl | (simp; done) | (simp [*]; done)), H', ⟨Nat.le_refl _⟩, by repeat (first | exact Drawn0.refl _ | apply Drawn0.step)⟩
        case round =>
          clear H'
          try clear c1
          try clear p2
          try clear c3
          try clear c3b0
          try clear c3b1
          try clear c4
          try clear c4b0
          try clear c4b1
          try clear c5
          try clear c5b0
          try clear c5b1
          try clear p6
          try clear q6
          try clear hx6
          try clear qi6
          try clear c8
          try clear p2
          try clear p6
          try clear q6
          obtain ⟨x20_2, rfl, HA, HK2, ⟨m2, rfl⟩⟩ := hrel
          cases gk with
          | zero => exact absurd HA.out (by simp [sig_IsName.l0])
          | succ k2 =>
            have H := HA.out
            clear HA
            simp only [sig_IsName.l0] at H
            by_cases c9 : x20_2 < (a0.size : Int)
            · rw [if_pos c9] at H
              have c9b0 : decide (x20_2 < (a0.size : Int)) = true := decide_eq_true c9
              clear c9
              by_cases c10 : 0 ≤ x20_2
              · rw [if_pos c10] at H
                have c10b0 : decide (0 ≤ x20_2) = true := decide_eq_true c10
                clear c10
                by_cases c11 : x20_2 < (a0.size : Int)
                · rw [if_pos c11] at H
                  have c11b0 : decide (x20_2 < (a0.size : Int)) = true := decide_eq_true c11
                  clear c11
                  replace H := Option.bind_eq_some_iff.mp H
                  obtain ⟨t102, A130, H⟩ := H
                  replace H : (if t102 = true then (sig_IsName.l0 k2 a0 (a0.size : Int) (wrap64 (x20_2 + 1))) else ((sig_digit.f (bt a0 x20_2)).bind fun t103 => (if t103 = true then (sig_IsName.l0 k2 a0 (a0.size : Int) (wrap64 (x20_2 + 1))) else (some false)))) = some r := H
                  have A13 := Aside0.mk A130
                  clear A130
                  by_cases c14 : t102 = true
                  · subst c14
                    have H1 : (sig_IsName.l0 k2 a0 (a0.size : Int) (wrap64 (x20_2 + 1))) = some r := by rw [if_pos rfl] at H; exact H
                    clear H
                    have H := H1
                    clear H1
                    have H' := Aside0.mk H
                    clear H
                    have p12 : 0 ≤ (x20_2 : Int) := of_decide_eq_true (by first | (with_reducible assumption) | assumption)
                    have q12 : x20_2 < (a0.size : Int) := of_decide_eq_true (by first | (with_reducible assumption) | assumption)
                    have hx12 := bt_at a0 x20_2
                    replace p12 := eq_true p12
                    replace q12 := eq_true q12
                    go_wp2_with (first | ((with_reducible refine gate_callee (f := 118) rfl ?_); refine goesL_ (some 26) rfl rfl Try.func118 (by kernel_rfl) rfl #[.int .u8 (bt a0 x20_2)] rfl (by (try simp only [List.map_toArray, List.map_cons, List.map_nil]); first | done | rfl | (simp only [List.length_drop, List.length_take]; rfl)) ?_; (with_reducible refine (sig_small.calls (bt a0 x20_2) true _ A13.out).mono ?_); rintro e w' ⟨rfl, ⟨nd, rfl⟩⟩; refine ⟨_, rfl, ?_⟩))
                    go_roundg k2
                    case measure => have := HJ1.out; have := HK2.out; omega
                    case rel => exact ⟨(wrap64 (x20_2 + 1)), (by first | rfl | (simp; done) | (simp [*]; done)), H', ⟨by have := HJ1.out; have := HK2.out; omega⟩, by repeat (first | exact Drawn0.refl _ | apply Drawn0.step)⟩
                  · replace c14 := Bool.eq_false_iff.mpr c14
                    subst c14
                    have H1 : ((sig_digit.f (bt a0 x20_2)).bind fun t103 => (if t103 = true then (sig_IsName.l0 k2 a0 (a0.size : Int) (wrap64 (x20_2 + 1))) else (some false))) = some r := by rw [if_neg (show ¬ (false = true) by decide)] at H; exact H
                    clear H
                    have H := H1
                    clear H1
                    replace H := Option.bind_eq_some_iff.mp H
                    obtain ⟨t103, A160, H⟩ := H
                    replace H : (if t103 = true then (sig_IsName.l0 k2 a0 (a0.size : Int) (wrap64 (x20_2 + 1))) else (some false)) = some r := H
                    have A16 := Aside0.mk A160
                    clear A160
                    by_cases c17 : t103 = true
                    · subst c17
                      have H1 : (sig_IsName.l0 k2 a0 (a0.size : Int) (wrap64 (x20_2 + 1))) = some r := by rw [if_pos rfl] at H; exact H
                      clear H
                      have H := H1
                      clear H1
                      have H' := Aside0.mk H
                      clear H
                      have p12 : 0 ≤ (x20_2 : Int) := of_decide_eq_true (by first | (with_reducible assumption) | assumption)
                      have q12 : x20_2 < (a0.size : Int) := of_decide_eq_true (by first | (with_reducible assumption) | assumption)
                      have hx12 := bt_at a0 x20_2
                      replace p12 := eq_true p12
                      replace q12 := eq_true q12
                      go_wp2_with (first | ((with_reducible refine gate_callee (f := 118) rfl ?_); refine goesL_ (some 26) rfl rfl Try.func118 (by kernel_rfl) rfl #[.int .u8 (bt a0 x20_2)] rfl (by (try simp only [List.map_toArray, List.map_cons, List.map_nil]); first | done | rfl | (simp only [List.length_drop, List.length_take]; rfl)) ?_; (with_reducible refine (sig_small.calls (bt a0 x20_2) false _ A13.out).mono ?_); rintro e w' ⟨rfl, ⟨nd, rfl⟩⟩; refine ⟨_, rfl, ?_⟩; have p15 : 0 ≤ (x20_2 : Int) := of_decide_eq_true (by first | (with_reducible assumption) | assumption); have q15 : x20_2 < (a0.size : Int) := of_decide_eq_true (by first | (with_reducible assumption) | assumption); have hx15 := bt_at a0 x20_2; replace p15 := eq_true p15; replace q15 := eq_true q15) | (go_at_call 119; (with_reducible refine (sig_digit.calls (bt a0 x20_2) true _ A16.out).mono ?_); rintro e w' ⟨rfl, ⟨nd, rfl⟩⟩))
                      go_roundg k2
                      case measure => have := HJ1.out; have := HK2.out; omega
                      case rel => exact ⟨(wrap64 (x20_2 + 1)), (by first | rfl | (simp; done) | (simp [*]; done)), H', ⟨by have := HJ1.out; have := HK2.out; omega⟩, by repeat (first | exact Drawn0.refl _ | apply Drawn0.step)⟩
                    · replace c17 := Bool.eq_false_iff.mpr c17
                      subst c17
                      have H1 : (some false) = some r := by rw [if_neg (show ¬ (false = true) by decide)] at H; exact H
                      clear H
                      have H := H1
                      clear H1
                      obtain rfl := Option.some.inj H
                      have p12 : 0 ≤ (x20_2 : Int) := of_decide_eq_true (by first | (with_reducible assumption) | assumption)
                      have q12 : x20_2 < (a0.size : Int) := of_decide_eq_true (by first | (with_reducible assumption) | assumption)
                      have hx12 := bt_at a0 x20_2
                      replace p12 := eq_true p12
                      replace q12 := eq_true q12
                      go_wp2_with (first | ((with_reducible refine gate_callee (f := 118) rfl ?_); refine goesL_ (some 26) rfl rfl Try.func118 (by kernel_rfl) rfl #[.int .u8 (bt a0 x20_2)] rfl (by (try simp only [List.map_toArray, List.map_cons, List.map_nil]); first | done | rfl | (simp only [List.length_drop, List.length_take]; rfl)) ?_; (with_reducible refine (sig_small.calls (bt a0 x20_2) false _ A13.out).mono ?_); rintro e w' ⟨rfl, ⟨nd, rfl⟩⟩; refine ⟨_, rfl, ?_⟩; have p15 : 0 ≤ (x20_2 : Int) := of_decide_eq_true (by first | (with_reducible assumption) | assumption); have q15 : x20_2 < (a0.size : Int) := of_decide_eq_true (by first | (with_reducible assumption) | assumption); have hx15 := bt_at a0 x20_2; replace p15 := eq_true p15; replace q15 := eq_true q15) | (go_at_call 119; (with_reducible refine (sig_digit.calls (bt a0 x20_2) false _ A16.out).mono ?_); rintro e w' ⟨rfl, ⟨nd, rfl⟩⟩))
                      go_ret
                      exact ⟨by first | rfl | (simp; done) | (simp [*]; done), by repeat (first | exact Drawn0.refl _ | apply Drawn0.step)⟩
                · rw [if_neg c11] at H
                  exact absurd H (by simp)
              · rw [if_neg c10] at H
                exact absurd H (by simp)
            · rw [if_neg c9] at H
              have c9b0 : decide (x20_2 < (a0.size : Int)) = false := decide_eq_false c9
              clear c9
              obtain rfl := Option.some.inj H
              go_wp2
              go_ret
              exact ⟨by first | rfl | (simp; done) | (simp [*]; done), by repeat (first | exact Drawn0.refl _ | apply Drawn0.step)⟩
def ropewalkref01_small.f (a0 : Int) : Option (Bool) := if a0 ≥ 97 then (some (decide (a0 ≤ 122))) else (some false)
set_option maxHeartbeats 8000000 in
set_option maxRecDepth 100000 in
theorem ropewalkref01_small.calls (a0 : Int) (r : Bool) (w : World) (h : ropewalkref01_small.f a0 = some r) :
    Calls Try.prog 120 #[.int .u8 a0] w fun e w' => e = .returned (.bool r) ∧ Drawn0 w w' := by
  have H : (if a0 ≥ 97 then (some (decide (a0 ≤ 122))) else (some false)) = some r := h
  clear h
  by_cases c2 : a0 ≥ 97
  · rw [if_pos c2] at H
    have c2b0 : decide (97 ≤ a0) = true := decide_eq_true c2
    clear c2
    obtain rfl := Option.some.inj H
    go_enter Try.func120, Try.ntmps120
    go_wp2
    go_ret
    exact ⟨by first | rfl | (simp; done) | (simp [*]; done), by repeat (first | exact Drawn0.refl _ | apply Drawn0.step)⟩
  · rw [if_neg c2] at H
    have c2b0 : decide (97 ≤ a0) = false := decide_eq_false c2
    clear c2
    obtain rfl := Option.some.inj H
    go_enter Try.func120, Try.ntmps120
    go_wp2
    go_ret
    exact ⟨by first | rfl | (simp; done) | (simp [*]; done), by repeat (first | exact Drawn0.refl _ | apply Drawn0.step)⟩
def ropewalkref01_digit.f (a0 : Int) : Option (Bool) := if a0 ≥ 48 then (some (decide (a0 ≤ 57))) else (some false)
set_option maxHeartbeats 8000000 in
set_option maxRecDepth 100000 in
theorem ropewalkref01_digit.calls (a0 : Int) (r : Bool) (w : World) (h : ropewalkref01_digit.f a0 = some r) :
    Calls Try.prog 121 #[.int .u8 a0] w fun e w' => e = .returned (.bool r) ∧ Drawn0 w w' := by
  have H : (if a0 ≥ 48 then (some (decide (a0 ≤ 57))) else (some false)) = some r := h
  clear h
  by_cases c2 : a0 ≥ 48
  · rw [if_pos c2] at H
    have c2b0 : decide (48 ≤ a0) = true := decide_eq_true c2
    clear c2
    obtain rfl := Option.some.inj H
    go_enter Try.func121, Try.ntmps121
    go_wp2
    go_ret
    exact ⟨by first | rfl | (simp; done) | (simp [*]; done), by repeat (first | exact Drawn0.refl _ | apply Drawn0.step)⟩
  · rw [if_neg c2] at H
    have c2b0 : decide (48 ≤ a0) = false := decide_eq_false c2
    clear c2
    obtain rfl := Option.some.inj H
    go_enter Try.func121, Try.ntmps121
    go_wp2
    go_ret
    exact ⟨by first | rfl | (simp; done) | (simp [*]; done), by repeat (first | exact Drawn0.refl _ | apply Drawn0.step)⟩
mutual
def ropewalkref01_IsName.j0 : Nat → ByteArray → Bool → Option (Bool)
  | 0, _, _ => none
  | k + 1, x0, x13 => if x13 = true then (some false) else (ropewalkref01_IsName.l0 k x0 0)
def ropewalkref01_IsName.l0 : Nat → ByteArray → Int → Option (Bool)
  | 0, _, _ => none
  | k + 1, x0, x3 => if x3 < (x0.size : Int) then (if 0 ≤ x3 then ((ropewalkref01_small.f (bt x0 x3)).bind fun t104 => ((ropewalkref01_digit.f (bt x0 x3)).bind fun t105 => (if t104 = true then (ropewalkref01_IsName.l0 k x0 (wrap64 (x3 + 1))) else (if x3 = 0 then (some false) else (if t105 = true then (ropewalkref01_IsName.l0 k x0 (wrap64 (x3 + 1))) else (some false)))))) else (none)) else (some true)
end
def ropewalkref01_IsName.f (k : Nat) (a0 : ByteArray) : Option (Bool) := if (a0.size : Int) < 1 then (ropewalkref01_IsName.j0 k a0 true) else (ropewalkref01_IsName.j0 k a0 (decide ((a0.size : Int) > 12)))
set_option maxHeartbeats 8000000 in
set_option maxRecDepth 100000 in
theorem ropewalkref01_IsName.calls (k : Nat) (a0 : ByteArray) (r : Bool) (w : World) (h : ropewalkref01_IsName.f k a0 = some r) :
    Calls Try.prog 101 #[.string a0] w fun e w' => e = .returned (.bool r) ∧ Drawn0 w w' := by
  have H : (if (a0.size : Int) < 1 then (ropewalkref01_IsName.j0 k a0 true) else (ropewalkref01_IsName.j0 k a0 (decide ((a0.size : Int) > 12)))) = some r := h
  clear h
  have HC2 := Aside0.mk H
  clear H
  go_enter Try.func101, Try.ntmps101
  go_upto_region 1 with (fail)
  go_cut [13] (fun v13 wc => ∃ (kq : Nat) (x13_1 : Bool), v13 = .bool x13_1 ∧ Aside0 (ropewalkref01_IsName.j0 kq a0 x13_1 = some r) ∧ Aside0 (kq ≤ k) ∧ Drawn0 w wc)
  case first =>
    have H := HC2.out
    clear HC2
    by_cases c3 : (a0.size : Int) < 1
    · rw [if_pos c3] at H
      have c3b0 : decide ((a0.size : Int) < 1) = true := decide_eq_true c3
      have c3b1 : decide (a0.size < 1) = true := decide_eq_true (by omega)
      clear c3
      (first | rw [c3b0] | (simp only [i64_w, i32_w]; rw [c3b0]) | skip)
      have H' := Aside0.mk H
      clear H
      go_wp2
      go_meet
      case rel => exact ⟨_, (true), (by first | rfl | (simp; done) | (simp [*]; done)), H', ⟨by first | omega | exact Nat.le_refl _⟩, by repeat (first | exact Drawn0.refl _ | apply Drawn0.step)⟩
    · rw [if_neg c3] at H
      have c3b0 : decide ((a0.size : Int) < 1) = false := decide_eq_false c3
      have c3b1 : decide (a0.size < 1) = false := decide_eq_false (by omega)
      clear c3
      (first | rw [c3b0] | (simp only [i64_w, i32_w]; rw [c3b0]) | skip)
      have H' := Aside0.mk H
      clear H
      go_wp2
      go_meet
      case rel => exact ⟨_, (decide ((a0.size : Int) > 12)), (by first | rfl | (simp; done) | (simp [*]; done)), H', ⟨by first | omega | exact Nat.le_refl _⟩, by repeat (first | exact Drawn0.refl _ | apply Drawn0.step)⟩
  case rest =>
    clear HC2
    try clear c1
    try clear p2
    try clear c3
    try clear c3b0
    try clear c3b1
    obtain ⟨kq, x13_1, rfl, HA, HJ1, ⟨mc1, rfl⟩⟩ := hcut
    cases kq with
    | zero => exact absurd HA.out (by simp [ropewalkref01_IsName.j0])
    | succ kj1 =>
      have H := HA.out
      clear HA
      simp only [ropewalkref01_IsName.j0] at H
      by_cases c4 : x13_1 = true
      · subst c4
        have H1 : (some false) = some r := by rw [if_pos rfl] at H; exact H
        clear H
        have H := H1
        clear H1
        obtain rfl := Option.some.inj H
        go_wp2
        go_ret
        exact ⟨by first | rfl | (simp; done) | (simp [*]; done), by repeat (first | exact Drawn0.refl _ | apply Drawn0.step)⟩
      · replace c4 := Bool.eq_false_iff.mpr c4
        subst c4
        have H1 : (ropewalkref01_IsName.l0 kj1 a0 0) = some r := by rw [if_neg (show ¬ (false = true) by decide)] at H; exact H
        clear H
        have H := H1
        clear H1
        have H' := Aside0.mk H
        clear H
        go_wp2
        go_loopg [3] kj1 (fun kq v3 w' => ∃ (x3_2 : Int), v3 = .int .i64 x3_2 ∧ Aside0 (ropewalkref01_IsName.l0 kq a0 x3_2 = some r) ∧ Aside0 (kq ≤ kj1) ∧ Drawn0 w w')
        case atStart => exact ⟨(0), (by first | rfl | (simp; done) | (simp [*]; done)), H', ⟨Nat.le_refl _⟩, by repeat (first | exact Drawn0.refl _ | apply Drawn0.step)⟩
        case round =>
          clear H'
          try clear c1
          try clear p2
          try clear c3
          try clear c3b0
          try clear c3b1
          try clear c4
          try clear p2
          obtain ⟨x3_2, rfl, HA, HK2, ⟨m2, rfl⟩⟩ := hrel
          cases gk with
          | zero => exact absurd HA.out (by simp [ropewalkref01_IsName.l0])
          | succ k2 =>
            have H := HA.out
            clear HA
            simp only [ropewalkref01_IsName.l0] at H
            by_cases c5 : x3_2 < (a0.size : Int)
            · rw [if_pos c5] at H
              have c5b0 : decide (x3_2 < (a0.size : Int)) = true := decide_eq_true c5
              clear c5
              by_cases c6 : 0 ≤ x3_2
              · rw [if_pos c6] at H
                have c6b0 : decide (0 ≤ x3_2) = true := decide_eq_true c6
                clear c6
                replace H := Option.bind_eq_some_iff.mp H
                obtain ⟨t104, A80, H⟩ := H
                replace H : ((ropewalkref01_digit.f (bt a0 x3_2)).bind fun t105 => (if t104 = true then (ropewalkref01_IsName.l0 k2 a0 (wrap64 (x3_2 + 1))) else (if x3_2 = 0 then (some false) else (if t105 = true then (ropewalkref01_IsName.l0 k2 a0 (wrap64 (x3_2 + 1))) else (some false))))) = some r := H
                have A8 := Aside0.mk A80
                clear A80
                replace H := Option.bind_eq_some_iff.mp H
                obtain ⟨t105, A100, H⟩ := H
                replace H : (if t104 = true then (ropewalkref01_IsName.l0 k2 a0 (wrap64 (x3_2 + 1))) else (if x3_2 = 0 then (some false) else (if t105 = true then (ropewalkref01_IsName.l0 k2 a0 (wrap64 (x3_2 + 1))) else (some false)))) = some r := H
                have A10 := Aside0.mk A100
                clear A100
                by_cases c11 : t104 = true
                · subst c11
                  have H1 : (ropewalkref01_IsName.l0 k2 a0 (wrap64 (x3_2 + 1))) = some r := by rw [if_pos rfl] at H; exact H
                  clear H
                  have H := H1
                  clear H1
                  have H' := Aside0.mk H
                  clear H
                  have p7 : 0 ≤ (x3_2 : Int) := of_decide_eq_true (by first | (with_reducible assumption) | assumption)
                  have q7 : x3_2 < (a0.size : Int) := of_decide_eq_true (by first | (with_reducible assumption) | assumption)
                  have hx7 := bt_at a0 x3_2
                  replace p7 := eq_true p7
                  replace q7 := eq_true q7
                  go_wp2_with (first | ((with_reducible refine gate_callee (f := 120) rfl ?_); refine goesL_ (some 23) rfl rfl Try.func120 (by kernel_rfl) rfl #[.int .u8 (bt a0 x3_2)] rfl (by (try simp only [List.map_toArray, List.map_cons, List.map_nil]); first | done | rfl | (simp only [List.length_drop, List.length_take]; rfl)) ?_; (with_reducible refine (ropewalkref01_small.calls (bt a0 x3_2) true _ A8.out).mono ?_); rintro e w' ⟨rfl, ⟨nd, rfl⟩⟩; refine ⟨_, rfl, ?_⟩; have p9 : 0 ≤ (x3_2 : Int) := of_decide_eq_true (by first | (with_reducible assumption) | assumption); have q9 : x3_2 < (a0.size : Int) := of_decide_eq_true (by first | (with_reducible assumption) | assumption); have hx9 := bt_at a0 x3_2; replace p9 := eq_true p9; replace q9 := eq_true q9) | ((with_reducible refine gate_callee (f := 121) rfl ?_); refine goesL_ (some 27) rfl rfl Try.func121 (by kernel_rfl) rfl #[.int .u8 (bt a0 x3_2)] rfl (by (try simp only [List.map_toArray, List.map_cons, List.map_nil]); first | done | rfl | (simp only [List.length_drop, List.length_take]; rfl)) ?_; (with_reducible refine (ropewalkref01_digit.calls (bt a0 x3_2) t105 _ A10.out).mono ?_); rintro e w' ⟨rfl, ⟨nd, rfl⟩⟩; refine ⟨_, rfl, ?_⟩))
                  go_roundg k2
                  case measure => have := HJ1.out; have := HK2.out; omega
                  case rel => exact ⟨(wrap64 (x3_2 + 1)), (by first | rfl | (simp; done) | (simp [*]; done)), H', ⟨by have := HJ1.out; have := HK2.out; omega⟩, by repeat (first | exact Drawn0.refl _ | apply Drawn0.step)⟩
                · replace c11 := Bool.eq_false_iff.mpr c11
                  subst c11
                  have H1 : (if x3_2 = 0 then (some false) else (if t105 = true then (ropewalkref01_IsName.l0 k2 a0 (wrap64 (x3_2 + 1))) else (some false))) = some r := by rw [if_neg (show ¬ (false = true) by decide)] at H; exact H
                  clear H
                  have H := H1
                  clear H1
                  by_cases c12 : x3_2 = 0
                  · rw [if_pos c12] at H
                    have c12b0 : (x3_2 == 0) = true := beq_iff_eq.mpr c12
                    have c12b1 : (x3_2 != 0) = false := bne_eq_false_iff_eq.mpr c12
                    clear c12
                    obtain rfl := Option.some.inj H
                    have p7 : 0 ≤ (x3_2 : Int) := of_decide_eq_true (by first | (with_reducible assumption) | assumption)
                    have q7 : x3_2 < (a0.size : Int) := of_decide_eq_true (by first | (with_reducible assumption) | assumption)
                    have hx7 := bt_at a0 x3_2
                    replace p7 := eq_true p7
                    replace q7 := eq_true q7
                    go_wp2_with (first | ((with_reducible refine gate_callee (f := 120) rfl ?_); refine goesL_ (some 23) rfl rfl Try.func120 (by kernel_rfl) rfl #[.int .u8 (bt a0 x3_2)] rfl (by (try simp only [List.map_toArray, List.map_cons, List.map_nil]); first | done | rfl | (simp only [List.length_drop, List.length_take]; rfl)) ?_; (with_reducible refine (ropewalkref01_small.calls (bt a0 x3_2) false _ A8.out).mono ?_); rintro e w' ⟨rfl, ⟨nd, rfl⟩⟩; refine ⟨_, rfl, ?_⟩; have p9 : 0 ≤ (x3_2 : Int) := of_decide_eq_true (by first | (with_reducible assumption) | assumption); have q9 : x3_2 < (a0.size : Int) := of_decide_eq_true (by first | (with_reducible assumption) | assumption); have hx9 := bt_at a0 x3_2; replace p9 := eq_true p9; replace q9 := eq_true q9) | ((with_reducible refine gate_callee (f := 121) rfl ?_); refine goesL_ (some 27) rfl rfl Try.func121 (by kernel_rfl) rfl #[.int .u8 (bt a0 x3_2)] rfl (by (try simp only [List.map_toArray, List.map_cons, List.map_nil]); first | done | rfl | (simp only [List.length_drop, List.length_take]; rfl)) ?_; (with_reducible refine (ropewalkref01_digit.calls (bt a0 x3_2) t105 _ A10.out).mono ?_); rintro e w' ⟨rfl, ⟨nd, rfl⟩⟩; refine ⟨_, rfl, ?_⟩))
                    go_ret
                    exact ⟨by first | rfl | (simp; done) | (simp [*]; done), by repeat (first | exact Drawn0.refl _ | apply Drawn0.step)⟩
                  · rw [if_neg c12] at H
                    have c12b0 : (x3_2 == 0) = false := beq_eq_false_iff_ne.mpr c12
                    have c12b1 : (x3_2 != 0) = true := bne_iff_ne.mpr c12
                    by_cases c13 : t105 = true
                    · subst c13
                      have H1 : (ropewalkref01_IsName.l0 k2 a0 (wrap64 (x3_2 + 1))) = some r := by rw [if_pos rfl] at H; exact H
                      clear H
                      have H := H1
                      clear H1
                      have H' := Aside0.mk H
                      clear H
                      have p7 : 0 ≤ (x3_2 : Int) := of_decide_eq_true (by first | (with_reducible assumption) | assumption)
                      have q7 : x3_2 < (a0.size : Int) := of_decide_eq_true (by first | (with_reducible assumption) | assumption)
                      have hx7 := bt_at a0 x3_2
                      replace p7 := eq_true p7
                      replace q7 := eq_true q7
                      go_wp2_with (first | ((with_reducible refine gate_callee (f := 120) rfl ?_); refine goesL_ (some 23) rfl rfl Try.func120 (by kernel_rfl) rfl #[.int .u8 (bt a0 x3_2)] rfl (by (try simp only [List.map_toArray, List.map_cons, List.map_nil]); first | done | rfl | (simp only [List.length_drop, List.length_take]; rfl)) ?_; (with_reducible refine (ropewalkref01_small.calls (bt a0 x3_2) false _ A8.out).mono ?_); rintro e w' ⟨rfl, ⟨nd, rfl⟩⟩; refine ⟨_, rfl, ?_⟩; have p9 : 0 ≤ (x3_2 : Int) := of_decide_eq_true (by first | (with_reducible assumption) | assumption); have q9 : x3_2 < (a0.size : Int) := of_decide_eq_true (by first | (with_reducible assumption) | assumption); have hx9 := bt_at a0 x3_2; replace p9 := eq_true p9; replace q9 := eq_true q9) | ((with_reducible refine gate_callee (f := 121) rfl ?_); refine goesL_ (some 27) rfl rfl Try.func121 (by kernel_rfl) rfl #[.int .u8 (bt a0 x3_2)] rfl (by (try simp only [List.map_toArray, List.map_cons, List.map_nil]); first | done | rfl | (simp only [List.length_drop, List.length_take]; rfl)) ?_; (with_reducible refine (ropewalkref01_digit.calls (bt a0 x3_2) true _ A10.out).mono ?_); rintro e w' ⟨rfl, ⟨nd, rfl⟩⟩; refine ⟨_, rfl, ?_⟩))
                      go_roundg k2
                      case measure => have := HJ1.out; have := HK2.out; omega
                      case rel => exact ⟨(wrap64 (x3_2 + 1)), (by first | rfl | (simp; done) | (simp [*]; done)), H', ⟨by have := HJ1.out; have := HK2.out; omega⟩, by repeat (first | exact Drawn0.refl _ | apply Drawn0.step)⟩
                    · replace c13 := Bool.eq_false_iff.mpr c13
                      subst c13
                      have H1 : (some false) = some r := by rw [if_neg (show ¬ (false = true) by decide)] at H; exact H
                      clear H
                      have H := H1
                      clear H1
                      obtain rfl := Option.some.inj H
                      have p7 : 0 ≤ (x3_2 : Int) := of_decide_eq_true (by first | (with_reducible assumption) | assumption)
                      have q7 : x3_2 < (a0.size : Int) := of_decide_eq_true (by first | (with_reducible assumption) | assumption)
                      have hx7 := bt_at a0 x3_2
                      replace p7 := eq_true p7
                      replace q7 := eq_true q7
                      go_wp2_with (first | ((with_reducible refine gate_callee (f := 120) rfl ?_); refine goesL_ (some 23) rfl rfl Try.func120 (by kernel_rfl) rfl #[.int .u8 (bt a0 x3_2)] rfl (by (try simp only [List.map_toArray, List.map_cons, List.map_nil]); first | done | rfl | (simp only [List.length_drop, List.length_take]; rfl)) ?_; (with_reducible refine (ropewalkref01_small.calls (bt a0 x3_2) false _ A8.out).mono ?_); rintro e w' ⟨rfl, ⟨nd, rfl⟩⟩; refine ⟨_, rfl, ?_⟩; have p9 : 0 ≤ (x3_2 : Int) := of_decide_eq_true (by first | (with_reducible assumption) | assumption); have q9 : x3_2 < (a0.size : Int) := of_decide_eq_true (by first | (with_reducible assumption) | assumption); have hx9 := bt_at a0 x3_2; replace p9 := eq_true p9; replace q9 := eq_true q9) | ((with_reducible refine gate_callee (f := 121) rfl ?_); refine goesL_ (some 27) rfl rfl Try.func121 (by kernel_rfl) rfl #[.int .u8 (bt a0 x3_2)] rfl (by (try simp only [List.map_toArray, List.map_cons, List.map_nil]); first | done | rfl | (simp only [List.length_drop, List.length_take]; rfl)) ?_; (with_reducible refine (ropewalkref01_digit.calls (bt a0 x3_2) false _ A10.out).mono ?_); rintro e w' ⟨rfl, ⟨nd, rfl⟩⟩; refine ⟨_, rfl, ?_⟩))
                      go_ret
                      exact ⟨by first | rfl | (simp; done) | (simp [*]; done), by repeat (first | exact Drawn0.refl _ | apply Drawn0.step)⟩
              · rw [if_neg c6] at H
                exact absurd H (by simp)
            · rw [if_neg c5] at H
              have c5b0 : decide (x3_2 < (a0.size : Int)) = false := decide_eq_false c5
              clear c5
              obtain rfl := Option.some.inj H
              go_wp2
              go_ret
              exact ⟨by first | rfl | (simp; done) | (simp [*]; done), by repeat (first | exact Drawn0.refl _ | apply Drawn0.step)⟩
def ropewalkref01_Find.l0 : Nat → List (S89) → ByteArray → Int → Option (Int)
  | 0, _, _, _ => none
  | k + 1, x0, x1, x5 => if x5 < (x0.length : Int) then (if 0 ≤ x5 then (if ((rd_T89 x0 x5).f0).toList = x1.toList then (some x5) else (ropewalkref01_Find.l0 k x0 x1 (wrap64 (x5 + 1)))) else (none)) else (some (-1))
def ropewalkref01_Find.f (k : Nat) (l0 : List (S89)) (a1 : ByteArray) : Option (Int) := ropewalkref01_Find.l0 k l0 a1 0
set_option maxHeartbeats 8000000 in
set_option maxRecDepth 100000 in
theorem ropewalkref01_Find.calls (k : Nat) (A0 : Option Addr) (c0 : Nat) (l0 : List (S89)) (a1 : ByteArray) (r : Int) (w : World) (hr0 : Kd.C k89 w A0 l0.length l0) (hc0 : l0.length ≤ c0) (h : ropewalkref01_Find.f k l0 a1 = some r) :
    Calls Try.prog 102 #[.slice A0 l0.length c0, .string a1] w fun e w' => e = .returned (.int .i64 r) ∧ Drawn0 w w' := by
  have HR0 := Aside0.mk hr0
  have HC0 := Aside0.mk hc0
  clear hr0 hc0
  have H : (ropewalkref01_Find.l0 k l0 a1 0) = some r := h
  clear h
  have H' := Aside0.mk H
  clear H
  go_enter Try.func102, Try.ntmps102
  go_wp2
  go_loopg [5] k (fun kq v5 w' => ∃ (x5_1 : Int), v5 = .int .i64 x5_1 ∧ Aside0 (ropewalkref01_Find.l0 kq l0 a1 x5_1 = some r) ∧ Aside0 (kq ≤ k) ∧ Drawn0 w w')
  case atStart => exact ⟨(0), (by first | rfl | (simp; done) | (simp [*]; done)), H', ⟨Nat.le_refl _⟩, by repeat (first | exact Drawn0.refl _ | apply Drawn0.step)⟩
  case round =>
    clear H'
    try clear c1
    try clear p2
    obtain ⟨x5_1, rfl, HA, HK1, ⟨m1, rfl⟩⟩ := hrel
    cases gk with
    | zero => exact absurd HA.out (by simp [ropewalkref01_Find.l0])
    | succ k1 =>
      have H := HA.out
      clear HA
      simp only [ropewalkref01_Find.l0] at H
      by_cases c3 : x5_1 < (l0.length : Int)
      · rw [if_pos c3] at H
        have c3b0 : decide (x5_1 < (l0.length : Int)) = true := decide_eq_true c3
        clear c3
        by_cases c4 : 0 ≤ x5_1
        · rw [if_pos c4] at H
          have c4b0 : decide (0 ≤ x5_1) = true := decide_eq_true c4
          clear c4
          by_cases c5 : ((rd_T89 l0 x5_1).f0).toList = a1.toList
          · rw [if_pos c5] at H
            have c5b0 : (((rd_T89 l0 x5_1).f0).toList == a1.toList) = true := beq_iff_eq.mpr c5
            have c5b1 : (((rd_T89 l0 x5_1).f0).toList != a1.toList) = false := bne_eq_false_iff_eq.mpr c5
            clear c5
            obtain rfl := Option.some.inj H
            have p106 : 0 ≤ (x5_1 : Int) := of_decide_eq_true (by first | (with_reducible assumption) | assumption)
            have q106 : x5_1 < (l0.length : Int) := of_decide_eq_true (by first | (with_reducible assumption) | assumption)
            obtain ⟨ad106, e106, hx106_0, hx106_1, hx106_2⟩ := at_T89 HR0.out x5_1 p106 q106
            cases e106
            replace p106 := eq_true p106
            replace q106 := eq_true q106
            go_wp2
            go_ret
            exact ⟨by first | rfl | (simp; done) | (simp [*]; done), by repeat (first | exact Drawn0.refl _ | apply Drawn0.step)⟩
          · rw [if_neg c5] at H
            have c5b0 : (((rd_T89 l0 x5_1).f0).toList == a1.toList) = false := beq_eq_false_iff_ne.mpr c5
            have c5b1 : (((rd_T89 l0 x5_1).f0).toList != a1.toList) = true := bne_iff_ne.mpr c5
            have H' := Aside0.mk H
            clear H
            have p106 : 0 ≤ (x5_1 : Int) := of_decide_eq_true (by first | (with_reducible assumption) | assumption)
            have q106 : x5_1 < (l0.length : Int) := of_decide_eq_true (by first | (with_reducible assumption) | assumption)
            obtain ⟨ad106, e106, hx106_0, hx106_1, hx106_2⟩ := at_T89 HR0.out x5_1 p106 q106
            cases e106
            replace p106 := eq_true p106
            replace q106 := eq_true q106
            go_wp2
            go_roundg k1
            case measure => have := HK1.out; omega
            case rel => exact ⟨(wrap64 (x5_1 + 1)), (by first | rfl | (simp; done) | (simp [*]; done)), H', ⟨by have := HK1.out; omega⟩, by repeat (first | exact Drawn0.refl _ | apply Drawn0.step)⟩
        · rw [if_neg c4] at H
          exact absurd H (by simp)
      · rw [if_neg c3] at H
        have c3b0 : decide (x5_1 < (l0.length : Int)) = false := decide_eq_false c3
        clear c3
        obtain rfl := Option.some.inj H
        go_wp2
        go_ret
        exact ⟨by first | rfl | (simp; done) | (simp [*]; done), by repeat (first | exact Drawn0.refl _ | apply Drawn0.step)⟩
def ropewalkref01_Arity.f (l0 : List (S89)) (a1 : Int) : Option (Int) := if a1 < 0 then (some (-1)) else (if a1 ≥ (l0.length : Int) then (some (-1)) else (if 0 ≤ a1 then (if a1 < (l0.length : Int) then (some ((rd_T89 l0 a1).f1)) else (none)) else (none)))
set_option maxHeartbeats 8000000 in
set_option maxRecDepth 100000 in
theorem ropewalkref01_Arity.calls (A0 : Option Addr) (c0 : Nat) (l0 : List (S89)) (a1 : Int) (r : Int) (w : World) (hr0 : Kd.C k89 w A0 l0.length l0) (hc0 : l0.length ≤ c0) (h : ropewalkref01_Arity.f l0 a1 = some r) :
    Calls Try.prog 103 #[.slice A0 l0.length c0, .int .i64 a1] w fun e w' => e = .returned (.int .i64 r) ∧ Drawn0 w w' := by
  have HR0 := Aside0.mk hr0
  have HC0 := Aside0.mk hc0
  clear hr0 hc0
  have H : (if a1 < 0 then (some (-1)) else (if a1 ≥ (l0.length : Int) then (some (-1)) else (if 0 ≤ a1 then (if a1 < (l0.length : Int) then (some ((rd_T89 l0 a1).f1)) else (none)) else (none)))) = some r := h
  clear h
  by_cases c3 : a1 < 0
  · rw [if_pos c3] at H
    have c3b0 : decide (a1 < 0) = true := decide_eq_true c3
    clear c3
    obtain rfl := Option.some.inj H
    go_enter Try.func103, Try.ntmps103
    go_wp2
    go_ret
    exact ⟨by first | rfl | (simp; done) | (simp [*]; done), by repeat (first | exact Drawn0.refl _ | apply Drawn0.step)⟩
  · rw [if_neg c3] at H
    have c3b0 : decide (a1 < 0) = false := decide_eq_false c3
    clear c3
    by_cases c4 : a1 ≥ (l0.length : Int)
    · rw [if_pos c4] at H
      have c4b0 : decide ((l0.length : Int) ≤ a1) = true := decide_eq_true c4
      clear c4
      obtain rfl := Option.some.inj H
      go_enter Try.func103, Try.ntmps103
      go_wp2
      go_ret
      exact ⟨by first | rfl | (simp; done) | (simp [*]; done), by repeat (first | exact Drawn0.refl _ | apply Drawn0.step)⟩
    · rw [if_neg c4] at H
      have c4b0 : decide ((l0.length : Int) ≤ a1) = false := decide_eq_false c4
      clear c4
      by_cases c5 : 0 ≤ a1
      · rw [if_pos c5] at H
        have c5b0 : decide (0 ≤ a1) = true := decide_eq_true c5
        clear c5
        by_cases c6 : a1 < (l0.length : Int)
        · rw [if_pos c6] at H
          have c6b0 : decide (a1 < (l0.length : Int)) = true := decide_eq_true c6
          clear c6
          obtain rfl := Option.some.inj H
          have p115 : 0 ≤ (a1 : Int) := of_decide_eq_true (by first | (with_reducible assumption) | assumption)
          have q115 : a1 < (l0.length : Int) := of_decide_eq_true (by first | (with_reducible assumption) | assumption)
          obtain ⟨ad115, e115, hx115_0, hx115_1, hx115_2⟩ := at_T89 HR0.out a1 p115 q115
          cases e115
          replace p115 := eq_true p115
          replace q115 := eq_true q115
          go_enter Try.func103, Try.ntmps103
          go_wp2
          go_ret
          exact ⟨by first | rfl | (simp; done) | (simp [*]; done), by repeat (first | exact Drawn0.refl _ | apply Drawn0.step)⟩
        · rw [if_neg c6] at H
          exact absurd H (by simp)
      · rw [if_neg c5] at H
        exact absurd H (by simp)
def ropewalkref02_arity.f (l0 : List (S89)) (a1 : Int) : Option (Int) := (ropewalkref01_Arity.f l0 a1).bind fun t116 => (if t116 < 0 then (some 0) else (some t116))
set_option maxHeartbeats 8000000 in
set_option maxRecDepth 100000 in
theorem ropewalkref02_arity.calls (A0 : Option Addr) (c0 : Nat) (l0 : List (S89)) (a1 : Int) (r : Int) (w : World) (hr0 : Kd.C k89 w A0 l0.length l0) (hc0 : l0.length ≤ c0) (h : ropewalkref02_arity.f l0 a1 = some r) :
    Calls Try.prog 75 #[.slice A0 l0.length c0, .int .i64 a1] w fun e w' => e = .returned (.int .i64 r) ∧ Drawn0 w w' := by
  have HR0 := Aside0.mk hr0
  have HC0 := Aside0.mk hc0
  clear hr0 hc0
  have H : ((ropewalkref01_Arity.f l0 a1).bind fun t116 => (if t116 < 0 then (some 0) else (some t116))) = some r := h
  clear h
  replace H := Option.bind_eq_some_iff.mp H
  obtain ⟨t116, A30, H⟩ := H
  replace H : (if t116 < 0 then (some 0) else (some t116)) = some r := H
  have A3 := Aside0.mk A30
  clear A30
  by_cases c4 : t116 < 0
  · rw [if_pos c4] at H
    have c4b0 : decide (t116 < 0) = true := decide_eq_true c4
    clear c4
    obtain rfl := Option.some.inj H
    go_enter Try.func75, Try.ntmps75
    go_wp2_with (first | ((with_reducible refine gate_callee (f := 103) rfl ?_); refine goesL_ (some 8) rfl rfl Try.func103 (by kernel_rfl) rfl #[.slice A0 l0.length c0, .int .i64 a1] rfl (by (try simp only [List.map_toArray, List.map_cons, List.map_nil]); first | done | rfl | (simp only [List.length_drop, List.length_take]; rfl)) ?_; (with_reducible refine (ropewalkref01_Arity.calls _ _ l0 a1 t116 _ ?side1 ?side2 A3.out).mono ?_); (case side1 => repeat (first | exact HR0.out | (with_reducible refine Kd.C_alloc ?_ _) | (with_reducible refine Kd.C_drewN ?_ _) | (with_reducible refine Kd.C_drew ?_))); (case side2 => exact HC0.out); rintro e w' ⟨rfl, ⟨nd, rfl⟩⟩; refine ⟨_, rfl, ?_⟩))
    go_ret
    exact ⟨by first | rfl | (simp; done) | (simp [*]; done), by repeat (first | exact Drawn0.refl _ | apply Drawn0.step)⟩
  · rw [if_neg c4] at H
    have c4b0 : decide (t116 < 0) = false := decide_eq_false c4
    clear c4
    obtain rfl := Option.some.inj H
    go_enter Try.func75, Try.ntmps75
    go_wp2_with (first | ((with_reducible refine gate_callee (f := 103) rfl ?_); refine goesL_ (some 8) rfl rfl Try.func103 (by kernel_rfl) rfl #[.slice A0 l0.length c0, .int .i64 a1] rfl (by (try simp only [List.map_toArray, List.map_cons, List.map_nil]); first | done | rfl | (simp only [List.length_drop, List.length_take]; rfl)) ?_; (with_reducible refine (ropewalkref01_Arity.calls _ _ l0 a1 t116 _ ?side1 ?side2 A3.out).mono ?_); (case side1 => repeat (first | exact HR0.out | (with_reducible refine Kd.C_alloc ?_ _) | (with_reducible refine Kd.C_drewN ?_ _) | (with_reducible refine Kd.C_drew ?_))); (case side2 => exact HC0.out); rintro e w' ⟨rfl, ⟨nd, rfl⟩⟩; refine ⟨_, rfl, ?_⟩))
    go_ret
    exact ⟨by first | rfl | (simp; done) | (simp [*]; done), by repeat (first | exact Drawn0.refl _ | apply Drawn0.step)⟩
def term_isVariable.f (a0 : Int) : Option (Bool) := if a0 < 0 then (some (decide (a0 ≥ (-99)))) else (some false)
set_option maxHeartbeats 8000000 in
set_option maxRecDepth 100000 in
theorem term_isVariable.calls (a0 : Int) (r : Bool) (w : World) (h : term_isVariable.f a0 = some r) :
    Calls Try.prog 80 #[.int .i64 a0] w fun e w' => e = .returned (.bool r) ∧ Drawn0 w w' := by
  have H : (if a0 < 0 then (some (decide (a0 ≥ (-99)))) else (some false)) = some r := h
  clear h
  by_cases c2 : a0 < 0
  · rw [if_pos c2] at H
    have c2b0 : decide (a0 < 0) = true := decide_eq_true c2
    clear c2
    obtain rfl := Option.some.inj H
    go_enter Try.func80, Try.ntmps80
    go_wp2
    go_ret
    exact ⟨by first | rfl | (simp; done) | (simp [*]; done), by repeat (first | exact Drawn0.refl _ | apply Drawn0.step)⟩
  · rw [if_neg c2] at H
    have c2b0 : decide (a0 < 0) = false := decide_eq_false c2
    clear c2
    obtain rfl := Option.some.inj H
    go_enter Try.func80, Try.ntmps80
    go_wp2
    go_ret
    exact ⟨by first | rfl | (simp; done) | (simp [*]; done), by repeat (first | exact Drawn0.refl _ | apply Drawn0.step)⟩
def ropewalkref02_Same.l0 : Nat → List Int → List Int → Int → Option (Bool)
  | 0, _, _, _ => none
  | k + 1, x0, x1, x5 => if x5 < (x0.length : Int) then (if 0 ≤ x5 then (if x5 < (x1.length : Int) then (if (rd x0 x5) = (rd x1 x5) then (ropewalkref02_Same.l0 k x0 x1 (wrap64 (x5 + 1))) else (some false)) else (none)) else (none)) else (some true)
def ropewalkref02_Same.f (k : Nat) (l0 : List Int) (l1 : List Int) : Option (Bool) := if (l0.length : Int) = (l1.length : Int) then (ropewalkref02_Same.l0 k l0 l1 0) else (some false)
theorem ropewalkref02_Same.mono_l : ∀ k, (∀ y0 y1 y2, LeO (ropewalkref02_Same.l0 k y0 y1 y2) (ropewalkref02_Same.l0 (k + 1) y0 y1 y2))
  | 0 => fun _ _ _ r h => by simp [ropewalkref02_Same.l0] at h
  | k + 1 => by
    have ih0 := ropewalkref02_Same.mono_l k
    · intro y0 y1 y2
      unfold ropewalkref02_Same.l0
      repeat' first
      | (with_reducible exact ih0 _ _ _)
      | (with_reducible exact LeO.refl _)
      | (with_reducible exact LeO.none _)
      | (with_reducible refine LeO.ite ?_ ?_)
      | (with_reducible refine LeO.bind ?_ (fun _ => ?_))
      | exact ih0 _ _ _
      | exact LeO.none _
      | refine LeO.ite ?_ ?_
      | refine LeO.bind ?_ (fun _ => ?_)
theorem ropewalkref02_Same.mono : ∀ a0 a1 k, LeO (ropewalkref02_Same.f k a0 a1) (ropewalkref02_Same.f (k + 1) a0 a1) := by
  intro a0 a1 k
  have ih0 := ropewalkref02_Same.mono_l k
  unfold ropewalkref02_Same.f
  repeat' first
      | (with_reducible exact ih0 _ _ _)
      | (with_reducible exact LeO.refl _)
      | (with_reducible exact LeO.none _)
      | (with_reducible refine LeO.ite ?_ ?_)
      | (with_reducible refine LeO.bind ?_ (fun _ => ?_))
      | exact ih0 _ _ _
      | exact LeO.none _
      | refine LeO.ite ?_ ?_
      | refine LeO.bind ?_ (fun _ => ?_)
set_option maxHeartbeats 8000000 in
set_option maxRecDepth 100000 in
theorem ropewalkref02_Same.calls (k : Nat) (A0 : Option Addr) (c0 : Nat) (l0 : List Int) (A1 : Option Addr) (c1 : Nat) (l1 : List Int) (r : Bool) (w : World) (hr0 : Kd.C (Kd.int .i64) w A0 l0.length l0) (hc0 : l0.length ≤ c0) (hr1 : Kd.C (Kd.int .i64) w A1 l1.length l1) (hc1 : l1.length ≤ c1) (h : ropewalkref02_Same.f k l0 l1 = some r) :
    Calls Try.prog 42 #[.slice A0 l0.length c0, .slice A1 l1.length c1] w fun e w' => e = .returned (.bool r) ∧ Drawn0 w w' := by
  have HR0 := Aside0.mk hr0
  have HC0 := Aside0.mk hc0
  clear hr0 hc0
  have HR1 := Aside0.mk hr1
  have HC1 := Aside0.mk hc1
  clear hr1 hc1
  have H : (if (l0.length : Int) = (l1.length : Int) then (ropewalkref02_Same.l0 k l0 l1 0) else (some false)) = some r := h
  clear h
  by_cases c3 : (l0.length : Int) = (l1.length : Int)
  · rw [if_pos c3] at H
    have c3b0 : ((l0.length : Int) == (l1.length : Int)) = true := beq_iff_eq.mpr c3
    have c3b1 : ((l0.length : Int) != (l1.length : Int)) = false := bne_eq_false_iff_eq.mpr c3
    have c3b2 : (l0.length == l1.length) = true := by first | simpa using c3 | (simp at c3 ⊢; omega)
    clear c3
    have H' := Aside0.mk H
    clear H
    go_enter Try.func42, Try.ntmps42
    go_wp2
    repeat (go_quiet (fail); try go_wp2)
    go_loopg [5] k (fun kq v5 w' => ∃ (x5_1 : Int), v5 = .int .i64 x5_1 ∧ Aside0 (ropewalkref02_Same.l0 kq l0 l1 x5_1 = some r) ∧ Aside0 (kq ≤ k) ∧ Drawn0 w w')
    case atStart => exact ⟨(0), (by first | rfl | (simp; done) | (simp [*]; done)), H', ⟨Nat.le_refl _⟩, by repeat (first | exact Drawn0.refl _ | apply Drawn0.step)⟩
    case round =>
      clear H'
      try clear c1
      try clear p2
      try clear c3
      try clear c3b0
      try clear c3b1
      try clear c3b2
      obtain ⟨x5_1, rfl, HA, HK1, ⟨m1, rfl⟩⟩ := hrel
      cases gk with
      | zero => exact absurd HA.out (by simp [ropewalkref02_Same.l0])
      | succ k1 =>
        have H := HA.out
        clear HA
        simp only [ropewalkref02_Same.l0] at H
        by_cases c4 : x5_1 < (l0.length : Int)
        · rw [if_pos c4] at H
          have c4b0 : decide (x5_1 < (l0.length : Int)) = true := decide_eq_true c4
          clear c4
          by_cases c5 : 0 ≤ x5_1
          · rw [if_pos c5] at H
            have c5b0 : decide (0 ≤ x5_1) = true := decide_eq_true c5
            clear c5
            by_cases c6 : x5_1 < (l1.length : Int)
            · rw [if_pos c6] at H
              have c6b0 : decide (x5_1 < (l1.length : Int)) = true := decide_eq_true c6
              clear c6
              by_cases c7 : (rd l0 x5_1) = (rd l1 x5_1)
              · rw [if_pos c7] at H
                have c7b0 : ((rd l0 x5_1) == (rd l1 x5_1)) = true := beq_iff_eq.mpr c7
                have c7b1 : ((rd l0 x5_1) != (rd l1 x5_1)) = false := bne_eq_false_iff_eq.mpr c7
                clear c7
                have H' := Aside0.mk H
                clear H
                have p110 : 0 ≤ (x5_1 : Int) := of_decide_eq_true (by first | (with_reducible assumption) | assumption)
                have q110 : x5_1 < (l0.length : Int) := of_decide_eq_true (by first | (with_reducible assumption) | assumption)
                obtain ⟨ad110, e110, hx110_0⟩ := Kd.at_int HR0.out x5_1 p110 q110
                cases e110
                replace p110 := eq_true p110
                replace q110 := eq_true q110
                have p111 : 0 ≤ (x5_1 : Int) := of_decide_eq_true (by first | (with_reducible assumption) | assumption)
                have q111 : x5_1 < (l1.length : Int) := of_decide_eq_true (by first | (with_reducible assumption) | assumption)
                obtain ⟨ad111, e111, hx111_0⟩ := Kd.at_int HR1.out x5_1 p111 q111
                cases e111
                replace p111 := eq_true p111
                replace q111 := eq_true q111
                go_wp2
                repeat (go_quiet (fail); try go_wp2)
                go_roundg k1
                case measure => have := HK1.out; omega
                case rel => exact ⟨(wrap64 (x5_1 + 1)), (by first | rfl | (simp; done) | (simp [*]; done)), H', ⟨by have := HK1.out; omega⟩, by repeat (first | exact Drawn0.refl _ | apply Drawn0.step)⟩
              · rw [if_neg c7] at H
                have c7b0 : ((rd l0 x5_1) == (rd l1 x5_1)) = false := beq_eq_false_iff_ne.mpr c7
                have c7b1 : ((rd l0 x5_1) != (rd l1 x5_1)) = true := bne_iff_ne.mpr c7
                obtain rfl := Option.some.inj H
                have p110 : 0 ≤ (x5_1 : Int) := of_decide_eq_true (by first | (with_reducible assumption) | assumption)
                have q110 : x5_1 < (l0.length : Int) := of_decide_eq_true (by first | (with_reducible assumption) | assumption)
                obtain ⟨ad110, e110, hx110_0⟩ := Kd.at_int HR0.out x5_1 p110 q110
                cases e110
                replace p110 := eq_true p110
                replace q110 := eq_true q110
                have p111 : 0 ≤ (x5_1 : Int) := of_decide_eq_true (by first | (with_reducible assumption) | assumption)
                have q111 : x5_1 < (l1.length : Int) := of_decide_eq_true (by first | (with_reducible assumption) | assumption)
                obtain ⟨ad111, e111, hx111_0⟩ := Kd.at_int HR1.out x5_1 p111 q111
                cases e111
                replace p111 := eq_true p111
                replace q111 := eq_true q111
                go_wp2
                repeat (go_quiet (fail); try go_wp2)
                go_ret
                exact ⟨by first | rfl | (simp; done) | (simp [*]; done), by repeat (first | exact Drawn0.refl _ | apply Drawn0.step)⟩
            · rw [if_neg c6] at H
              exact absurd H (by simp)
          · rw [if_neg c5] at H
            exact absurd H (by simp)
        · rw [if_neg c4] at H
          have c4b0 : decide (x5_1 < (l0.length : Int)) = false := decide_eq_false c4
          clear c4
          obtain rfl := Option.some.inj H
          go_wp2
          repeat (go_quiet (fail); try go_wp2)
          go_ret
          exact ⟨by first | rfl | (simp; done) | (simp [*]; done), by repeat (first | exact Drawn0.refl _ | apply Drawn0.step)⟩
  · rw [if_neg c3] at H
    have c3b0 : ((l0.length : Int) == (l1.length : Int)) = false := beq_eq_false_iff_ne.mpr c3
    have c3b1 : ((l0.length : Int) != (l1.length : Int)) = true := bne_iff_ne.mpr c3
    have c3b2 : (l0.length == l1.length) = false := by first | simpa using c3 | (simp at c3 ⊢; omega)
    obtain rfl := Option.some.inj H
    go_enter Try.func42, Try.ntmps42
    go_wp2
    repeat (go_quiet (fail); try go_wp2)
    go_ret
    exact ⟨by first | rfl | (simp; done) | (simp [*]; done), by repeat (first | exact Drawn0.refl _ | apply Drawn0.step)⟩
end Go.Proofs.Ytadjoaipmcbieaa.A

/-! SS -/
namespace Go.Proofs.Ytadjoaipmcbieaa
open Go.RowKit Go.Proofs.YtadjoaipmcbieaaW.PrintWords Go.Proofs.YtadjoaipmcbieaaW.PrintLast Go.Proofs.YtadjoaipmcbieaaW.PrintMore A
/-- The block g is a signature whose list reads as l. -/
def SigC (w : World) (g : Nat) (l : List S89) : Prop := ∃ A c, w.cell? ⟨g, 0, none⟩ = some (.slice A l.length c) ∧ l.length ≤ c ∧ Kd.C k89 w A l.length l
theorem SigC.below {w w' : World} {g : Nat} {l : List S89} (h : SigC w g l) (hb : Below w.heap.size w w') : SigC w' g l := by
  obtain ⟨A, c, h1, h2, h3⟩ := h
  exact ⟨A, c, pw_cell_below hb h1, h2, Kd.C_below h3 hb⟩
theorem cell_alloc {w : World} {a : Addr} {v : Value} (h : w.cell? a = some v) (o : Obj) : (w.alloc o).cell? a = some v := pw_cell_below (below_alloc (Below.refl _ _) o) h
/-- Len: of a signature. -/
theorem len_any (g : Nat) (l : List S89) (w : World) (hs : SigC w g l) :
    Calls Try.prog 79 #[.pointer (some ⟨g, 0, none⟩)] w fun e w' => e = .returned (.int .i64 l.length) ∧ w = w' := by
  obtain ⟨A, c, h1, h2, h3⟩ := hs
  go_enter Try.func79, Try.ntmps79
  go_wp2
  go_ret
  exact ⟨rfl, rfl⟩
theorem at_in (g : Nat) (l : List S89) (n : Int) (w : World) (hs : SigC w g l) (h0 : 0 ≤ n) (hn : n < l.length) :
    Calls Try.prog 122 #[.pointer (some ⟨g, 0, none⟩), .int .i64 n] w fun e w' => e = .returned (.tuple #[.agg #[.string (rd_T89 l n).f0, .int .i64 (rd_T89 l n).f1, .bool (rd_T89 l n).f2], .int .i64 0]) ∧ Below w.heap.size w w' := by
  obtain ⟨A, c, h1, h2, h3⟩ := hs
  obtain ⟨ad, rfl, hc0, hc1, hc2⟩ := at_T89 h3 n h0 hn
  have e1 : decide (n < 0) = false := decide_eq_false (by omega)
  have e2 : decide ((l.length : Int) ≤ n) = false := decide_eq_false (by omega)
  replace h1 := cell_alloc h1
  replace hc0 := cell_alloc hc0
  replace hc1 := cell_alloc hc1
  replace hc2 := cell_alloc hc2
  go_enter Try.func122, Try.ntmps122
  go_wp2
  exact bodyPost_ret (v := .tuple #[.agg #[.string (rd_T89 l n).f0, .int .i64 (rd_T89 l n).f1, .bool (rd_T89 l n).f2], .int .i64 0]) (by simp [results, Try.results122, go_sem]) rfl ⟨rfl, (Below.refl _ _).alloc (Nat.le_refl _) _⟩
/-- At: no such symbol. -/
theorem at_out (g : Nat) (l : List S89) (n : Int) (w : World) (hs : SigC w g l) (h0 : n < 0 ∨ l.length ≤ n) :
    Calls Try.prog 122 #[.pointer (some ⟨g, 0, none⟩), .int .i64 n] w fun e w' => e = .returned (.tuple #[.agg #[.string ⟨#[]⟩, .int .i64 0, .bool false], .int .i64 14]) ∧ Below w.heap.size w w' := by
  obtain ⟨A, c, h1, h2, h3⟩ := hs
  replace h1 := cell_alloc h1
  by_cases hn : n < 0
  · have e1 : decide (n < 0) = true := decide_eq_true hn
    go_enter Try.func122, Try.ntmps122
    go_wp2
    exact bodyPost_ret (v := .tuple #[.agg #[.string ⟨#[]⟩, .int .i64 0, .bool false], .int .i64 14]) (by simp [results, Try.results122, go_sem]) rfl ⟨rfl, (Below.refl _ _).alloc (Nat.le_refl _) _⟩
  · have e1 : decide (n < 0) = false := decide_eq_false (by omega)
    have e2 : decide ((l.length : Int) ≤ n) = true := decide_eq_true (by omega)
    go_enter Try.func122, Try.ntmps122
    go_wp2
    exact bodyPost_ret (v := .tuple #[.agg #[.string ⟨#[]⟩, .int .i64 0, .bool false], .int .i64 14]) (by simp [results, Try.results122, go_sem]) rfl ⟨rfl, (Below.refl _ _).alloc (Nat.le_refl _) _⟩
/-- How many arguments stand behind a number. -/
def ar (l : List S89) (n : Int) : Int := if n < 0 then 0 else (rd_T89 l n).f1
theorem ar_neg {l : List S89} {n : Int} (h : n < 0) : ar l n = 0 := if_pos h
theorem ar_out {l : List S89} {n : Int} (h : l.length ≤ n) : ar l n = 0 := by
  unfold ar; split
  · rfl
  · unfold rd_T89; rw [List.getD_eq_getElem?_getD, List.getElem?_eq_none (by omega)]; rfl
theorem arity_any (g : Nat) (l : List S89) (n : Int) (w : World) (hs : SigC w g l) :
    Calls Try.prog 104 #[.pointer (some ⟨g, 0, none⟩), .int .i64 n] w fun e w' => e = .returned (.int .i64 (ar l n)) ∧ Below w.heap.size w w' := by
  by_cases h0 : n < 0
  · rw [ar_neg h0]
    have e1 : decide (n < 0) = true := decide_eq_true h0
    go_enter Try.func104, Try.ntmps104
    go_wp2
    go_ret
    exact ⟨rfl, Below.refl _ _⟩
  · have e1 : decide (n < 0) = false := decide_eq_false h0
    by_cases h1 : n < l.length
    · have e : ar l n = (rd_T89 l n).f1 := if_neg h0
      rw [e]
      clear e
      go_enter Try.func104, Try.ntmps104
      go_wp2_with (go_at_call 122; refine (at_in g l n _ hs (by omega) h1).mono ?_; rintro e w1 ⟨rfl, hb⟩)
      go_ret
      exact ⟨rfl, below_alloc hb _⟩
    · rw [ar_out (by omega)]
      go_enter Try.func104, Try.ntmps104
      go_wp2_with (go_at_call 122; refine (at_out g l n _ hs (by omega)).mono ?_; rintro e w1 ⟨rfl, hb⟩)
      go_ret
      exact ⟨rfl, below_alloc hb _⟩
end Go.Proofs.Ytadjoaipmcbieaa
namespace Go.Proofs.Ytadjoaipmcbieaa
open Go.RowKit Go.Proofs.YtadjoaipmcbieaaW.PrintWords Go.Proofs.YtadjoaipmcbieaaW.PrintLast Go.Proofs.YtadjoaipmcbieaaW.PrintMore A
/-- What the loop of term.end tells: the rest of the list, how many terms must come yet, the place. -/
def fin (a : Int → Int) : List Int → Int → Nat → Int
  | [], o, p => if 0 < o then p + 1 else p
  | n :: r, o, p => if 0 < o then fin a r (o + (a n - 1)) (p + 1) else p
/-- A signature as sig.Add makes it. -/
structure GoodL (l : List S89) : Prop where
  len : l.length ≤ 64
  ar : ∀ x ∈ l, 0 ≤ x.f1 ∧ x.f1 ≤ 6
theorem ar_bd {l : List S89} (h : GoodL l) (n : Int) : 0 ≤ ar l n ∧ ar l n ≤ 6 := by
  unfold ar; split
  · omega
  · unfold rd_T89
    rcases Nat.lt_or_ge n.toNat l.length with hl | hl
    · rw [List.getD_eq_getElem?_getD, List.getElem?_eq_getElem hl]
      exact h.ar _ (List.getElem_mem hl)
    · rw [List.getD_eq_getElem?_getD, List.getElem?_eq_none hl]; simp [z89]
theorem drop_rd (t : List Int) (p : Nat) (h : p < t.length) : t.drop p = rd t p :: t.drop (p + 1) := by
  rw [List.drop_eq_getElem_cons h]; simp [rd, List.getD_eq_getElem?_getD, List.getElem?_eq_getElem h]
theorem int_at {w : World} {A : Option Addr} {n : Nat} {xs : List Int} (h : Kd.C (Kd.int .i64) w A n xs) (p : Nat) (hp : p < n) : ∃ ad, A = some ad ∧ w.cell? (ad.add p) = some (.int .i64 (rd xs p)) := by
  obtain ⟨ad, e, hc⟩ := Kd.at_int h p (by omega) (by omega)
  exact ⟨ad, e, by simpa using hc⟩
theorem fin_stop {a : Int → Int} {r : List Int} {k : Int} {p : Nat} (h : ¬ 0 < k) : fin a r k p = p := by cases r <;> simp [fin, h]
theorem fin_end {a : Int → Int} {t : List Int} {k : Int} {p : Nat} (h : 0 < k) (hp : t.length ≤ p) : fin a (t.drop p) k p = p + 1 := by
  rw [List.drop_eq_nil_of_le hp]; simp [fin, h]
theorem fin_step {a : Int → Int} {t : List Int} {k : Int} {p : Nat} (h : 0 < k) (hp : p < t.length) : fin a (t.drop p) k p = fin a (t.drop (p + 1)) (k + (a (rd t p) - 1)) (p + 1) := by
  rw [drop_rd t p hp]; simp [fin, h]
theorem ret_int {k : IntKind} {a b : Int} (h : a = b) : Ending.returned (.int k a) = .returned (.int k b) := by rw [h]
set_option maxHeartbeats 1000000 in
theorem end_any (g : Nat) (l : List S89) (A : Option Addr) (c : Nat) (t : List Int) (p : Nat) (w : World) (hs : SigC w g l) (hl : GoodL l)
    (ht : Kd.C (Kd.int .i64) w A t.length t) (h2 : t.length ≤ 2000) (hp : p ≤ t.length) :
    Calls Try.prog 77 #[.pointer (some ⟨g, 0, none⟩), .slice A t.length c, .int .i64 p] w fun e w' => e = .returned (.int .i64 (fin (ar l) (t.drop p) 1 p)) ∧ Below w.heap.size w w' := by
  have HS := Aside0.mk hs
  have HL := Aside0.mk hl
  have HT := Aside0.mk ht
  clear hs hl ht
  generalize hR : fin (ar l) (t.drop p) 1 p = R
  have HR := Aside0.mk hR
  clear hR
  go_enter Try.func77, Try.ntmps77
  go_wp2
  go_loopw [2, 7] (fun a o wr => ∃ (p : Nat) (k : Int), a = .int .i64 p ∧ o = .int .i64 k ∧ p ≤ t.length ∧ Aside0 (0 ≤ k ∧ k ≤ 1 + 6 * p) ∧ Aside0 (fin (ar l) (t.drop p) k p = R) ∧ Aside0 (Below w.heap.size w wr)) (fun a _ _ => t.length + 1 - (intOf a).toNat)
  case atStart => exact ⟨p, 1, rfl, rfl, hp, ⟨by omega⟩, HR, ⟨Below.refl _ _⟩⟩
  case round =>
    obtain ⟨p, k, rfl, rfl, hp, ⟨hk0, hk1⟩, HR, HB⟩ := hrel
    by_cases hk : 0 < k
    · have e1 : decide (0 < k) = true := decide_eq_true hk
      by_cases hq : p = t.length
      · have e2 : ((p : Int) == (t.length : Int)) = true := beq_iff_eq.2 (by omega)
        have HE := Aside0.mk (HR.out.symm.trans (fin_end hk (by omega)))
        clear hq
        go_wp2
        go_ret
        exact ⟨ret_int HE.out.symm, HB.out⟩
      · have e2 : ((p : Int) == (t.length : Int)) = false := beq_eq_false_iff_ne.2 (by omega)
        obtain ⟨ad, e, hc⟩ := int_at (Kd.C_below HT.out HB.out) p (by omega)
        cases e
        have hA := ar_bd HL.out (rd t p)
        have HE := Aside0.mk ((fin_step (a := ar l) hk (show p < t.length by omega)).symm.trans HR.out)
        go_wp2_with (go_at_call 104; refine (arity_any g l (rd t p) _ (HS.out.below HB.out)).mono ?_; rintro e w1 ⟨rfl, hb⟩)
        go_roundw
        case rel => exact ⟨p + 1, _, by go_num, rfl, by omega, ⟨by omega⟩, HE, ⟨below_then HB.out (by have := HB.out.size; omega) hb⟩⟩
        case measure => simp [intOf]; omega
    · have e1 : decide (0 < k) = false := decide_eq_false hk
      have HE := Aside0.mk (HR.out.symm.trans (fin_stop hk))
      go_wp2
      go_ret
      exact ⟨ret_int HE.out.symm, HB.out⟩
end Go.Proofs.Ytadjoaipmcbieaa
namespace Go.Proofs.Ytadjoaipmcbieaa
open Go.RowKit Go.Proofs.YtadjoaipmcbieaaW.PrintWords Go.Proofs.YtadjoaipmcbieaaW.PrintLast Go.Proofs.YtadjoaipmcbieaaW.PrintMore A
def badN (L : Int) (n : Int) : Int := if L ≤ n then 21 else if n < -99 then 22 else 0
def bads (L : Int) : List Int → Int → Int
  | [], z => z
  | n :: r, z => if badN L n = 0 then bads L r z else badN L n
def shape (l : List S89) (t : List Int) : Int := if t.length = 0 then 23 else if fin (ar l) t 1 0 = t.length then 0 else 23
def chk (l : List S89) (t : List Int) : Int := if 2000 < t.length then 20 else bads l.length t (shape l t)
theorem bads_step {L z : Int} {t : List Int} {p : Nat} (hp : p < t.length) : bads L (t.drop p) z = if badN L (rd t p) = 0 then bads L (t.drop (p + 1)) z else badN L (rd t p) := by
  rw [drop_rd t p hp]; simp [bads]
theorem bads_end {L z : Int} {t : List Int} {p : Nat} (hp : t.length ≤ p) : bads L (t.drop p) z = z := by
  rw [List.drop_eq_nil_of_le hp]; simp [bads]
theorem badN_sym {L n : Int} (h : L ≤ n) : badN L n = 21 := if_pos h
theorem badN_var {L n : Int} (h : ¬ L ≤ n) (h2 : n < -99) : badN L n = 22 := by unfold badN; rw [if_neg h, if_pos h2]
theorem badN_ok {L n : Int} (h : ¬ L ≤ n) (h2 : ¬ n < -99) : badN L n = 0 := by unfold badN; rw [if_neg h, if_neg h2]
set_option maxHeartbeats 1000000 in
theorem check_long (g : Nat) (A : Option Addr) (c n : Nat) (w : World) (h : 2000 < n) :
    Calls Try.prog 38 #[.pointer (some ⟨g, 0, none⟩), .slice A n c] w fun e w' => e = .returned (.int .i64 20) ∧ Below w.heap.size w w' := by
  have e1 : decide (2000 < (n : Int)) = true := decide_eq_true (by omega)
  go_enter Try.func38, Try.ntmps38
  go_wp2
  go_ret
  exact ⟨rfl, Below.refl _ _⟩
set_option maxHeartbeats 1000000 in
theorem check_any (g : Nat) (l : List S89) (A : Option Addr) (c : Nat) (t : List Int) (w : World) (hs : SigC w g l) (hl : GoodL l)
    (ht : Kd.C (Kd.int .i64) w A t.length t) :
    Calls Try.prog 38 #[.pointer (some ⟨g, 0, none⟩), .slice A t.length c] w fun e w' => e = .returned (.int .i64 (chk l t)) ∧ Below w.heap.size w w' := by
  by_cases h2 : 2000 < t.length
  · rw [chk, if_pos h2]
    exact check_long g A c _ w h2
  · have hR : chk l t = bads l.length (t.drop 0) (shape l t) := by rw [chk, if_neg h2]; rfl
    generalize chk l t = R at hR ⊢
    have HS := Aside0.mk hs
    have HL := Aside0.mk hl
    have HT := Aside0.mk ht
    have HR := Aside0.mk hR.symm
    clear hs hl ht hR
    have e1 : decide (2000 < (t.length : Int)) = false := decide_eq_false (by omega)
    go_enter Try.func38, Try.ntmps38
    go_wp2
    go_loopw [16] (fun i wr => ∃ (p : Nat), i = .int .i64 p ∧ p ≤ t.length ∧ Aside0 (bads l.length (t.drop p) (shape l t) = R) ∧ Aside0 (Below w.heap.size w wr)) (fun i _ => t.length - (intOf i).toNat)
    case atStart => exact ⟨0, rfl, by omega, HR, ⟨Below.refl _ _⟩⟩
    case round =>
      clear HR e1
      obtain ⟨p, rfl, hp, HR, HB⟩ := hrel
      by_cases hq : p < t.length
      · obtain ⟨ad, e, hc⟩ := int_at (Kd.C_below HT.out HB.out) p hq
        cases e
        have HE := HR.out
        rw [bads_step hq] at HE
        by_cases h3 : (l.length : Int) ≤ rd t p
        · rw [badN_sym h3] at HE
          replace HE := Aside0.mk HE
          go_wp2_with (go_at_call 79; refine (len_any g l _ (HS.out.below HB.out)).mono ?_; rintro e w1 ⟨rfl, rfl⟩)
          go_ret
          exact ⟨ret_int HE.out, HB.out⟩
        · by_cases h4 : rd t p < -99
          · rw [badN_var h3 h4] at HE
            replace HE := Aside0.mk HE
            have e2 : decide (rd t p < 0) = true := decide_eq_true (by omega)
            go_wp2_with (first | (go_at_call 79; refine (len_any g l _ (HS.out.below HB.out)).mono ?_; rintro e w1 ⟨rfl, rfl⟩) | (go_at_call 80; refine (term_isVariable.calls (rd t p) false _ (by unfold term_isVariable.f; rw [if_pos (by omega)]; simp; omega)).mono ?_; rintro e w1 ⟨rfl, hd⟩))
            go_ret
            exact ⟨ret_int HE.out, below_then HB.out (by have := HB.out.size; omega) hd.below⟩
          · rw [badN_ok h3 h4] at HE
            replace HE := Aside0.mk HE
            by_cases h5 : rd t p < 0
            · have e2 : decide (rd t p < 0) = true := decide_eq_true (by omega)
              go_wp2_with (first | (go_at_call 79; refine (len_any g l _ (HS.out.below HB.out)).mono ?_; rintro e w1 ⟨rfl, rfl⟩) | (go_at_call 80; refine (term_isVariable.calls (rd t p) true _ (by unfold term_isVariable.f; rw [if_pos (by omega)]; simp; omega)).mono ?_; rintro e w1 ⟨rfl, hd⟩))
              go_roundw
              case rel => exact ⟨p + 1, by go_num, by omega, HE, ⟨below_then HB.out (by have := HB.out.size; omega) hd.below⟩⟩
              case measure => simp [intOf]; omega
            · have e2 : decide (rd t p < 0) = false := decide_eq_false (by omega)
              go_wp2_with (first | (go_at_call 79; refine (len_any g l _ (HS.out.below HB.out)).mono ?_; rintro e w1 ⟨rfl, rfl⟩))
              go_roundw
              case rel => exact ⟨p + 1, by go_num, by omega, HE, HB⟩
              case measure => simp [intOf]; omega
      · have HE := HR.out
        rw [bads_end (by omega)] at HE
        by_cases h6 : t.length = 0
        · rw [shape, if_pos h6] at HE
          replace HE := Aside0.mk HE
          have e2 : ((t.length : Int) == 0) = true := beq_iff_eq.2 (by omega)
          clear h6
          go_wp2
          go_ret
          exact ⟨ret_int HE.out, HB.out⟩
        · rw [shape, if_neg h6] at HE
          have e2 : ((t.length : Int) == 0) = false := beq_eq_false_iff_ne.2 (by omega)
          by_cases h7 : fin (ar l) t 1 0 = t.length
          · rw [if_pos h7] at HE
            replace HE := Aside0.mk HE
            have h8 : (fin (ar l) (t.drop 0) 1 ((0 : Nat)) != (t.length : Int)) = false := by rw [List.drop_zero]; exact bne_eq_false_iff_eq.2 h7
            go_wp2_with (go_at_call 77; refine (end_any g l A c t 0 _ (HS.out.below HB.out) HL.out (Kd.C_below HT.out HB.out) (by omega) (by omega)).mono ?_; rintro e w1 ⟨rfl, hb⟩)
            go_ret
            exact ⟨ret_int HE.out, below_then HB.out (by have := HB.out.size; omega) hb⟩
          · rw [if_neg h7] at HE
            replace HE := Aside0.mk HE
            have h8 : (fin (ar l) (t.drop 0) 1 ((0 : Nat)) != (t.length : Int)) = true := by rw [List.drop_zero]; exact bne_iff_ne.2 h7
            go_wp2_with (go_at_call 77; refine (end_any g l A c t 0 _ (HS.out.below HB.out) HL.out (Kd.C_below HT.out HB.out) (by omega) (by omega)).mono ?_; rintro e w1 ⟨rfl, hb⟩)
            go_ret
            exact ⟨ret_int HE.out, below_then HB.out (by have := HB.out.size; omega) hb⟩
/-- What place tells. -/
def plc (l : List S89) (t : List Int) (at_ : Int) : Int := if chk l t = 0 then (if at_ < 0 then 24 else if (t.length : Int) ≤ at_ then 24 else 0) else chk l t
set_option maxHeartbeats 1000000 in
theorem place_any (g : Nat) (l : List S89) (A : Option Addr) (c : Nat) (t : List Int) (at_ : Int) (w : World) (hs : SigC w g l) (hl : GoodL l)
    (ht : Kd.C (Kd.int .i64) w A t.length t) :
    Calls Try.prog 76 #[.pointer (some ⟨g, 0, none⟩), .slice A t.length c, .int .i64 at_] w fun e w' => e = .returned (.int .i64 (plc l t at_)) ∧ Below w.heap.size w w' := by
  by_cases h0 : chk l t = 0
  · have e1 : (chk l t == 0) = true := beq_iff_eq.2 h0
    by_cases h1 : at_ < 0
    · have hR : plc l t at_ = 24 := by rw [plc, if_pos h0, if_pos h1]
      rw [hR]
      clear hR h0
      have e2 : decide (at_ < 0) = true := decide_eq_true h1
      go_enter Try.func76, Try.ntmps76
      go_wp2_with (go_at_call 38; refine (check_any g l A c t _ hs hl ht).mono ?_; rintro e w1 ⟨rfl, hb⟩)
      go_ret
      exact ⟨rfl, hb⟩
    · have e2 : decide (at_ < 0) = false := decide_eq_false h1
      by_cases h2 : (t.length : Int) ≤ at_
      · have hR : plc l t at_ = 24 := by rw [plc, if_pos h0, if_neg h1, if_pos h2]
        rw [hR]
        clear hR h0
        have e3 : decide ((t.length : Int) ≤ at_) = true := decide_eq_true h2
        go_enter Try.func76, Try.ntmps76
        go_wp2_with (go_at_call 38; refine (check_any g l A c t _ hs hl ht).mono ?_; rintro e w1 ⟨rfl, hb⟩)
        go_ret
        exact ⟨rfl, hb⟩
      · have hR : plc l t at_ = chk l t := by rw [plc, if_pos h0, if_neg h1, if_neg h2, h0]
        rw [hR]
        clear hR h0
        have e3 : decide ((t.length : Int) ≤ at_) = false := decide_eq_false h2
        go_enter Try.func76, Try.ntmps76
        go_wp2_with (go_at_call 38; refine (check_any g l A c t _ hs hl ht).mono ?_; rintro e w1 ⟨rfl, hb⟩)
        go_ret
        exact ⟨rfl, hb⟩
  · have hR : plc l t at_ = chk l t := by rw [plc, if_neg h0]
    rw [hR]
    have e1 : (chk l t == 0) = false := beq_eq_false_iff_ne.2 h0
    clear hR h0
    go_enter Try.func76, Try.ntmps76
    go_wp2_with (go_at_call 38; refine (check_any g l A c t _ hs hl ht).mono ?_; rintro e w1 ⟨rfl, hb⟩)
    go_ret
    exact ⟨rfl, hb⟩
end Go.Proofs.Ytadjoaipmcbieaa
namespace Go.Proofs.Ytadjoaipmcbieaa
open Go.RowKit Go.Proofs.YtadjoaipmcbieaaW.PrintWords Go.Proofs.YtadjoaipmcbieaaW.PrintLast Go.Proofs.YtadjoaipmcbieaaW.PrintMore A
/-- The place behind the subterm at p. -/
def endN (l : List S89) (t : List Int) (p : Nat) : Nat := (fin (ar l) (t.drop p) 1 p).toNat
theorem fin_ge {a : Int → Int} : ∀ (r : List Int) (k : Int) (p : Nat), (p : Int) ≤ fin a r k p ∧ fin a r k p ≤ p + r.length + 1
  | [], k, p => by simp only [fin, List.length_nil]; split <;> omega
  | n :: r, k, p => by
    simp only [fin, List.length_cons]
    split
    · have := fin_ge (a := a) r (k + (a n - 1)) (p + 1); omega
    · omega
theorem endN_cast {l : List S89} {t : List Int} {p : Nat} : ((endN l t p : Nat) : Int) = fin (ar l) (t.drop p) 1 p := by
  have := (fin_ge (a := ar l) (t.drop p) 1 p).1
  unfold endN; omega
/-- The places of k subterms, one behind the other, from nx on. -/
def argsF (l : List S89) (t : List Int) : Nat → Nat → List Nat
  | 0, _ => []
  | k + 1, nx => nx :: argsF l t k (endN l t nx)
theorem argsF_length (l : List S89) (t : List Int) : ∀ (k nx : Nat), (argsF l t k nx).length = k
  | 0, _ => rfl
  | k + 1, nx => by simp [argsF, argsF_length l t k]
def toI (xs : List Nat) : List Int := xs.map Int.ofNat
theorem toI_append (xs ys : List Nat) : toI (xs ++ ys) = toI xs ++ toI ys := by simp [toI]
theorem toI_length (xs : List Nat) : (toI xs).length = xs.length := by simp [toI]
def argsL (l : List S89) (t : List Int) (p : Nat) : List Nat := argsF l t (ar l (rd t p)).toNat (p + 1)
set_option maxHeartbeats 1000000 in
theorem args_any (g : Nat) (l : List S89) (A : Option Addr) (c : Nat) (t : List Int) (p : Nat) (w : World) (hs : SigC w g l) (hl : GoodL l)
    (ht : Kd.C (Kd.int .i64) w A t.length t) (h2 : t.length ≤ 2000) (hp : p < t.length) (hv : ∀ x ∈ argsL l t p, x ≤ t.length) :
    Calls Try.prog 78 #[.pointer (some ⟨g, 0, none⟩), .slice A t.length c, .int .i64 p] w fun e w' => ∃ v, e = .returned v ∧ Kd.R (Kd.int .i64) 3 w' w.heap.size (fun _ => True) v (toI (argsL l t p)) ∧ Below w.heap.size w w' := by
  have HS := Aside0.mk hs
  have HL := Aside0.mk hl
  have HT := Aside0.mk ht
  have HV := Aside0.mk hv
  obtain ⟨ad, e, hc⟩ := int_at ht p hp
  cases e
  have hA := ar_bd hl (rd t p)
  obtain ⟨K, hK⟩ := Int.eq_ofNat_of_zero_le hA.1
  have hK6 : K ≤ 6 := by omega
  have HG : Aside0 (argsL l t p = argsF l t K (p + 1)) := ⟨by unfold argsL; rw [hK]; rfl⟩
  have HK := Aside0.mk hK
  clear hs hl ht hv hK hA
  go_enter Try.func78, Try.ntmps78
  go_wp2_with (go_at_call 104; refine (arity_any g l (rd t p) _ HS.out).mono ?_; rintro e w1 ⟨rfl, hb⟩)
  rw [HK.out]
  go_loopw [7, 8, 17] (fun o x i wr => ∃ (k nx : Nat) (done : List Nat), x = .int .i64 nx ∧ i = .int .i64 k ∧ k ≤ K ∧ Aside0 (argsL l t p = done ++ argsF l t (K - k) nx) ∧ Aside0 (done.length = k) ∧ Aside0 (Kd.R (Kd.int .i64) 3 wr w.heap.size (fun _ => True) o (toI done)) ∧ Aside0 (Below w.heap.size w wr)) (fun _ _ i _ => K - (intOf i).toNat)
  case atStart => exact ⟨0, p + 1, [], by go_num, rfl, by omega, HG, ⟨rfl⟩, ⟨Kd.R_nil _ _ _ _ _⟩, ⟨hb⟩⟩
  case round =>
    clear HG
    obtain ⟨k, nx, done, rfl, rfl, hk, HG, HD, HO, HB⟩ := hrel
    by_cases hlt : k < K
    · obtain ⟨m, hm⟩ : ∃ m, K - k = m + 1 := ⟨K - k - 1, by omega⟩
      have hG2 := HG.out
      rw [hm, argsF] at hG2
      have hnx : nx ≤ t.length := HV.out nx (by rw [hG2]; simp)
      have hcast := endN_cast (l := l) (t := t) (p := nx)
      have HC := Aside0.mk hcast
      have HN := Aside0.mk (show argsL l t p = (done ++ [nx]) ++ argsF l t (K - (k + 1)) (endN l t nx) by rw [hG2, show K - (k + 1) = m by omega]; simp)
      clear hm hG2 hcast HG
      go_wp2_with (first
        | (at_builtin; refine Kd.R_append (Kd.int .i64) (w0 := w) w.heap.size rfl (.tmp 19) (.tmp 21) 24 3 (.int .i64 0) 8 rfl Try.underlying24 info3 rfl (by decide) (by omega) u7 (toI done) (nx : Int) [.int .i64 nx] (fun _ => True) (fun _ => False) rfl rfl rfl (fun _ hk => hk.elim) (fun _ _ => trivial) HO.out HB.out HB.out.size (by have := HD.out; rw [toI_length]; omega) ?_; intro v1 w2 ho hb2 hg hat)
        | (go_at_call 77; refine (end_any g l (some ad) c t nx _ (HS.out.below hb2) HL.out (Kd.C_below HT.out hb2) (by omega) hnx).mono ?_; rintro e w3 ⟨rfl, hb3⟩))
      go_roundw
      case rel => exact ⟨k + 1, endN l t nx, done ++ [nx], by rw [HC.out], by go_num, by omega, HN, ⟨by rw [List.length_append, HD.out]; rfl⟩, ⟨Kd.R_below (by rw [toI_append]; exact ho) hb3⟩, ⟨below_then hb2 hb2.size hb3⟩⟩
      case measure => simp [intOf]; omega
    · have hkk : k = K := by omega
      have hfin : toI (argsL l t p) = toI done := by rw [HG.out, show K - k = 0 by omega]; simp [argsF]
      have HF := Aside0.mk hfin
      clear hkk hfin
      go_wp2
      go_ret
      exact ⟨_, rfl, by rw [HF.out]; exact HO.out, HB.out⟩
theorem args_any0 (g : Nat) (l : List S89) (A : Option Addr) (c : Nat) (t : List Int) (p : Int) (w : World) (hs : SigC w g l) (hl : GoodL l)
    (ht : Kd.C (Kd.int .i64) w A t.length t) (h2 : t.length ≤ 2000) (h0 : 0 ≤ p) (hp : p < t.length) (hv : ∀ x ∈ argsL l t p.toNat, x ≤ t.length) :
    Calls Try.prog 78 #[.pointer (some ⟨g, 0, none⟩), .slice A t.length c, .int .i64 p] w fun e w' => ∃ v, e = .returned v ∧ Kd.R (Kd.int .i64) 3 w' w.heap.size (fun _ => True) v (toI (argsL l t p.toNat)) ∧ Below w.heap.size w w' := by
  obtain ⟨p, rfl⟩ := Int.eq_ofNat_of_zero_le h0
  exact args_any g l A c t p w hs hl ht h2 (by omega) hv
end Go.Proofs.Ytadjoaipmcbieaa
namespace Go.Proofs.Ytadjoaipmcbieaa
open Go.RowKit Go.Proofs.YtadjoaipmcbieaaW.PrintWords Go.Proofs.YtadjoaipmcbieaaW.PrintLast Go.Proofs.YtadjoaipmcbieaaW.PrintMore A
theorem plc_ok {l : List S89} {t : List Int} {p : Int} (h : plc l t p = 0) : chk l t = 0 ∧ 0 ≤ p ∧ p < t.length := by
  unfold plc at h
  split at h
  · split at h
    · omega
    · split at h <;> omega
  · omega
theorem chk_len {l : List S89} {t : List Int} (h : chk l t = 0) : t.length ≤ 2000 := by
  unfold chk at h; split at h <;> omega
theorem Args_ok (g : Nat) (l : List S89) (A : Option Addr) (c : Nat) (t : List Int) (p : Int) (w : World) (hs : SigC w g l) (hl : GoodL l)
    (ht : Kd.C (Kd.int .i64) w A t.length t) (hp : plc l t p = 0) (hv : ∀ x ∈ argsL l t p.toNat, x ≤ t.length) :
    Calls Try.prog 37 #[.pointer (some ⟨g, 0, none⟩), .slice A t.length c, .int .i64 p] w fun e w' => ∃ v, e = .returned (.tuple #[v, .int .i64 0]) ∧ Kd.R (Kd.int .i64) 3 w' w.heap.size (fun _ => True) v (toI (argsL l t p.toNat)) ∧ Below w.heap.size w w' := by
  obtain ⟨h1, h2, h3⟩ := plc_ok hp
  have h4 := chk_len h1
  have e1 : (plc l t p != 0) = false := bne_eq_false_iff_eq.2 hp
  clear hp h1
  go_enter Try.func37, Try.ntmps37
  go_wp2_with (first | (go_at_call 76; refine (place_any g l A c t p _ hs hl ht).mono ?_; rintro e w1 ⟨rfl, hb⟩) | (go_at_call 78; refine (args_any0 g l A c t p _ (hs.below hb) hl (Kd.C_below ht hb) h4 h2 h3 hv).mono ?_; rintro e w2 ⟨v, rfl, hR, hb2⟩))
  go_ret2
  exact ⟨_, rfl, Kd.R_lower hR hb.size, below_then hb hb.size hb2⟩
/-- The subterm at p. -/
def subL (l : List S89) (t : List Int) (p : Nat) : List Int := (t.take (endN l t p)).drop p
end Go.Proofs.Ytadjoaipmcbieaa
namespace Go.Proofs.Ytadjoaipmcbieaa
open Go.RowKit Go.Proofs.YtadjoaipmcbieaaW.PrintWords Go.Proofs.YtadjoaipmcbieaaW.PrintLast Go.Proofs.YtadjoaipmcbieaaW.PrintMore A
/-- A list is just k terms, one behind the other. -/
inductive IsT (b : Int → Nat) : Nat → List Int → Prop
  | nil : IsT b 0 []
  | cons {k : Nat} {n : Int} {r : List Int} (h : IsT b (b n + k) r) : IsT b (k + 1) (n :: r)
section
variable {b : Int → Nat} {a : Int → Int}
theorem IsT.zero {xs : List Int} (h : IsT b 0 xs) : xs = [] := by cases h; rfl
theorem IsT.of_nil {k : Nat} (h : IsT b k []) : k = 0 := by cases h; rfl
theorem IsT.uncons {k : Nat} {n : Int} {r : List Int} (h : IsT b k (n :: r)) : ∃ m, k = m + 1 ∧ IsT b (b n + m) r := by
  cases h with | cons h => exact ⟨_, rfl, h⟩
theorem IsT.pos {k : Nat} {xs : List Int} (h : IsT b k xs) : k ≤ xs.length := by
  induction h with
  | nil => simp
  | cons _ ih => simp only [List.length_cons]; omega
theorem IsT.append {k m : Nat} {xs ys : List Int} (h : IsT b k xs) (h' : IsT b m ys) : IsT b (k + m) (xs ++ ys) := by
  induction h with
  | nil => simpa using h'
  | @cons k n r _ ih => rw [show k + 1 + m = (k + m) + 1 by omega]; exact IsT.cons (by rw [← Nat.add_assoc]; exact ih)
theorem IsT.split {k m : Nat} {zs : List Int} (h : IsT b (k + m) zs) : ∃ xs ys, zs = xs ++ ys ∧ IsT b k xs ∧ IsT b m ys := by
  generalize hN : k + m = N at h
  induction h generalizing k m with
  | nil => exact ⟨[], [], rfl, by rw [show k = 0 by omega]; exact .nil, by rw [show m = 0 by omega]; exact .nil⟩
  | @cons N n r _ ih =>
    rcases Nat.eq_zero_or_pos k with rfl | hk
    · exact ⟨[], n :: r, rfl, .nil, by rw [show m = N + 1 by omega]; exact .cons ‹_›⟩
    · obtain ⟨xs, ys, rfl, h1, h2⟩ := ih (k := b n + (k - 1)) (m := m) (by omega)
      exact ⟨n :: xs, ys, rfl, by rw [show k = (k - 1) + 1 by omega]; exact .cons h1, h2⟩
/-- What stands behind a place is some terms, too. -/
theorem IsT.suffix {k : Nat} {xs ys : List Int} (h : IsT b k (xs ++ ys)) : ∃ m, IsT b m ys := by
  induction xs generalizing k with
  | nil => exact ⟨k, h⟩
  | cons x xs ih => obtain ⟨m, _, h'⟩ := IsT.uncons h; exact ih h'
theorem IsT.prefix_eq {k : Nat} {xs ys r r' : List Int} (h : IsT b k xs) (h' : IsT b k ys) (e : xs ++ r = ys ++ r') : xs = ys := by
  induction h generalizing ys with
  | nil => exact h'.zero.symm
  | @cons k n xs _ ih =>
    cases ys with
    | nil => have := h'.of_nil; omega
    | cons y ys =>
      simp only [List.cons_append, List.cons.injEq] at e
      obtain ⟨rfl, e⟩ := e
      obtain ⟨m, hm, h2⟩ := IsT.uncons h'
      obtain rfl : m = k := by omega
      rw [ih h2 e]
theorem fin_isT (hb : ∀ n, a n = b n) {k : Nat} {xs : List Int} (h : IsT b k xs) (r : List Int) (p : Nat) : fin a (xs ++ r) k p = p + xs.length := by
  induction h generalizing p with
  | nil => rw [fin_stop (by omega)]; simp
  | @cons k n xs _ ih =>
    rw [List.cons_append, fin, if_pos (by omega), hb, show ((k + 1 : Nat) : Int) + ((b n : Int) - 1) = ((b n + k : Nat) : Int) by omega, ih]
    simp only [List.length_cons]; omega
theorem isT_fin (hb : ∀ n, a n = b n) : ∀ (t : List Int) (k p : Nat), fin a t k p ≤ p + t.length → ∃ xs r, t = xs ++ r ∧ IsT b k xs ∧ fin a t k p = p + xs.length
  | [], k, p, h => by
    rcases Nat.eq_zero_or_pos k with rfl | hk
    · exact ⟨[], [], rfl, .nil, by simp [fin]⟩
    · rw [fin, if_pos (by omega)] at h; simp at h; omega
  | n :: t, k, p, h => by
    rcases Nat.eq_zero_or_pos k with rfl | hk
    · exact ⟨[], n :: t, rfl, .nil, by simp [fin]⟩
    · obtain ⟨k, rfl⟩ : ∃ m, k = m + 1 := ⟨k - 1, by omega⟩
      have e : fin a (n :: t) ((k + 1 : Nat) : Int) p = fin a t ((b n + k : Nat) : Int) (p + 1) := by
        rw [fin, if_pos (by omega), hb, show ((k + 1 : Nat) : Int) + ((b n : Int) - 1) = ((b n + k : Nat) : Int) by omega]
      rw [e] at h ⊢
      simp only [List.length_cons] at h
      obtain ⟨xs, r, rfl, h1, h2⟩ := isT_fin hb t (b n + k) (p + 1) (by omega)
      exact ⟨n :: xs, r, rfl, .cons h1, by rw [h2]; simp only [List.length_cons]; omega⟩
end
/-- Arities as numbers from 0 on. -/
def an (l : List S89) (n : Int) : Nat := (ar l n).toNat
theorem an_ar {l : List S89} (hl : GoodL l) (n : Int) : ar l n = (an l n : Nat) := by have := ar_bd hl n; unfold an; omega
/-- t is a term over l. -/
abbrev Ter (l : List S89) (t : List Int) : Prop := IsT (an l) 1 t
theorem chk_ter {l : List S89} {t : List Int} (hl : GoodL l) (h : chk l t = 0) : Ter l t := by
  unfold chk at h
  split at h
  · omega
  · have key : ∀ (r : List Int) (z : Int), bads l.length r z = 0 → z = 0 := by
      intro r
      induction r with
      | nil => intro z hz; exact hz
      | cons n r ih =>
        intro z hz
        rw [bads] at hz
        split at hz
        · exact ih z hz
        · contradiction
    have h2 := key _ _ h
    unfold shape at h2
    split at h2
    · omega
    · split at h2
      · rename_i h3 h4
        obtain ⟨xs, r, e, h5, h6⟩ := isT_fin (an_ar hl) t 1 0 (by have h4' : fin (ar l) t ((1 : Nat) : Int) 0 = t.length := h4; omega)
        have h7 : xs.length = t.length := by have h4' : fin (ar l) t ((1 : Nat) : Int) 0 = t.length := h4; omega
        have h8 : r = [] := by
          have := congrArg List.length e
          rw [List.length_append] at this
          exact List.eq_nil_of_length_eq_zero (by omega)
        subst h8
        rw [List.append_nil] at e
        rw [e]; exact h5
      · omega
/-- At each place of a term a subterm stands. -/
theorem Ter.at_ {l : List S89} {t : List Int} (h : Ter l t) {p : Nat} (hp : p < t.length) : ∃ s r, t.drop p = s ++ r ∧ Ter l s := by
  have h1 : IsT (an l) 1 (t.take p ++ t.drop p) := by rw [List.take_append_drop]; exact h
  obtain ⟨m, hm⟩ := h1.suffix
  have hm1 : 1 ≤ m := by
    rcases Nat.eq_zero_or_pos m with rfl | h0
    · have := congrArg List.length hm.zero; simp at this; omega
    · exact h0
  obtain ⟨s, r, e, hs, _⟩ := IsT.split (k := 1) (m := m - 1) (by rw [show 1 + (m - 1) = m by omega]; exact hm)
  exact ⟨s, r, e, hs⟩
theorem endN_of {l : List S89} (hl : GoodL l) {t s r : List Int} {p : Nat} (e : t.drop p = s ++ r) (hs : Ter l s) : endN l t p = p + s.length := by
  have h := fin_isT (an_ar hl) hs r p
  unfold endN
  rw [e]
  have h' : fin (ar l) (s ++ r) 1 p = p + s.length := h
  rw [h']; omega
theorem endN_le {l : List S89} (hl : GoodL l) {t : List Int} (h : Ter l t) {p : Nat} (hp : p < t.length) : endN l t p ≤ t.length ∧ p < endN l t p := by
  obtain ⟨s, r, e, hs⟩ := h.at_ hp
  have hs1 := hs.pos
  rw [endN_of hl e hs]
  have := congrArg List.length e
  simp at this
  omega
theorem subL_of {l : List S89} (hl : GoodL l) {t s r : List Int} {p : Nat} (e : t.drop p = s ++ r) (hs : Ter l s) : subL l t p = s := by
  unfold subL
  rw [endN_of hl e hs, List.drop_take, e]
  simp
/-- The places at which lists stand that are laid one behind the other. -/
def starts : Nat → List (List Int) → List Nat
  | _, [] => []
  | p, s :: ss => p :: starts (p + s.length) ss
theorem IsT.parts {b : Int → Nat} : ∀ {k : Nat} {xs : List Int}, IsT b k xs → ∃ ss : List (List Int), ss.length = k ∧ (∀ s ∈ ss, IsT b 1 s) ∧ xs = ss.flatten
  | 0, xs, h => ⟨[], rfl, by simp, by rw [h.zero]; rfl⟩
  | k + 1, xs, h => by
    obtain ⟨s, r, rfl, h1, h2⟩ := IsT.split (k := 1) (m := k) (by rw [Nat.add_comm]; exact h)
    obtain ⟨ss, rfl, h3, rfl⟩ := h2.parts
    exact ⟨s :: ss, rfl, by simpa using ⟨h1, h3⟩, rfl⟩
theorem argsF_starts {l : List S89} (hl : GoodL l) {t : List Int} : ∀ {ss : List (List Int)} {nx : Nat} {r : List Int}, (∀ s ∈ ss, Ter l s) → t.drop nx = ss.flatten ++ r → argsF l t ss.length nx = starts nx ss
  | [], _, _, _, _ => rfl
  | s :: ss, nx, r, hs, e => by
    rw [List.flatten_cons, List.append_assoc] at e
    have he := endN_of hl e (hs s (by simp))
    simp only [List.length_cons, argsF, starts]
    rw [he, argsF_starts hl (r := r) (fun x hx => hs x (by simp [hx]))]
    rw [← List.drop_drop, e]; simp
theorem starts_le : ∀ {ss : List (List Int)} {p x : Nat}, (∀ s ∈ ss, s ≠ []) → x ∈ starts p ss → p ≤ x ∧ x < p + ss.flatten.length
  | [], _, _, _, h => by simp [starts] at h
  | s :: ss, p, x, hs, h => by
    have h0 : 0 < s.length := List.length_pos_iff.2 (hs s (by simp))
    simp only [starts, List.mem_cons] at h
    rw [List.flatten_cons, List.length_append]
    rcases h with rfl | h
    · omega
    · have := starts_le (fun x hx => hs x (by simp [hx])) h; omega
theorem Ter.ne {l : List S89} {s : List Int} (h : Ter l s) : s ≠ [] := by rintro rfl; have := h.of_nil; omega
/-- What stands behind a place of a term: its arguments, one behind the other. -/
theorem Ter.args_at {l : List S89} {t : List Int} (h : Ter l t) {p : Nat} (hp : p < t.length) :
    ∃ (ss : List (List Int)) (r : List Int), t.drop (p + 1) = ss.flatten ++ r ∧ ss.length = an l (rd t p) ∧ (∀ s ∈ ss, Ter l s) ∧ Ter l (rd t p :: ss.flatten) := by
  obtain ⟨s, r, e, hs⟩ := h.at_ hp
  rw [drop_rd t p hp] at e
  cases s with
  | nil => exact absurd rfl hs.ne
  | cons n s =>
    simp only [List.cons_append, List.cons.injEq] at e
    obtain ⟨rfl, e⟩ := e
    obtain ⟨m, hm, h1⟩ := hs.uncons
    obtain rfl : m = 0 := by omega
    obtain ⟨ss, h2, h3, rfl⟩ := h1.parts
    exact ⟨ss, r, e, by omega, h3, hs⟩
theorem argsL_at {l : List S89} (hl : GoodL l) {t : List Int} {p : Nat} {ss : List (List Int)} {r : List Int} (e : t.drop (p + 1) = ss.flatten ++ r) (hn : ss.length = an l (rd t p)) (hs : ∀ s ∈ ss, Ter l s) : argsL l t p = starts (p + 1) ss := by
  unfold argsL
  rw [← argsF_starts hl hs e, hn]; rfl
theorem argsL_le {l : List S89} (hl : GoodL l) {t : List Int} (h : Ter l t) {p : Nat} (hp : p < t.length) : ∀ x ∈ argsL l t p, p < x ∧ x < t.length := by
  obtain ⟨ss, r, e, hn, hs, _⟩ := h.args_at hp
  rw [argsL_at hl e hn hs]
  intro x hx
  have h1 := starts_le (fun s h => (hs s h).ne) hx
  have := congrArg List.length e
  simp at this
  rw [List.length_flatten] at h1
  omega
end Go.Proofs.Ytadjoaipmcbieaa

/-! S5 -/
namespace Go.Proofs.Ytadjoaipmcbieaa
end Go.Proofs.Ytadjoaipmcbieaa

/-! R0 -/
namespace Go.Proofs.Ytadjoaipmcbieaa
open Go.RowKit Go.Proofs.YtadjoaipmcbieaaW.PrintWords Go.Proofs.YtadjoaipmcbieaaW.PrintLast Go.Proofs.YtadjoaipmcbieaaW.PrintMore A
theorem wrap_suc (i n : Nat) (h : i < n) (hn : n ≤ 9223372036854775807) : wrap64 ((i : Int) + 1) = ((i + 1 : Nat) : Int) := by unfold wrap64; omega
theorem rd_nat (xs : List Int) (i : Nat) (h : i < xs.length) : rd xs i = xs[i] := by simp [rd, List.getD_eq_getElem?_getD, List.getElem?_eq_getElem h]
theorem same_l0 (l0 l1 : List Int) (hl : l0.length = l1.length) (hm : l0.length ≤ 9223372036854775807) : ∀ (n i k : Nat), i + n = l0.length → n < k →
    ropewalkref02_Same.l0 k l0 l1 i = some (decide (l0.drop i = l1.drop i))
  | 0, i, k + 1, h, _ => by
    simp only [ropewalkref02_Same.l0]; rw [if_neg (by omega), List.drop_eq_nil_of_le (by omega), List.drop_eq_nil_of_le (by omega)]; simp
  | n + 1, i, k + 1, h, hk => by
    have h0 : i < l0.length := by omega
    have h1 : i < l1.length := by omega
    simp only [ropewalkref02_Same.l0]
    rw [if_pos (by omega), if_pos (by omega), if_pos (by omega), rd_nat l0 i h0, rd_nat l1 i h1, wrap_suc i _ h0 hm, List.drop_eq_getElem_cons h0, List.drop_eq_getElem_cons h1]
    by_cases e : l0[i] = l1[i]
    · rw [if_pos e, same_l0 l0 l1 hl hm n (i + 1) k (by omega) (by omega)]; simp only [e, List.cons.injEq, true_and]
    · rw [if_neg e]; simp only [List.cons.injEq, e, false_and, decide_false]
theorem same_f (l0 l1 : List Int) (hm : l0.length ≤ 9223372036854775807) : ropewalkref02_Same.f (l0.length + 1) l0 l1 = some (decide (l0 = l1)) := by
  unfold ropewalkref02_Same.f
  by_cases h : l0.length = l1.length
  · rw [if_pos (by omega)]
    exact same_l0 l0 l1 h hm l0.length 0 _ (by omega) (by omega)
  · rw [if_neg (by omega), decide_eq_false (fun e => h (by rw [e]))]
theorem same_any (A0 : Option Addr) (c0 : Nat) (l0 : List Int) (A1 : Option Addr) (c1 : Nat) (l1 : List Int) (w : World) (hr0 : Kd.C (Kd.int .i64) w A0 l0.length l0) (hc0 : l0.length ≤ c0)
    (hr1 : Kd.C (Kd.int .i64) w A1 l1.length l1) (hc1 : l1.length ≤ c1) :
    Calls Try.prog 42 #[.slice A0 l0.length c0, .slice A1 l1.length c1] w fun e w' => e = .returned (.bool (decide (l0 = l1))) ∧ Drawn0 w w' :=
  ropewalkref02_Same.calls _ A0 c0 l0 A1 c1 l1 _ w hr0 hc0 hr1 hc1 (same_f l0 l1 hr0.2.1)
theorem same_n (A0 : Option Addr) (n0 c0 : Nat) (l0 : List Int) (A1 : Option Addr) (n1 c1 : Nat) (l1 : List Int) (w : World) (hr0 : Kd.C (Kd.int .i64) w A0 n0 l0) (hc0 : n0 ≤ c0)
    (hr1 : Kd.C (Kd.int .i64) w A1 n1 l1) (hc1 : n1 ≤ c1) :
    Calls Try.prog 42 #[.slice A0 n0 c0, .slice A1 n1 c1] w fun e w' => e = .returned (.bool (decide (l0 = l1))) ∧ Drawn0 w w' := by
  obtain rfl : l0.length = n0 := hr0.1
  obtain rfl : l1.length = n1 := hr1.1
  exact same_any A0 c0 l0 A1 c1 l1 w hr0 hc0 hr1 hc1
end Go.Proofs.Ytadjoaipmcbieaa

/-! GB -/
namespace Go.Proofs.Ytadjoaipmcbieaa.A
open Go.RowKit Go.Proofs.YtadjoaipmcbieaaW.PrintWords Go.Proofs.YtadjoaipmcbieaaW.PrintLast Go.Proofs.YtadjoaipmcbieaaW.PrintMore
attribute [local go_sem] max2_int min2_int max_two min_two max_three min_three max_four min_four   -- for this text's walks alone
set_option linter.unusedVariables false
set_option linter.unusedSimpArgs false
mutual
def ropewalkref02_Check.l0 : Nat → List (S89) → List Int → Int → Option (Int)
  | 0, _, _, _ => none
  | k + 1, x0, x1, x5 => if x5 < (x1.length : Int) then (if 0 ≤ x5 then (if (rd x1 x5) ≥ (x0.length : Int) then (some 21) else (if (rd x1 x5) < (-99) then (some 22) else (ropewalkref02_Check.l0 k x0 x1 (wrap64 (x5 + 1))))) else (none)) else (ropewalkref02_Check.l1 k x0 x1 1 0)
def ropewalkref02_Check.l1 : Nat → List (S89) → List Int → Int → Int → Option (Int)
  | 0, _, _, _, _ => none
  | k + 1, x0, x1, x6, x7 => if x7 < (x1.length : Int) then (if x6 = 0 then (some 23) else (if 0 ≤ x7 then ((ropewalkref02_arity.f x0 (rd x1 x7)).bind fun t120 => (ropewalkref02_Check.l1 k x0 x1 (wrap64 ((wrap64 (x6 - 1)) + t120)) (wrap64 (x7 + 1)))) else (none))) else (if x6 = 0 then (some 0) else (some 23))
end
def ropewalkref02_Check.f (k : Nat) (l0 : List (S89)) (l1 : List Int) : Option (Int) := if (l1.length : Int) > 2000 then (some 20) else (ropewalkref02_Check.l0 k l0 l1 0)
set_option maxHeartbeats 8000000 in
set_option maxRecDepth 100000 in
theorem ropewalkref02_Check.calls (k : Nat) (A0 : Option Addr) (c0 : Nat) (l0 : List (S89)) (A1 : Option Addr) (c1 : Nat) (l1 : List Int) (r : Int) (w : World) (hr0 : Kd.C k89 w A0 l0.length l0) (hc0 : l0.length ≤ c0) (hr1 : Kd.C (Kd.int .i64) w A1 l1.length l1) (hc1 : l1.length ≤ c1) (h : ropewalkref02_Check.f k l0 l1 = some r) :
    Calls Try.prog 29 #[.slice A0 l0.length c0, .slice A1 l1.length c1] w fun e w' => e = .returned (.int .i64 r) ∧ Drawn0 w w' := by
  have HR0 := Aside0.mk hr0
  have HC0 := Aside0.mk hc0
  clear hr0 hc0
  have HR1 := Aside0.mk hr1
  have HC1 := Aside0.mk hc1
  clear hr1 hc1
  have H : (if (l1.length : Int) > 2000 then (some 20) else (ropewalkref02_Check.l0 k l0 l1 0)) = some r := h
  clear h
  by_cases c3 : (l1.length : Int) > 2000
  · rw [if_pos c3] at H
    have c3b0 : decide (2000 < (l1.length : Int)) = true := decide_eq_true c3
    have c3b1 : decide (2000 < l1.length) = true := decide_eq_true (by omega)
    clear c3
    obtain rfl := Option.some.inj H
    go_enter Try.func29, Try.ntmps29
    go_wp2
    go_ret
    exact ⟨by first | rfl | (simp; done) | (simp [*]; done), by repeat (first | exact Drawn0.refl _ | apply Drawn0.step)⟩
  · rw [if_neg c3] at H
    have c3b0 : decide (2000 < (l1.length : Int)) = false := decide_eq_false c3
    have c3b1 : decide (2000 < l1.length) = false := decide_eq_false (by omega)
    clear c3
    have H' := Aside0.mk H
    clear H
    go_enter Try.func29, Try.ntmps29
    go_wp2
    go_loopg [5] k (fun kq v5 w' => ∃ (x5_1 : Int), v5 = .int .i64 x5_1 ∧ Aside0 (ropewalkref02_Check.l0 kq l0 l1 x5_1 = some r) ∧ Aside0 (kq ≤ k) ∧ Drawn0 w w')
    case atStart => exact ⟨(0), (by first | rfl | (simp; done) | (simp [*]; done)), H', ⟨Nat.le_refl _⟩, by repeat (first | exact Drawn0.refl _ | apply Drawn0.step)⟩
    case round =>
      clear H'
      try clear c1
      try clear c2
      try clear p2
      try clear c3
      try clear c3b0
      try clear c3b1
      obtain ⟨x5_1, rfl, HA, HK1, ⟨m1, rfl⟩⟩ := hrel
      cases gk with
      | zero => exact absurd HA.out (by simp [ropewalkref02_Check.l0])
      | succ k1 =>
        have H := HA.out
        clear HA
        simp only [ropewalkref02_Check.l0] at H
        by_cases c4 : x5_1 < (l1.length : Int)
        · rw [if_pos c4] at H
          have c4b0 : decide (x5_1 < (l1.length : Int)) = true := decide_eq_true c4
          clear c4
          by_cases c5 : 0 ≤ x5_1
          · rw [if_pos c5] at H
            have c5b0 : decide (0 ≤ x5_1) = true := decide_eq_true c5
            clear c5
            by_cases c6 : (rd l1 x5_1) ≥ (l0.length : Int)
            · rw [if_pos c6] at H
              have c6b0 : decide ((l0.length : Int) ≤ (rd l1 x5_1)) = true := decide_eq_true c6
              clear c6
              obtain rfl := Option.some.inj H
              have p117 : 0 ≤ (x5_1 : Int) := of_decide_eq_true (by first | (with_reducible assumption) | assumption)
              have q117 : x5_1 < (l1.length : Int) := of_decide_eq_true (by first | (with_reducible assumption) | assumption)
              obtain ⟨ad117, e117, hx117_0⟩ := Kd.at_int HR1.out x5_1 p117 q117
              cases e117
              replace p117 := eq_true p117
              replace q117 := eq_true q117
              go_wp2
              go_ret
              exact ⟨by first | rfl | (simp; done) | (simp [*]; done), by repeat (first | exact Drawn0.refl _ | apply Drawn0.step)⟩
            · rw [if_neg c6] at H
              have c6b0 : decide ((l0.length : Int) ≤ (rd l1 x5_1)) = false := decide_eq_false c6
              clear c6
              by_cases c7 : (rd l1 x5_1) < (-99)
              · rw [if_pos c7] at H
                have c7b0 : decide ((rd l1 x5_1) < (-99)) = true := decide_eq_true c7
                clear c7
                obtain rfl := Option.some.inj H
                have p117 : 0 ≤ (x5_1 : Int) := of_decide_eq_true (by first | (with_reducible assumption) | assumption)
                have q117 : x5_1 < (l1.length : Int) := of_decide_eq_true (by first | (with_reducible assumption) | assumption)
                obtain ⟨ad117, e117, hx117_0⟩ := Kd.at_int HR1.out x5_1 p117 q117
                cases e117
                replace p117 := eq_true p117
                replace q117 := eq_true q117
                have p118 : 0 ≤ (x5_1 : Int) := of_decide_eq_true (by first | (with_reducible assumption) | assumption)
                have q118 : x5_1 < (l1.length : Int) := of_decide_eq_true (by first | (with_reducible assumption) | assumption)
                obtain ⟨ad118, e118, hx118_0⟩ := Kd.at_int HR1.out x5_1 p118 q118
                obtain rfl : ad117 = ad118 := (by injection e118)
                replace p118 := eq_true p118
                replace q118 := eq_true q118
                go_wp2
                go_ret
                exact ⟨by first | rfl | (simp; done) | (simp [*]; done), by repeat (first | exact Drawn0.refl _ | apply Drawn0.step)⟩
              · rw [if_neg c7] at H
                have c7b0 : decide ((rd l1 x5_1) < (-99)) = false := decide_eq_false c7
                clear c7
                have H' := Aside0.mk H
                clear H
                have p117 : 0 ≤ (x5_1 : Int) := of_decide_eq_true (by first | (with_reducible assumption) | assumption)
                have q117 : x5_1 < (l1.length : Int) := of_decide_eq_true (by first | (with_reducible assumption) | assumption)
                obtain ⟨ad117, e117, hx117_0⟩ := Kd.at_int HR1.out x5_1 p117 q117
                cases e117
                replace p117 := eq_true p117
                replace q117 := eq_true q117
                have p118 : 0 ≤ (x5_1 : Int) := of_decide_eq_true (by first | (with_reducible assumption) | assumption)
                have q118 : x5_1 < (l1.length : Int) := of_decide_eq_true (by first | (with_reducible assumption) | assumption)
                obtain ⟨ad118, e118, hx118_0⟩ := Kd.at_int HR1.out x5_1 p118 q118
                obtain rfl : ad117 = ad118 := (by injection e118)
                replace p118 := eq_true p118
                replace q118 := eq_true q118
                go_wp2
                go_roundg k1
                case measure => have := HK1.out; omega
                case rel => exact ⟨(wrap64 (x5_1 + 1)), (by first | rfl | (simp; done) | (simp [*]; done)), H', ⟨by have := HK1.out; omega⟩, by repeat (first | exact Drawn0.refl _ | apply Drawn0.step)⟩
          · rw [if_neg c5] at H
            exact absurd H (by simp)
        · rw [if_neg c4] at H
          have c4b0 : decide (x5_1 < (l1.length : Int)) = false := decide_eq_false c4
          clear c4
          have H' := Aside0.mk H
          clear H
          go_wp2
          go_loopg [6, 7] k1 (fun kq v6 v7 w' => ∃ (x6_2 : Int) (x7_2 : Int), v6 = .int .i64 x6_2 ∧ v7 = .int .i64 x7_2 ∧ Aside0 (ropewalkref02_Check.l1 kq l0 l1 x6_2 x7_2 = some r) ∧ Aside0 (kq ≤ k1) ∧ Drawn0 w w')
          case atStart => exact ⟨(1), (0), (by first | rfl | (simp; done) | (simp [*]; done)), (by first | rfl | (simp; done) | (simp [*]; done)), H', ⟨Nat.le_refl _⟩, by repeat (first | exact Drawn0.refl _ | apply Drawn0.step)⟩
          case round =>
            clear H'
            try clear c1
            try clear p1
            try clear q1
            try clear hx1
            try clear c2
            try clear p2
            try clear c3
            try clear c3b0
            try clear c3b1
            try clear c4
            try clear c4b0
            try clear c5
            try clear c5b0
            try clear c6
            try clear c6b0
            try clear p6
            try clear c7
            try clear c7b0
            try clear hx117_0
            try clear hx118_0
            try clear p117
            try clear p118
            try clear p2
            try clear q117
            try clear q118
            obtain ⟨x6_2, x7_2, rfl, rfl, HA, HK2, ⟨m2, rfl⟩⟩ := hrel
            cases gk with
            | zero => exact absurd HA.out (by simp [ropewalkref02_Check.l1])
            | succ k2 =>
              have H := HA.out
              clear HA
              simp only [ropewalkref02_Check.l1] at H
              by_cases c8 : x7_2 < (l1.length : Int)
              · rw [if_pos c8] at H
                have c8b0 : decide (x7_2 < (l1.length : Int)) = true := decide_eq_true c8
                clear c8
                by_cases c9 : x6_2 = 0
                · rw [if_pos c9] at H
                  have c9b0 : (x6_2 == 0) = true := beq_iff_eq.mpr c9
                  have c9b1 : (x6_2 != 0) = false := bne_eq_false_iff_eq.mpr c9
                  clear c9
                  obtain rfl := Option.some.inj H
                  go_wp2
                  go_ret
                  exact ⟨by first | rfl | (simp; done) | (simp [*]; done), by repeat (first | exact Drawn0.refl _ | apply Drawn0.step)⟩
                · rw [if_neg c9] at H
                  have c9b0 : (x6_2 == 0) = false := beq_eq_false_iff_ne.mpr c9
                  have c9b1 : (x6_2 != 0) = true := bne_iff_ne.mpr c9
                  by_cases c10 : 0 ≤ x7_2
                  · rw [if_pos c10] at H
                    have c10b0 : decide (0 ≤ x7_2) = true := decide_eq_true c10
                    clear c10
                    replace H := Option.bind_eq_some_iff.mp H
                    obtain ⟨t120, A110, H⟩ := H
                    replace H : (ropewalkref02_Check.l1 k2 l0 l1 (wrap64 ((wrap64 (x6_2 - 1)) + t120)) (wrap64 (x7_2 + 1))) = some r := H
                    have A11 := Aside0.mk A110
                    clear A110
                    have H' := Aside0.mk H
                    clear H
                    have p119 : 0 ≤ (x7_2 : Int) := of_decide_eq_true (by first | (with_reducible assumption) | assumption)
                    have q119 : x7_2 < (l1.length : Int) := of_decide_eq_true (by first | (with_reducible assumption) | assumption)
                    obtain ⟨ad119, e119, hx119_0⟩ := Kd.at_int HR1.out x7_2 p119 q119
                    cases e119
                    replace p119 := eq_true p119
                    replace q119 := eq_true q119
                    go_wp2_with (first | ((with_reducible refine gate_callee (f := 75) rfl ?_); refine goesL_ (some 44) rfl rfl Try.func75 (by kernel_rfl) rfl #[.slice A0 l0.length c0, .int .i64 (rd l1 x7_2)] rfl (by (try simp only [List.map_toArray, List.map_cons, List.map_nil]); first | done | rfl | (simp only [List.length_drop, List.length_take]; rfl)) ?_; (with_reducible refine (ropewalkref02_arity.calls _ _ l0 (rd l1 x7_2) t120 _ ?side1 ?side2 A11.out).mono ?_); (case side1 => repeat (first | exact HR0.out | (with_reducible refine Kd.C_alloc ?_ _) | (with_reducible refine Kd.C_drewN ?_ _) | (with_reducible refine Kd.C_drew ?_))); (case side2 => exact HC0.out); rintro e w' ⟨rfl, ⟨nd, rfl⟩⟩; refine ⟨_, rfl, ?_⟩))
                    go_roundg k2
                    case measure => have := HK1.out; have := HK2.out; omega
                    case rel => exact ⟨(wrap64 ((wrap64 (x6_2 - 1)) + t120)), (wrap64 (x7_2 + 1)), (by first | rfl | (simp; done) | (simp [*]; done)), (by first | rfl | (simp; done) | (simp [*]; done)), H', ⟨by have := HK1.out; have := HK2.out; omega⟩, by repeat (first | exact Drawn0.refl _ | apply Drawn0.step)⟩
                  · rw [if_neg c10] at H
                    exact absurd H (by simp)
              · rw [if_neg c8] at H
                have c8b0 : decide (x7_2 < (l1.length : Int)) = false := decide_eq_false c8
                clear c8
                by_cases c12 : x6_2 = 0
                · rw [if_pos c12] at H
                  have c12b0 : (x6_2 == 0) = true := beq_iff_eq.mpr c12
                  have c12b1 : (x6_2 != 0) = false := bne_eq_false_iff_eq.mpr c12
                  clear c12
                  obtain rfl := Option.some.inj H
                  go_wp2
                  go_ret
                  exact ⟨by first | rfl | (simp; done) | (simp [*]; done), by repeat (first | exact Drawn0.refl _ | apply Drawn0.step)⟩
                · rw [if_neg c12] at H
                  have c12b0 : (x6_2 == 0) = false := beq_eq_false_iff_ne.mpr c12
                  have c12b1 : (x6_2 != 0) = true := bne_iff_ne.mpr c12
                  obtain rfl := Option.some.inj H
                  go_wp2
                  go_ret
                  exact ⟨by first | rfl | (simp; done) | (simp [*]; done), by repeat (first | exact Drawn0.refl _ | apply Drawn0.step)⟩
end Go.Proofs.Ytadjoaipmcbieaa.A

/-! GC -/
namespace Go.Proofs.Ytadjoaipmcbieaa.A
open Go.RowKit Go.Proofs.YtadjoaipmcbieaaW.PrintWords Go.Proofs.YtadjoaipmcbieaaW.PrintLast Go.Proofs.YtadjoaipmcbieaaW.PrintMore
attribute [local go_sem] max2_int min2_int max_two min_two max_three min_three max_four min_four   -- for this text's walks alone
set_option linter.unusedVariables false
set_option linter.unusedSimpArgs false
def ropewalkref02_End.l0 : Nat → List (S89) → List Int → Int → Int → Option (Int)
  | 0, _, _, _, _ => none
  | k + 1, x0, x1, x7, x8 => if x8 < (x1.length : Int) then (if x7 > 0 then (if 0 ≤ x8 then ((ropewalkref02_arity.f x0 (rd x1 x8)).bind fun t123 => (ropewalkref02_End.l0 k x0 x1 (wrap64 ((wrap64 (x7 - 1)) + t123)) (wrap64 (x8 + 1)))) else (none)) else (some x8)) else (some x8)
def ropewalkref02_End.f (k : Nat) (l0 : List (S89)) (l1 : List Int) (a2 : Int) : Option (Int) := ropewalkref02_End.l0 k l0 l1 1 a2
set_option maxHeartbeats 8000000 in
set_option maxRecDepth 100000 in
theorem ropewalkref02_End.calls (k : Nat) (A0 : Option Addr) (c0 : Nat) (l0 : List (S89)) (A1 : Option Addr) (c1 : Nat) (l1 : List Int) (a2 : Int) (r : Int) (w : World) (hr0 : Kd.C k89 w A0 l0.length l0) (hc0 : l0.length ≤ c0) (hr1 : Kd.C (Kd.int .i64) w A1 l1.length l1) (hc1 : l1.length ≤ c1) (h : ropewalkref02_End.f k l0 l1 a2 = some r) :
    Calls Try.prog 44 #[.slice A0 l0.length c0, .slice A1 l1.length c1, .int .i64 a2] w fun e w' => e = .returned (.int .i64 r) ∧ Drawn0 w w' := by
  have HR0 := Aside0.mk hr0
  have HC0 := Aside0.mk hc0
  clear hr0 hc0
  have HR1 := Aside0.mk hr1
  have HC1 := Aside0.mk hc1
  clear hr1 hc1
  have H : (ropewalkref02_End.l0 k l0 l1 1 a2) = some r := h
  clear h
  have H' := Aside0.mk H
  clear H
  go_enter Try.func44, Try.ntmps44
  go_wp2
  go_loopg [7, 8] k (fun kq v7 v8 w' => ∃ (x7_1 : Int) (x8_1 : Int), v7 = .int .i64 x7_1 ∧ v8 = .int .i64 x8_1 ∧ Aside0 (ropewalkref02_End.l0 kq l0 l1 x7_1 x8_1 = some r) ∧ Aside0 (kq ≤ k) ∧ Drawn0 w w')
  case atStart => exact ⟨(1), (a2), (by first | rfl | (simp; done) | (simp [*]; done)), (by first | rfl | (simp; done) | (simp [*]; done)), H', ⟨Nat.le_refl _⟩, by repeat (first | exact Drawn0.refl _ | apply Drawn0.step)⟩
  case round =>
    clear H'
    try clear c1
    try clear p2
    obtain ⟨x7_1, x8_1, rfl, rfl, HA, HK1, ⟨m1, rfl⟩⟩ := hrel
    cases gk with
    | zero => exact absurd HA.out (by simp [ropewalkref02_End.l0])
    | succ k1 =>
      have H := HA.out
      clear HA
      simp only [ropewalkref02_End.l0] at H
      by_cases c4 : x8_1 < (l1.length : Int)
      · rw [if_pos c4] at H
        have c4b0 : decide (x8_1 < (l1.length : Int)) = true := decide_eq_true c4
        clear c4
        by_cases c5 : x7_1 > 0
        · rw [if_pos c5] at H
          have c5b0 : decide (0 < x7_1) = true := decide_eq_true c5
          clear c5
          by_cases c6 : 0 ≤ x8_1
          · rw [if_pos c6] at H
            have c6b0 : decide (0 ≤ x8_1) = true := decide_eq_true c6
            clear c6
            replace H := Option.bind_eq_some_iff.mp H
            obtain ⟨t123, A70, H⟩ := H
            replace H : (ropewalkref02_End.l0 k1 l0 l1 (wrap64 ((wrap64 (x7_1 - 1)) + t123)) (wrap64 (x8_1 + 1))) = some r := H
            have A7 := Aside0.mk A70
            clear A70
            have H' := Aside0.mk H
            clear H
            have p122 : 0 ≤ (x8_1 : Int) := of_decide_eq_true (by first | (with_reducible assumption) | assumption)
            have q122 : x8_1 < (l1.length : Int) := of_decide_eq_true (by first | (with_reducible assumption) | assumption)
            obtain ⟨ad122, e122, hx122_0⟩ := Kd.at_int HR1.out x8_1 p122 q122
            cases e122
            replace p122 := eq_true p122
            replace q122 := eq_true q122
            go_wp2_with (first | ((with_reducible refine gate_callee (f := 75) rfl ?_); refine goesL_ (some 25) rfl rfl Try.func75 (by kernel_rfl) rfl #[.slice A0 l0.length c0, .int .i64 (rd l1 x8_1)] rfl (by (try simp only [List.map_toArray, List.map_cons, List.map_nil]); first | done | rfl | (simp only [List.length_drop, List.length_take]; rfl)) ?_; (with_reducible refine (ropewalkref02_arity.calls _ _ l0 (rd l1 x8_1) t123 _ ?side1 ?side2 A7.out).mono ?_); (case side1 => repeat (first | exact HR0.out | (with_reducible refine Kd.C_alloc ?_ _) | (with_reducible refine Kd.C_drewN ?_ _) | (with_reducible refine Kd.C_drew ?_))); (case side2 => exact HC0.out); rintro e w' ⟨rfl, ⟨nd, rfl⟩⟩; refine ⟨_, rfl, ?_⟩))
            go_roundg k1
            case measure => have := HK1.out; omega
            case rel => exact ⟨(wrap64 ((wrap64 (x7_1 - 1)) + t123)), (wrap64 (x8_1 + 1)), (by first | rfl | (simp; done) | (simp [*]; done)), (by first | rfl | (simp; done) | (simp [*]; done)), H', ⟨by have := HK1.out; omega⟩, by repeat (first | exact Drawn0.refl _ | apply Drawn0.step)⟩
          · rw [if_neg c6] at H
            exact absurd H (by simp)
        · rw [if_neg c5] at H
          have c5b0 : decide (0 < x7_1) = false := decide_eq_false c5
          clear c5
          obtain rfl := Option.some.inj H
          go_wp2
          go_ret
          exact ⟨by first | rfl | (simp; done) | (simp [*]; done), by repeat (first | exact Drawn0.refl _ | apply Drawn0.step)⟩
      · rw [if_neg c4] at H
        have c4b0 : decide (x8_1 < (l1.length : Int)) = false := decide_eq_false c4
        clear c4
        obtain rfl := Option.some.inj H
        go_wp2
        go_ret
        exact ⟨by first | rfl | (simp; done) | (simp [*]; done), by repeat (first | exact Drawn0.refl _ | apply Drawn0.step)⟩
mutual
def ropewalkref02_Args.j0 : Nat → List (S89) → List Int → Int → List Int → Bool → Option (List Int)
  | 0, _, _, _, _, _ => none
  | k + 1, x0, x1, x2, x7, x17 => if x17 = true then (some x7) else (ropewalkref02_Args.l0 k x0 x1 x2 x7 (wrap64 (x2 + 1)) 0)
def ropewalkref02_Args.l0 : Nat → List (S89) → List Int → Int → List Int → Int → Int → Option (List Int)
  | 0, _, _, _, _, _, _ => none
  | k + 1, x0, x1, x2, x7, x8, x9 => if 0 ≤ x2 then (if x2 < (x1.length : Int) then ((ropewalkref02_arity.f x0 (rd x1 x2)).bind fun t157 => (if x9 < t157 then (if x7.length < 17592186044416 then ((ropewalkref02_End.f k x0 x1 x8).bind fun t161 => (ropewalkref02_Args.l0 k x0 x1 x2 (x7 ++ [x8]) t161 (wrap64 (x9 + 1)))) else (none)) else (some x7))) else (none)) else (none)
end
def ropewalkref02_Args.f (k : Nat) (l0 : List (S89)) (l1 : List Int) (a2 : Int) : Option (List Int) := if a2 < 0 then (ropewalkref02_Args.j0 k l0 l1 a2 ([] : List Int) true) else (ropewalkref02_Args.j0 k l0 l1 a2 ([] : List Int) (decide (a2 ≥ (l1.length : Int))))
set_option maxHeartbeats 8000000 in
set_option maxRecDepth 100000 in
theorem ropewalkref02_Args.calls (k : Nat) (A0 : Option Addr) (c0 : Nat) (l0 : List (S89)) (A1 : Option Addr) (c1 : Nat) (l1 : List Int) (a2 : Int) (r : List Int) (w : World) (hr0 : Kd.C k89 w A0 l0.length l0) (hc0 : l0.length ≤ c0) (hr1 : Kd.C (Kd.int .i64) w A1 l1.length l1) (hc1 : l1.length ≤ c1) (h : ropewalkref02_Args.f k l0 l1 a2 = some r) :
    Calls Try.prog 45 #[.slice A0 l0.length c0, .slice A1 l1.length c1, .int .i64 a2] w fun e w' => ∃ v0_ : Value, e = .returned (v0_) ∧ Kd.R (Kd.int .i64) 3 w' w.heap.size (fun _ => True) v0_ r ∧ Below w.heap.size w w' := by
  have HR0 := Aside0.mk hr0
  have HC0 := Aside0.mk hc0
  clear hr0 hc0
  have HR1 := Aside0.mk hr1
  have HC1 := Aside0.mk hc1
  clear hr1 hc1
  have HB := Aside0.mk (Below.refl w.heap.size w)
  have H : (if a2 < 0 then (ropewalkref02_Args.j0 k l0 l1 a2 ([] : List Int) true) else (ropewalkref02_Args.j0 k l0 l1 a2 ([] : List Int) (decide (a2 ≥ (l1.length : Int))))) = some r := h
  clear h
  have HC4 := Aside0.mk H
  clear H
  go_enter Try.func45, Try.ntmps45
  go_upto_region 2 with (fail)
  go_cut [17] (fun v17 wc => ∃ (kq : Nat) (x17_3 : Bool), v17 = .bool x17_3 ∧ Aside0 (ropewalkref02_Args.j0 kq l0 l1 a2 ([] : List Int) x17_3 = some r) ∧ Aside0 (kq ≤ k) ∧ Aside0 (Kd.R (Kd.int .i64) 3 wc w.heap.size (fun _ => True) (.slice none 0 0) ([] : List Int)) ∧ Aside0 (Below w.heap.size w wc))
  case first =>
    have H := HC4.out
    clear HC4
    by_cases c5 : a2 < 0
    · rw [if_pos c5] at H
      have c5b0 : decide (a2 < 0) = true := decide_eq_true c5
      clear c5
      (first | rw [c5b0] | (simp only [i64_w, i32_w]; rw [c5b0]) | skip)
      have H' := Aside0.mk H
      clear H
      go_wp2
      go_meet
      case rel => exact ⟨_, (true), (by first | rfl | (simp; done) | (simp [*]; done)), H', ⟨by first | omega | exact Nat.le_refl _⟩, ⟨by first | exact Kd.R_nil _ _ _ _ _ | exact Kd.N_nil _ _ _ _ _ | exact Kd.V_nil _ _ _ _ _ | exact Kd.Q_nil _ _ _ _ _ | exact Kd.S_nil _ _ _ _ _⟩, ⟨by repeat (first | (with_reducible first | exact HB.out | apply below_alloc | apply pw_below_drewN | apply below_drew1) | exact HB.out)⟩⟩
    · rw [if_neg c5] at H
      have c5b0 : decide (a2 < 0) = false := decide_eq_false c5
      clear c5
      (first | rw [c5b0] | (simp only [i64_w, i32_w]; rw [c5b0]) | skip)
      have H' := Aside0.mk H
      clear H
      go_wp2
      go_meet
      case rel => exact ⟨_, (decide (a2 ≥ (l1.length : Int))), (by first | rfl | (simp; done) | (simp [*]; done)), H', ⟨by first | omega | exact Nat.le_refl _⟩, ⟨by first | exact Kd.R_nil _ _ _ _ _ | exact Kd.N_nil _ _ _ _ _ | exact Kd.V_nil _ _ _ _ _ | exact Kd.Q_nil _ _ _ _ _ | exact Kd.S_nil _ _ _ _ _⟩, ⟨by repeat (first | (with_reducible first | exact HB.out | apply below_alloc | apply pw_below_drewN | apply below_drew1) | exact HB.out)⟩⟩
  case rest =>
    clear HC4
    try clear c1
    try clear p2
    try clear c4
    try clear c5
    try clear c5b0
    obtain ⟨kq, x17_3, rfl, HA, HJ3, HO_7, HB⟩ := hcut
    cases kq with
    | zero => exact absurd HA.out (by simp [ropewalkref02_Args.j0])
    | succ kj3 =>
      have H := HA.out
      clear HA
      simp only [ropewalkref02_Args.j0] at H
      by_cases c6 : x17_3 = true
      · subst c6
        have H1 : (some ([] : List Int)) = some r := by rw [if_pos rfl] at H; exact H
        clear H
        have H := H1
        clear H1
        obtain rfl := Option.some.inj H
        go_wp2
        go_ret
        exact ⟨_, by first | rfl | (simp [errW_none, errW_some] <;> rfl) | (simp [*, errW_none, errW_some] <;> rfl), by (with_reducible repeat (first | apply Kd.R_alloc | apply Kd.R_drewN | apply Kd.R_drew)); exact HO_7.out, by repeat (first | (with_reducible first | exact HB.out | apply below_alloc | apply pw_below_drewN | apply below_drew1) | exact HB.out)⟩
      · replace c6 := Bool.eq_false_iff.mpr c6
        subst c6
        have H1 : (ropewalkref02_Args.l0 kj3 l0 l1 a2 ([] : List Int) (wrap64 (a2 + 1)) 0) = some r := by rw [if_neg (show ¬ (false = true) by decide)] at H; exact H
        clear H
        have H := H1
        clear H1
        have H' := Aside0.mk H
        clear H
        go_wp2
        go_loopg [7, 8, 9] kj3 (fun kq v7 v8 v9 w' => ∃ (x7_2 : List Int) (x8_2 : Int) (x9_2 : Int), v8 = .int .i64 x8_2 ∧ v9 = .int .i64 x9_2 ∧ Aside0 (ropewalkref02_Args.l0 kq l0 l1 a2 x7_2 x8_2 x9_2 = some r) ∧ Aside0 (kq ≤ kj3) ∧ Aside0 (Kd.R (Kd.int .i64) 3 w' w.heap.size (fun _ => True) v7 x7_2) ∧ Aside0 (Below w.heap.size w w'))
        case atStart => exact ⟨(([] : List Int)), (wrap64 (a2 + 1)), (0), (by first | rfl | (simp; done) | (simp [*]; done)), (by first | rfl | (simp; done) | (simp [*]; done)), H', ⟨Nat.le_refl _⟩, ⟨by (with_reducible repeat (first | apply Kd.R_alloc | apply Kd.R_drewN | apply Kd.R_drew)); exact HO_7.out⟩, ⟨by repeat (first | (with_reducible first | exact HB.out | apply below_alloc | apply pw_below_drewN | apply below_drew1) | exact HB.out)⟩⟩
        case round =>
          clear H'
          try clear c1
          try clear p2
          try clear c4
          try clear c5
          try clear c5b0
          try clear c6
          try clear p6
          try clear p2
          obtain ⟨x7_2, x8_2, x9_2, rfl, rfl, HA, HK2, HO_7, HB⟩ := hrel
          cases gk with
          | zero => exact absurd HA.out (by simp [ropewalkref02_Args.l0])
          | succ k2 =>
            have H := HA.out
            clear HA
            simp only [ropewalkref02_Args.l0] at H
            by_cases c7 : 0 ≤ a2
            · rw [if_pos c7] at H
              have c7b0 : decide (0 ≤ a2) = true := decide_eq_true c7
              clear c7
              by_cases c8 : a2 < (l1.length : Int)
              · rw [if_pos c8] at H
                have c8b0 : decide (a2 < (l1.length : Int)) = true := decide_eq_true c8
                clear c8
                replace H := Option.bind_eq_some_iff.mp H
                obtain ⟨t157, A90, H⟩ := H
                replace H : (if x9_2 < t157 then (if x7_2.length < 17592186044416 then ((ropewalkref02_End.f k2 l0 l1 x8_2).bind fun t161 => (ropewalkref02_Args.l0 k2 l0 l1 a2 (x7_2 ++ [x8_2]) t161 (wrap64 (x9_2 + 1)))) else (none)) else (some x7_2)) = some r := H
                have A9 := Aside0.mk A90
                clear A90
                by_cases c10 : x9_2 < t157
                · rw [if_pos c10] at H
                  have c10b0 : decide (x9_2 < t157) = true := decide_eq_true c10
                  clear c10
                  by_cases c11 : x7_2.length < 17592186044416
                  · rw [if_pos c11] at H
                    have LMc11 := Aside0.mk c11
                    clear c11
                    obtain ⟨y158, hy158⟩ : ∃ y_ : List Int, y_ = (x7_2 ++ [x8_2]) := ⟨_, rfl⟩
                    replace H : ((ropewalkref02_End.f k2 l0 l1 x8_2).bind fun t161 => (ropewalkref02_Args.l0 k2 l0 l1 a2 y158 t161 (wrap64 (x9_2 + 1)))) = some r := by first | (rw [hy158]; with_reducible exact H) | (have H2_ := (Option.bind_some _ _).symm.trans H; rw [hy158]; with_reducible exact H2_) | (have H2_ := (Option.bind_some _ _).symm.trans H; with_reducible exact H2_) | with_reducible exact H | (rw [hy158]; exact H) | exact H
                    have Ny158 := Aside0.mk hy158
                    clear hy158
                    replace H := Option.bind_eq_some_iff.mp H
                    obtain ⟨t161, A120, H⟩ := H
                    replace H : (ropewalkref02_Args.l0 k2 l0 l1 a2 y158 t161 (wrap64 (x9_2 + 1))) = some r := H
                    have A12 := Aside0.mk A120
                    clear A120
                    have H' := Aside0.mk H
                    clear H
                    have p156 : 0 ≤ (a2 : Int) := of_decide_eq_true (by first | (with_reducible assumption) | assumption)
                    have q156 : a2 < (l1.length : Int) := of_decide_eq_true (by first | (with_reducible assumption) | assumption)
                    obtain ⟨ad156, e156, hx156_0⟩ := Kd.at_int HR1.out a2 p156 q156
                    cases e156
                    replace hx156_0 := (HB.out.cell (World.block_lt_of_cell? w _ hx156_0)).trans hx156_0
                    replace p156 := eq_true p156
                    replace q156 := eq_true q156
                    go_wp2_with (first | ((with_reducible refine gate_callee (f := 75) rfl ?_); refine goesL_ (some 27) rfl rfl Try.func75 (by kernel_rfl) rfl #[.slice A0 l0.length c0, .int .i64 (rd l1 a2)] rfl (by (try simp only [List.map_toArray, List.map_cons, List.map_nil]); first | done | rfl | (simp only [List.length_drop, List.length_take]; rfl)) ?_; (with_reducible refine (ropewalkref02_arity.calls _ _ l0 (rd l1 a2) t157 _ ?side1 ?side2 A9.out).mono ?_); (case side1 => repeat (first | exact (Kd.C_below HR0.out HB.out) | (with_reducible refine Kd.C_alloc ?_ _) | (with_reducible refine Kd.C_drewN ?_ _) | (with_reducible refine Kd.C_drew ?_))); (case side2 => exact HC0.out); rintro e w' ⟨rfl, ⟨nd, rfl⟩⟩; refine ⟨_, rfl, ?_⟩) | ((with_reducible refine gate_builtin (b := .append) (xs := #[.tmp 31, .tmp 33]) rfl ?_); (try (refine gate_guard (by rfl) ?_; dsimp only)); at_builtin; refine Kd.R_append (Kd.int .i64) (w0 := w) w.heap.size rfl (.tmp 31) (.tmp 33) 24 3 (.int .i64 0) 8 rfl Try.underlying24 info3 rfl (by decide) (by omega) u7 x7_2 x8_2 [.int .i64 x8_2] (fun _ => True) (fun _ => False) rfl rfl ?aP (fun _ hk => hk.elim) ?aF ?aO ?aB ?aS ?aL ?_; (case aP => exact rfl); (case aB => exact (by repeat (first | (with_reducible first | exact HB.out | apply below_alloc | apply pw_below_drewN | apply below_drew1) | exact HB.out))); (case aF => exact (fun _ _ => trivial)); (case aO => exact (by (with_reducible repeat (first | apply Kd.R_alloc | apply Kd.R_drewN | apply Kd.R_drew)); exact HO_7.out)); (case aS => exact (below_size (by repeat (first | (with_reducible first | exact HB.out | apply below_alloc | apply pw_below_drewN | apply below_drew1) | exact HB.out)))); (case aL => have := LMc11.out; omega); intro v159 w13 ho hb hg hat; rw [← Ny158.out] at ho; have n0_ := Aside0.mk (hb); have n1_ := Aside0.mk (ho); clear HB; clear HO_7; have HB := n0_; have HO160 := n1_; clear n0_ n1_; clear ho hb hg hat) | ((with_reducible refine gate_callee (f := 44) rfl ?_); refine goesL_ (some 38) rfl rfl Try.func44 (by kernel_rfl) rfl #[.slice A0 l0.length c0, .slice (some ad156) l1.length c1, .int .i64 x8_2] rfl (by (try simp only [List.map_toArray, List.map_cons, List.map_nil]); first | done | rfl | (simp only [List.length_drop, List.length_take]; rfl)) ?_; (with_reducible refine (ropewalkref02_End.calls k2 _ _ l0 _ _ l1 x8_2 t161 _ ?side1 ?side2 ?side3 ?side4 A12.out).mono ?_); (case side1 => repeat (first | exact (Kd.C_below HR0.out HB.out) | (with_reducible refine Kd.C_alloc ?_ _) | (with_reducible refine Kd.C_drewN ?_ _) | (with_reducible refine Kd.C_drew ?_))); (case side2 => exact HC0.out); (case side3 => repeat (first | exact (Kd.C_below HR1.out HB.out) | (with_reducible refine Kd.C_alloc ?_ _) | (with_reducible refine Kd.C_drewN ?_ _) | (with_reducible refine Kd.C_drew ?_))); (case side4 => exact HC1.out); rintro e w' ⟨rfl, ⟨nd, rfl⟩⟩; refine ⟨_, rfl, ?_⟩))
                    go_roundg k2
                    case measure => have := HJ3.out; have := HK2.out; omega
                    case rel => exact ⟨(y158), (t161), (wrap64 (x9_2 + 1)), (by first | rfl | (simp; done) | (simp [*]; done)), (by first | rfl | (simp; done) | (simp [*]; done)), H', ⟨by have := HJ3.out; have := HK2.out; omega⟩, ⟨by (with_reducible repeat (first | apply Kd.R_alloc | apply Kd.R_drewN | apply Kd.R_drew)); exact HO160.out⟩, ⟨by repeat (first | (with_reducible first | exact HB.out | apply below_alloc | apply pw_below_drewN | apply below_drew1) | exact HB.out)⟩⟩
                  · rw [if_neg c11] at H
                    exact absurd H (by simp)
                · rw [if_neg c10] at H
                  have c10b0 : decide (x9_2 < t157) = false := decide_eq_false c10
                  clear c10
                  obtain rfl := Option.some.inj H
                  have p156 : 0 ≤ (a2 : Int) := of_decide_eq_true (by first | (with_reducible assumption) | assumption)
                  have q156 : a2 < (l1.length : Int) := of_decide_eq_true (by first | (with_reducible assumption) | assumption)
                  obtain ⟨ad156, e156, hx156_0⟩ := Kd.at_int HR1.out a2 p156 q156
                  cases e156
                  replace hx156_0 := (HB.out.cell (World.block_lt_of_cell? w _ hx156_0)).trans hx156_0
                  replace p156 := eq_true p156
                  replace q156 := eq_true q156
                  go_wp2_with (first | ((with_reducible refine gate_callee (f := 75) rfl ?_); refine goesL_ (some 27) rfl rfl Try.func75 (by kernel_rfl) rfl #[.slice A0 l0.length c0, .int .i64 (rd l1 a2)] rfl (by (try simp only [List.map_toArray, List.map_cons, List.map_nil]); first | done | rfl | (simp only [List.length_drop, List.length_take]; rfl)) ?_; (with_reducible refine (ropewalkref02_arity.calls _ _ l0 (rd l1 a2) t157 _ ?side1 ?side2 A9.out).mono ?_); (case side1 => repeat (first | exact (Kd.C_below HR0.out HB.out) | (with_reducible refine Kd.C_alloc ?_ _) | (with_reducible refine Kd.C_drewN ?_ _) | (with_reducible refine Kd.C_drew ?_))); (case side2 => exact HC0.out); rintro e w' ⟨rfl, ⟨nd, rfl⟩⟩; refine ⟨_, rfl, ?_⟩))
                  go_ret
                  exact ⟨_, by first | rfl | (simp [errW_none, errW_some] <;> rfl) | (simp [*, errW_none, errW_some] <;> rfl), by (with_reducible repeat (first | apply Kd.R_alloc | apply Kd.R_drewN | apply Kd.R_drew)); exact HO_7.out, by repeat (first | (with_reducible first | exact HB.out | apply below_alloc | apply pw_below_drewN | apply below_drew1) | exact HB.out)⟩
              · rw [if_neg c8] at H
                exact absurd H (by simp)
            · rw [if_neg c7] at H
              exact absurd H (by simp)
end Go.Proofs.Ytadjoaipmcbieaa.A

/-! Q0 -/
namespace Go.Proofs.Ytadjoaipmcbieaa
open Go.RowKit Go.Proofs.YtadjoaipmcbieaaW.PrintWords Go.Proofs.YtadjoaipmcbieaaW.PrintLast Go.Proofs.YtadjoaipmcbieaaW.PrintMore A
theorem wrap_id {x : Int} (h1 : -9223372036854775808 ≤ x) (h2 : x ≤ 9223372036854775807) : wrap64 x = x := by unfold wrap64; omega
theorem rarity {l : List S89} (h : GoodL l) (n : Int) : ropewalkref02_arity.f l n = some (ar l n) := by
  have hb := ar_bd h n
  unfold ropewalkref02_arity.f ropewalkref01_Arity.f
  by_cases h0 : n < 0
  · rw [if_pos h0, ar_neg h0]; rfl
  · rw [if_neg h0]
    by_cases h1 : n ≥ (l.length : Int)
    · rw [if_pos h1, ar_out h1]; rfl
    · rw [if_neg h1, if_pos (by omega), if_pos (by omega)]
      have e : ar l n = (rd_T89 l n).f1 := by unfold ar; rw [if_neg h0]
      rw [e] at hb ⊢
      show (if (rd_T89 l n).f1 < 0 then some (0 : Int) else some (rd_T89 l n).f1) = _
      rw [if_neg (by omega)]
theorem rcheck_l1 {l : List S89} (hl : GoodL l) {t : List Int} (ht : t.length ≤ 2000) : ∀ (n p k : Nat) (o : Int), p + n = t.length → n < k → 0 ≤ o → o ≤ 6 * p + 1 →
    ropewalkref02_Check.l1 k l t o p = some (if fin (ar l) (t.drop p) o p = t.length then 0 else 23)
  | 0, p, k + 1, o, h, _, h0, h1 => by
    simp only [ropewalkref02_Check.l1]
    rw [if_neg (by omega), List.drop_eq_nil_of_le (by omega)]
    by_cases ho : o = 0
    · subst ho; simp [fin, show (p : Int) = t.length by omega]
    · rw [if_neg ho, show fin (ar l) [] o p = p + 1 from if_pos (show 0 < o by omega), if_neg (by omega)]
  | n + 1, p, k + 1, o, h, hk, h0, h1 => by
    simp only [ropewalkref02_Check.l1]
    rw [if_pos (by omega)]
    by_cases ho : o = 0
    · subst ho
      rw [if_pos rfl, fin_stop (by omega), if_neg (by omega)]
    · rw [if_neg ho, if_pos (by omega), rarity hl, Option.bind_some, fin_step (by omega) (by omega)]
      have hb := ar_bd hl (rd t p)
      rw [wrap_id (by unfold wrap64; omega) (by unfold wrap64; omega), wrap_id (by omega) (by omega), wrap_id (by omega) (by omega), show (p : Int) + 1 = ((p + 1 : Nat) : Int) by omega,
        rcheck_l1 hl ht n (p + 1) k (o - 1 + ar l (rd t p)) (by omega) (by omega) (by omega) (by omega), show o - 1 + ar l (rd t p) = o + (ar l (rd t p) - 1) by omega]
theorem rcheck_l0 {l : List S89} (hl : GoodL l) {t : List Int} (ht : t.length ≤ 2000) : ∀ (n p k : Nat), p + n = t.length → n + t.length + 1 < k →
    ropewalkref02_Check.l0 k l t p = some (bads l.length (t.drop p) (shape l t))
  | 0, p, k + 1, h, hk => by
    simp only [ropewalkref02_Check.l0]
    rw [if_neg (by omega), bads_end (by omega)]
    have := rcheck_l1 hl ht t.length 0 k 1 (by omega) (by omega) (by omega) (by omega)
    rw [List.drop_zero] at this
    rw [show ((0 : Nat) : Int) = 0 from rfl] at this
    rw [this]
    unfold shape
    by_cases h0 : t.length = 0
    · rw [if_pos h0, if_neg]
      rw [List.eq_nil_of_length_eq_zero h0]; simp [fin]
    · rw [if_neg h0]
  | n + 1, p, k + 1, h, hk => by
    simp only [ropewalkref02_Check.l0]
    rw [if_pos (by omega), if_pos (by omega), bads_step (by omega)]
    by_cases h1 : rd t p ≥ (l.length : Int)
    · rw [if_pos h1, badN_sym h1, if_neg (by omega)]
    · rw [if_neg h1]
      by_cases h2 : rd t p < -99
      · rw [if_pos h2, badN_var (by omega) h2, if_neg (by omega)]
      · rw [if_neg h2, badN_ok (by omega) h2, if_pos rfl, wrap_id (by omega) (by omega), show (p : Int) + 1 = ((p + 1 : Nat) : Int) by omega]
        exact rcheck_l0 hl ht n (p + 1) k (by omega) (by omega)
theorem rcheck {l : List S89} (hl : GoodL l) (t : List Int) {k : Nat} (hk : 2 * t.length + 1 < k) : ropewalkref02_Check.f k l t = some (chk l t) := by
  unfold ropewalkref02_Check.f chk
  by_cases h : 2000 < t.length
  · rw [if_pos (by omega), if_pos h]
  · rw [if_neg (by omega), if_neg h]
    exact rcheck_l0 hl (by omega) t.length 0 k (by omega) (by omega)
theorem rend_l0 {l : List S89} (hl : GoodL l) {t : List Int} (ht : t.length ≤ 2000) : ∀ (n p k : Nat) (o : Int), p + n = t.length → n < k → 0 ≤ o → o ≤ 6 * p + 1 →
    ropewalkref02_End.l0 k l t o p = some (min (fin (ar l) (t.drop p) o p) t.length)
  | 0, p, k + 1, o, h, _, h0, h1 => by
    simp only [ropewalkref02_End.l0]
    rw [if_neg (by omega), List.drop_eq_nil_of_le (by omega)]
    simp only [fin]
    split <;> (congr 1; omega)
  | n + 1, p, k + 1, o, h, hk, h0, h1 => by
    simp only [ropewalkref02_End.l0]
    rw [if_pos (by omega)]
    by_cases ho : o > 0
    · rw [if_pos ho, if_pos (by omega), rarity hl, Option.bind_some, fin_step (by omega) (by omega)]
      have hb := ar_bd hl (rd t p)
      rw [wrap_id (by unfold wrap64; omega) (by unfold wrap64; omega), wrap_id (by omega) (by omega), wrap_id (by omega) (by omega), show (p : Int) + 1 = ((p + 1 : Nat) : Int) by omega,
        rend_l0 hl ht n (p + 1) k (o - 1 + ar l (rd t p)) (by omega) (by omega) (by omega) (by omega), show o - 1 + ar l (rd t p) = o + (ar l (rd t p) - 1) by omega]
    · rw [if_neg ho, fin_stop (by omega)]
      congr 1; omega
theorem rend {l : List S89} (hl : GoodL l) {t : List Int} (ht : t.length ≤ 2000) (p : Nat) (hp : p ≤ t.length) {k : Nat} (hk : t.length < k) : ropewalkref02_End.f k l t p = some ((min (endN l t p) t.length : Nat) : Int) := by
  unfold ropewalkref02_End.f
  rw [rend_l0 hl ht (t.length - p) p k 1 (by omega) (by omega) (by omega) (by omega), ← endN_cast]
  congr 1; omega
theorem rend_ok {l : List S89} (hl : GoodL l) {t : List Int} (ht : t.length ≤ 2000) (p : Nat) (hp : p ≤ t.length) (he : endN l t p ≤ t.length) {k : Nat} (hk : t.length < k) : ropewalkref02_End.f k l t p = some (endN l t p : Int) := by
  rw [rend hl ht p hp hk, Nat.min_eq_left he]
end Go.Proofs.Ytadjoaipmcbieaa

/-! GD -/
namespace Go.Proofs.Ytadjoaipmcbieaa.A
end Go.Proofs.Ytadjoaipmcbieaa.A

/-! Q2 -/
namespace Go.Proofs.Ytadjoaipmcbieaa
end Go.Proofs.Ytadjoaipmcbieaa

/-! XA -/
namespace Go.Proofs.Ytadjoaipmcbieaa
/-- Terms in the places of variables. -/
def sb (s : Int → List Int) (t : List Int) : List Int := t.flatMap fun n => if n < 0 then s n else [n]
section
variable {s : Int → List Int}
theorem sb_nil : sb s [] = [] := rfl
theorem sb_cons (n : Int) (t : List Int) : sb s (n :: t) = (if n < 0 then s n else [n]) ++ sb s t := by simp [sb, List.flatMap_cons]
theorem sb_sym {n : Int} (h : 0 ≤ n) (t : List Int) : sb s (n :: t) = n :: sb s t := by rw [sb_cons, if_neg (by omega)]; rfl
theorem sb_var {n : Int} (h : n < 0) : sb s [n] = s n := by rw [sb_cons, if_pos h, sb_nil, List.append_nil]
theorem sb_append (t u : List Int) : sb s (t ++ u) = sb s t ++ sb s u := by simp [sb, List.flatMap_append]
theorem sb_flatten : ∀ (ts : List (List Int)), sb s ts.flatten = (ts.map (sb s)).flatten
  | [] => rfl
  | t :: ts => by rw [List.flatten_cons, sb_append, sb_flatten ts, List.map_cons, List.flatten_cons]
end
/-- Each variable stands for a term. -/
def Gd (b : Int → Nat) (s : Int → List Int) : Prop := ∀ n, n < 0 → IsT b 1 (s n)
theorem sb_isT {b : Int → Nat} {s : Int → List Int} (hb : ∀ n, n < 0 → b n = 0) (hs : Gd b s) {k : Nat} {t : List Int} (h : IsT b k t) : IsT b k (sb s t) := by
  induction h with
  | nil => exact .nil
  | @cons k n r _ ih =>
    by_cases hn : n < 0
    · rw [sb_cons, if_pos hn, Nat.add_comm]
      rw [hb n hn, Nat.zero_add] at ih
      exact (hs n hn).append ih
    · rw [sb_sym (by omega)]
      exact .cons ih
theorem flat_eq {b : Int → Nat} : ∀ {xs ys : List (List Int)}, xs.length = ys.length → (∀ x ∈ xs, IsT b 1 x) → (∀ y ∈ ys, IsT b 1 y) → xs.flatten = ys.flatten → xs = ys
  | [], [], _, _, _, _ => rfl
  | [], _ :: _, h, _, _, _ => by simp at h
  | _ :: _, [], h, _, _, _ => by simp at h
  | x :: xs, y :: ys, h, h1, h2, e => by
    rw [List.flatten_cons, List.flatten_cons] at e
    obtain rfl := (h1 x (by simp)).prefix_eq (h2 y (by simp)) e
    rw [flat_eq (by simpa using h) (fun z hz => h1 z (by simp [hz])) (fun z hz => h2 z (by simp [hz])) (List.append_cancel_left e)]
/-- A net: of each node its symbol (below 0: a variable), its arguments, the term that it stands for. -/
structure Net where
  n : Nat
  sym : Nat → Int
  args : Nat → List Nat
  tm : Nat → List Int
structure NetOk (b : Int → Nat) (G : Net) : Prop where
  bv : ∀ n, n < 0 → b n = 0
  arg : ∀ x, x < G.n → 0 ≤ G.sym x → (G.args x).length = b (G.sym x) ∧ ∀ a ∈ G.args x, a < G.n
  tmT : ∀ x, x < G.n → IsT b 1 (G.tm x)
  tms : ∀ x, x < G.n → 0 ≤ G.sym x → G.tm x = G.sym x :: ((G.args x).map G.tm).flatten
  tmv : ∀ x, x < G.n → G.sym x < 0 → ∃ v, v < 0 ∧ G.tm x = [v]
/-- Where the joining stands: R tells each node's class, rep a place of the class that is no variable (below 0: none); st: pairs that must become one yet. -/
structure Uni (b : Int → Nat) (G : Net) (ra rb : Nat) (R : Nat → Nat) (rep : Nat → Int) (st : List (Nat × Nat)) : Prop where
  ok : NetOk b G
  lt : ∀ x, x < G.n → R x < G.n
  idem : ∀ x, x < G.n → R (R x) = R x
  rep1 : ∀ x, x < G.n → 0 ≤ G.sym x → 0 ≤ rep (R x)
  rep2 : ∀ c, c < G.n → R c = c → 0 ≤ rep c → (rep c).toNat < G.n ∧ 0 ≤ G.sym (rep c).toNat ∧ R (rep c).toNat = c
  pr : ∀ p ∈ st, p.1 < G.n ∧ p.2 < G.n
  inj : ∀ x y, x < G.n → y < G.n → G.sym x < 0 → G.sym y < 0 → G.tm x = G.tm y → R x = R y
  cmp : ∀ s, Gd b s → sb s (G.tm ra) = sb s (G.tm rb) → (∀ x, x < G.n → sb s (G.tm (R x)) = sb s (G.tm x)) ∧ ∀ p ∈ st, sb s (G.tm p.1) = sb s (G.tm p.2)
  snd : ∀ h : Nat → Nat, (∀ x, x < G.n → h (R x) = h x) → (∀ p ∈ st, h p.1 = h p.2) → h ra = h rb ∧
    ∀ x y, x < G.n → y < G.n → 0 ≤ G.sym x → 0 ≤ G.sym y → R x = R y → G.sym x = G.sym y ∧ (G.args x).map h = (G.args y).map h
section
variable {b : Int → Nat} {G : Net} {ra rb : Nat} {R : Nat → Nat} {rep : Nat → Int} {st st' : List (Nat × Nat)}
/-- A pair of one class is dropped. -/
theorem Uni.drop (h : Uni b G ra rb R rep st) (h1 : ∀ p ∈ st, p ∈ st' ∨ R p.1 = R p.2) (h2 : ∀ p ∈ st', p ∈ st) : Uni b G ra rb R rep st' := by
  refine ⟨h.ok, h.lt, h.idem, h.rep1, h.rep2, fun p hp => h.pr p (h2 p hp), h.inj, fun s hs he => ⟨(h.cmp s hs he).1, fun p hp => (h.cmp s hs he).2 p (h2 p hp)⟩, fun g hg hp => h.snd g hg fun p hm => ?_⟩
  rcases h1 p hm with h3 | h3
  · exact hp p h3
  · obtain ⟨l1, l2⟩ := h.pr p hm
    rw [← hg _ l1, ← hg _ l2, h3]
/-- What stands for two nodes that are told as one, and are no variables: the same symbol, the same arguments. -/
theorem NetOk.args_eq (h : NetOk b G) {s : Int → List Int} (hs : Gd b s) {f g : Nat} (hf : f < G.n) (hg : g < G.n) (sf : 0 ≤ G.sym f) (sg : 0 ≤ G.sym g) (e : sb s (G.tm f) = sb s (G.tm g)) :
    G.sym f = G.sym g ∧ (G.args f).map (fun x => sb s (G.tm x)) = (G.args g).map (fun x => sb s (G.tm x)) := by
  rw [h.tms f hf sf, h.tms g hg sg, sb_sym sf, sb_sym sg, sb_flatten, sb_flatten] at e
  obtain ⟨e1, e2⟩ := List.cons.inj e
  refine ⟨e1, ?_⟩
  have e3 := flat_eq (b := b) (by rw [List.length_map, List.length_map, List.length_map, List.length_map, (h.arg f hf sf).1, (h.arg g hg sg).1, e1]) ?_ ?_ e2
  · simpa [List.map_map, Function.comp_def] using e3
  · intro x hx
    simp only [List.mem_map] at hx
    obtain ⟨t, ⟨a, ha, rfl⟩, rfl⟩ := hx
    exact sb_isT h.bv hs (h.tmT a ((h.arg f hf sf).2 a ha))
  · intro x hx
    simp only [List.mem_map] at hx
    obtain ⟨t, ⟨a, ha, rfl⟩, rfl⟩ := hx
    exact sb_isT h.bv hs (h.tmT a ((h.arg g hg sg).2 a ha))
/-- Two symbols in one class: nothing stands for both. -/
theorem Uni.clash (h : Uni b G ra rb R rep st) {x y : Nat} (hxy : (x, y) ∈ st) (h1 : 0 ≤ rep (R x)) (h2 : 0 ≤ rep (R y)) (hne : G.sym (rep (R x)).toNat ≠ G.sym (rep (R y)).toNat) :
    ∀ s, Gd b s → sb s (G.tm ra) ≠ sb s (G.tm rb) := by
  intro s hs he
  obtain ⟨c1, c2⟩ := h.cmp s hs he
  obtain ⟨lx, ly⟩ := h.pr _ hxy
  obtain ⟨f1, f2, f3⟩ := h.rep2 _ (h.lt x lx) (h.idem x lx) h1
  obtain ⟨g1, g2, g3⟩ := h.rep2 _ (h.lt y ly) (h.idem y ly) h2
  refine hne (h.ok.args_eq hs f1 g1 f2 g2 ?_).1
  rw [← c1 _ f1, ← c1 _ g1, f3, g3, c1 _ lx, c1 _ ly]
  exact c2 _ hxy
theorem map_ext {α : Type} {h : Nat → α} {xs ys : List Nat} (hl : xs.length = ys.length) (e : ∀ i, i < xs.length → h (xs.getD i 0) = h (ys.getD i 0)) : xs.map h = ys.map h := by
  apply List.ext_getElem
  · simpa using hl
  · intro i h1 h2
    simp at h1 h2
    have := e i h1
    simpa [List.getD_eq_getElem?_getD, h1, h2] using this
theorem map_at {α : Type} {h : Nat → α} {xs ys : List Nat} (e : xs.map h = ys.map h) (i : Nat) (hi : i < xs.length) : h (xs.getD i 0) = h (ys.getD i 0) := by
  have hl := congrArg List.length e
  simp at hl
  have := congrArg (fun l => l[i]?) e
  simpa [List.getD_eq_getElem?_getD, hi, show i < ys.length by omega] using this
theorem getD_mem' {xs : List Nat} {i : Nat} (h : i < xs.length) : xs.getD i 0 ∈ xs := by
  rw [List.getD_eq_getElem?_getD, List.getElem?_eq_getElem h]; exact List.getElem_mem h
/-- Two classes become one: c1's nodes come to c2. -/
theorem Uni.merge (h : Uni b G ra rb R rep st) {x y c1 c2 : Nat} (hxy : (x, y) ∈ st) (hc : (c1 = R x ∧ c2 = R y) ∨ (c1 = R y ∧ c2 = R x)) (hne : c1 ≠ c2) {R' : Nat → Nat} {rep' : Nat → Int}
    (hR : ∀ z, z < G.n → R' z = if R z = c1 then c2 else R z) (hr0 : ∀ c, c ≠ c1 → c ≠ c2 → rep' c = rep c) (hr : (rep' c2 = rep c2 ∧ 0 ≤ rep c2) ∨ (rep c2 < 0 ∧ rep' c2 = rep c1))
    (hz : 0 ≤ rep c1 → 0 ≤ rep c2 → G.sym (rep c1).toNat = G.sym (rep c2).toNat ∧ ∀ i, i < (G.args (rep c1).toNat).length →
      ((G.args (rep c1).toNat).getD i 0, (G.args (rep c2).toNat).getD i 0) ∈ st' ∨ ((G.args (rep c2).toNat).getD i 0, (G.args (rep c1).toNat).getD i 0) ∈ st')
    (hs1 : ∀ p ∈ st, p ∈ st' ∨ p = (x, y)) (hs2 : ∀ p ∈ st', p ∈ st ∨ (0 ≤ rep c1 ∧ 0 ≤ rep c2 ∧ ∃ i, i < (G.args (rep c1).toNat).length ∧
      (p = ((G.args (rep c1).toNat).getD i 0, (G.args (rep c2).toNat).getD i 0) ∨ p = ((G.args (rep c2).toNat).getD i 0, (G.args (rep c1).toNat).getD i 0)))) :
    Uni b G ra rb R' rep' st' := by
  obtain ⟨lx, ly⟩ := h.pr _ hxy
  have hc1 : c1 < G.n ∧ R c1 = c1 := by
    rcases hc with ⟨rfl, -⟩ | ⟨rfl, -⟩
    · exact ⟨h.lt x lx, h.idem x lx⟩
    · exact ⟨h.lt y ly, h.idem y ly⟩
  have hc2 : c2 < G.n ∧ R c2 = c2 := by
    rcases hc with ⟨-, rfl⟩ | ⟨-, rfl⟩
    · exact ⟨h.lt y ly, h.idem y ly⟩
    · exact ⟨h.lt x lx, h.idem x lx⟩
  have R2 : R' c2 = c2 := by rw [hR _ hc2.1, hc2.2]; split <;> rfl
  have Rxy : R' x = R' y := by
    rw [hR _ lx, hR _ ly]
    rcases hc with ⟨rfl, rfl⟩ | ⟨rfl, rfl⟩
    · rw [if_pos rfl, if_neg (fun e => hne e.symm)]
    · rw [if_neg (fun e => hne e.symm), if_pos rfl]
  have RR : ∀ z, z < G.n → R' (R z) = R' z := fun z hz => by rw [hR _ (h.lt z hz), hR _ hz, h.idem z hz]
  have fpos : 0 ≤ rep c1 → (rep c1).toNat < G.n ∧ 0 ≤ G.sym (rep c1).toNat ∧ R (rep c1).toNat = c1 := h.rep2 _ hc1.1 hc1.2
  have gpos : 0 ≤ rep c2 → (rep c2).toNat < G.n ∧ 0 ≤ G.sym (rep c2).toNat ∧ R (rep c2).toNat = c2 := h.rep2 _ hc2.1 hc2.2
  refine ⟨h.ok, ?_, ?_, ?_, ?_, ?_, ?_, ?_, ?_⟩
  · intro z hz
    rw [hR z hz]; split
    · exact hc2.1
    · exact h.lt z hz
  · intro z hz
    rw [hR z hz]; split
    · exact R2
    · rw [RR z hz, hR z hz, if_neg ‹_›]
  · intro z hz sz
    have h1 := h.rep1 z hz sz
    rw [hR z hz]
    by_cases e1 : R z = c1
    · rw [if_pos e1]
      rw [e1] at h1
      rcases hr with ⟨e, e2⟩ | ⟨_, e⟩
      · rw [e]; exact e2
      · rw [e]; exact h1
    · rw [if_neg e1]
      by_cases e2 : R z = c2
      · rw [e2] at h1 ⊢
        rcases hr with ⟨e, e3⟩ | ⟨e3, e⟩
        · rw [e]; exact e3
        · omega
      · rw [hr0 _ e1 e2]; exact h1
  · intro c hcn hcR hp
    rw [hR c hcn] at hcR
    by_cases e1 : R c = c1
    · rw [if_pos e1] at hcR
      subst hcR
      rw [hc2.2] at e1; exact absurd e1.symm hne
    · rw [if_neg e1] at hcR
      by_cases e2 : c = c2
      · subst e2
        rcases hr with ⟨e, e3⟩ | ⟨e3, e⟩
        · rw [e] at hp ⊢
          obtain ⟨g1, g2, g3⟩ := gpos hp
          exact ⟨g1, g2, by rw [hR _ g1, g3, if_neg (fun e => hne e.symm)]⟩
        · rw [e] at hp ⊢
          obtain ⟨g1, g2, g3⟩ := fpos hp
          exact ⟨g1, g2, by rw [hR _ g1, g3, if_pos rfl]⟩
      · have e3 : c ≠ c1 := fun e => e1 (by rw [hcR]; exact e)
        rw [hr0 c e3 e2] at hp ⊢
        obtain ⟨g1, g2, g3⟩ := h.rep2 c hcn hcR hp
        exact ⟨g1, g2, by rw [hR _ g1, g3, if_neg e3]⟩
  · intro p hp
    rcases hs2 p hp with h1 | ⟨h1, h2, i, hi, h3⟩
    · exact h.pr p h1
    · obtain ⟨f1, f2, f3⟩ := fpos h1
      obtain ⟨g1, g2, g3⟩ := gpos h2
      have e := (hz h1 h2).1
      have hi2 : i < (G.args (rep c2).toNat).length := by rw [(h.ok.arg _ g1 g2).1, ← e, ← (h.ok.arg _ f1 f2).1]; exact hi
      have m1 := (h.ok.arg _ f1 f2).2 _ (getD_mem' hi)
      have m2 := (h.ok.arg _ g1 g2).2 _ (getD_mem' hi2)
      rcases h3 with rfl | rfl
      · exact ⟨m1, m2⟩
      · exact ⟨m2, m1⟩
  · intro u v hu hv su sv e
    rw [← RR u hu, ← RR v hv, h.inj u v hu hv su sv e]
  · intro s hs he
    obtain ⟨k1, k2⟩ := h.cmp s hs he
    have hm := k2 _ hxy
    have hcc : sb s (G.tm c1) = sb s (G.tm c2) := by
      rcases hc with ⟨rfl, rfl⟩ | ⟨rfl, rfl⟩
      · rw [k1 _ lx, k1 _ ly]; exact hm
      · rw [k1 _ lx, k1 _ ly]; exact hm.symm
    refine ⟨fun z hz => ?_, fun p hp => ?_⟩
    · rw [hR z hz]; split
      · rename_i e
        rw [← k1 z hz, e, hcc]
      · exact k1 z hz
    · rcases hs2 p hp with h1 | ⟨h1, h2, i, hi, h3⟩
      · exact k2 p h1
      · obtain ⟨f1, f2, f3⟩ := fpos h1
        obtain ⟨g1, g2, g3⟩ := gpos h2
        have ee := (h.ok.args_eq hs f1 g1 f2 g2 (by rw [← k1 _ f1, ← k1 _ g1, f3, g3, hcc])).2
        have e4 := map_at (h := fun x => sb s (G.tm x)) ee i hi
        rcases h3 with rfl | rfl
        · exact e4
        · exact e4.symm
  · intro g hg hp
    have hgR : ∀ z, z < G.n → g (R z) = g z := fun z hz => by rw [← hg _ (h.lt z hz), RR z hz, hg _ hz]
    have gxy : g x = g y := by rw [← hg _ lx, ← hg _ ly, Rxy]
    obtain ⟨k1, k2⟩ := h.snd g hgR (fun p hm => by
      rcases hs1 p hm with h1 | rfl
      · exact hp p h1
      · exact gxy)
    refine ⟨k1, ?_⟩
    have key : ∀ u v, u < G.n → v < G.n → 0 ≤ G.sym u → 0 ≤ G.sym v → R u = c1 → R v = c2 → G.sym u = G.sym v ∧ (G.args u).map g = (G.args v).map g := by
      intro u v hu hv su sv eu ev
      have p1 := h.rep1 u hu su
      have p2 := h.rep1 v hv sv
      rw [eu] at p1
      rw [ev] at p2
      obtain ⟨f1, f2, f3⟩ := fpos p1
      obtain ⟨g1, g2, g3⟩ := gpos p2
      obtain ⟨a1, a2⟩ := k2 u _ hu f1 su f2 (by rw [eu, f3])
      obtain ⟨b1, b2⟩ := k2 v _ hv g1 sv g2 (by rw [ev, g3])
      obtain ⟨d1, d2⟩ := hz p1 p2
      refine ⟨by rw [a1, b1, d1], ?_⟩
      rw [a2, b2]
      refine map_ext (by rw [(h.ok.arg _ f1 f2).1, (h.ok.arg _ g1 g2).1, d1]) (fun i hi => ?_)
      rcases d2 i hi with h5 | h5
      · exact hp _ h5
      · exact (hp _ h5).symm
    intro u v hu hv su sv e
    rw [hR u hu, hR v hv] at e
    by_cases eu : R u = c1
    · by_cases ev : R v = c1
      · exact k2 u v hu hv su sv (by rw [eu, ev])
      · rw [if_pos eu, if_neg ev] at e
        exact key u v hu hv su sv eu e.symm
    · by_cases ev : R v = c1
      · rw [if_neg eu, if_pos ev] at e
        obtain ⟨q1, q2⟩ := key v u hv hu sv su ev e
        exact ⟨q1.symm, q2.symm⟩
      · rw [if_neg eu, if_neg ev] at e
        exact k2 u v hu hv su sv e
end
/-- How many classes there are. -/
def nr (R : Nat → Nat) : Nat → Nat
  | 0 => 0
  | k + 1 => nr R k + if R k = k then 1 else 0
theorem nr_le {R R' : Nat → Nat} : ∀ {k : Nat}, (∀ z, z < k → R' z = z → R z = z) → nr R' k ≤ nr R k
  | 0, _ => Nat.le_refl _
  | k + 1, h => by
    have h1 := nr_le (k := k) (fun z hz => h z (by omega))
    have h2 := h k (by omega)
    simp only [nr]
    by_cases e : R' k = k
    · rw [if_pos e, if_pos (h2 e)]; omega
    · rw [if_neg e]; omega
theorem nr_lt {R R' : Nat → Nat} {c : Nat} : ∀ {k : Nat}, (∀ z, z < k → R' z = z → R z = z) → c < k → R c = c → R' c ≠ c → nr R' k < nr R k
  | 0, _, h, _, _ => by omega
  | k + 1, h, hc, h1, h2 => by
    simp only [nr]
    by_cases e : c = k
    · subst e
      have h3 := nr_le (k := c) (fun z hz => h z (by omega))
      rw [if_pos h1, if_neg h2]; omega
    · have h3 := nr_lt (k := k) (fun z hz => h z (by omega)) (by omega) h1 h2
      have h4 := h k (by omega)
      by_cases e : R' k = k
      · rw [if_pos e, if_pos (h4 e)]; omega
      · rw [if_neg e]; omega
theorem nr_merge {R R' : Nat → Nat} {n c1 c2 : Nat} (h1 : c1 < n) (h2 : R c1 = c1) (h3 : R c2 = c2) (hne : c1 ≠ c2) (hR : ∀ z, z < n → R' z = if R z = c1 then c2 else R z) : nr R' n < nr R n := by
  refine nr_lt (c := c1) (fun z hz e => ?_) h1 h2 ?_
  · rw [hR z hz] at e
    split at e
    · subst e; rename_i e2; rw [h3] at e2; exact absurd e2.symm hne
    · exact e
  · rw [hR _ h1, if_pos h2]; exact fun e => hne e.symm
theorem nr_bd (R : Nat → Nat) : ∀ k, nr R k ≤ k
  | 0 => Nat.le_refl _
  | k + 1 => by have := nr_bd R k; simp only [nr]; split <;> omega
section
/-- What the nodes of a list unfold to. -/
inductive Unf (G : Net) (R : Nat → Nat) (rep : Nat → Int) : List Nat → List Int → Prop
  | nil : Unf G R rep [] []
  | var {x : Nat} {xs : List Nat} {T : List Int} (h : rep (R x) < 0) (r : Unf G R rep xs T) : Unf G R rep (x :: xs) ((-(R x : Int) - 1) :: T)
  | app {x : Nat} {xs : List Nat} {T : List Int} (h : 0 ≤ rep (R x)) (r : Unf G R rep (G.args (rep (R x)).toNat ++ xs) T) : Unf G R rep (x :: xs) (G.sym (rep (R x)).toNat :: T)
variable {b : Int → Nat} {G : Net} {ra rb : Nat} {R : Nat → Nat} {rep : Nat → Int}
theorem Unf.det {xs : List Nat} {T T' : List Int} (h : Unf G R rep xs T) (h' : Unf G R rep xs T') : T = T' := by
  induction h generalizing T' with
  | nil => cases h'; rfl
  | var hv _ ih => cases h' with
    | var _ r => rw [ih r]
    | app hp _ => omega
  | app hp _ ih => cases h' with
    | var hv _ => omega
    | app _ r => rw [ih r]
theorem Unf.append {xs ys : List Nat} {T U : List Int} (h : Unf G R rep xs T) (h' : Unf G R rep ys U) : Unf G R rep (xs ++ ys) (T ++ U) := by
  induction h with
  | nil => exact h'
  | var hv _ ih => exact .var hv ih
  | app hp _ ih => exact .app hp ((List.append_assoc _ _ _) ▸ ih)
theorem Unf.split {xs ys : List Nat} {T : List Int} (h : Unf G R rep (xs ++ ys) T) : ∃ U V, T = U ++ V ∧ Unf G R rep xs U ∧ Unf G R rep ys V := by
  generalize hz : xs ++ ys = zs at h
  induction h generalizing xs with
  | nil =>
    obtain ⟨rfl, rfl⟩ := List.append_eq_nil_iff.1 hz
    exact ⟨[], [], rfl, .nil, .nil⟩
  | @var x zs T hv r ih =>
    cases xs with
    | nil => subst hz; exact ⟨[], _, rfl, .nil, .var hv r⟩
    | cons x' xs =>
      obtain ⟨rfl, rfl⟩ := List.cons.inj hz
      obtain ⟨U, V, rfl, h1, h2⟩ := ih rfl
      exact ⟨_ :: U, V, rfl, .var hv h1, h2⟩
  | @app x zs T hp r ih =>
    cases xs with
    | nil => subst hz; exact ⟨[], _, rfl, .nil, .app hp r⟩
    | cons x' xs =>
      obtain ⟨rfl, rfl⟩ := List.cons.inj hz
      obtain ⟨U, V, rfl, h1, h2⟩ := ih (xs := G.args (rep (R x')).toNat ++ xs) (List.append_assoc _ _ _)
      exact ⟨_ :: U, V, rfl, .app hp h1, h2⟩
theorem Unf.congr {xs ys : List Nat} {T : List Int} (h : Unf G R rep xs T) (e : xs.map R = ys.map R) : Unf G R rep ys T := by
  induction h generalizing ys with
  | nil =>
    cases ys with
    | nil => exact .nil
    | cons y ys => simp at e
  | @var x xs T hv r ih =>
    cases ys with
    | nil => simp at e
    | cons y ys =>
      simp only [List.map_cons, List.cons.injEq] at e
      rw [e.1] at hv ⊢
      exact .var hv (ih e.2)
  | @app x xs T hp r ih =>
    cases ys with
    | nil => simp at e
    | cons y ys =>
      simp only [List.map_cons, List.cons.injEq] at e
      rw [e.1] at hp ⊢ ih
      exact .app hp (ih (by rw [List.map_append, List.map_append, e.2]))
theorem Unf.len {xs : List Nat} {T : List Int} (h : Unf G R rep xs T) : xs.length ≤ T.length := by
  induction h with
  | nil => simp
  | var _ _ ih => simpa using ih
  | app _ _ ih => simp at ih ⊢; omega
end
end Go.Proofs.Ytadjoaipmcbieaa
namespace Go.Proofs.Ytadjoaipmcbieaa
open Go.Proofs.YtadjoaipmcbieaaW.PrintWords
/-- T is an instance of A and of B by the same terms, and each that is so is an instance of T. -/
def Mgi (b : Int → Nat) (A B T : List Int) : Prop := (∃ s, Gd b s ∧ sb s A = T ∧ sb s B = T) ∧ ∀ s, Gd b s → sb s A = sb s B → ∃ u, Gd b u ∧ sb u T = sb s A
section
variable {b : Int → Nat} {G : Net} {ra rb : Nat} {R : Nat → Nat} {rep : Nat → Int} {st : List (Nat × Nat)}
theorem Uni.fin (h : Uni b G ra rb R rep []) : R ra = R rb ∧ ∀ x y, x < G.n → y < G.n → 0 ≤ G.sym x → 0 ≤ G.sym y → R x = R y → G.sym x = G.sym y ∧ (G.args x).map R = (G.args y).map R :=
  h.snd R h.idem (fun p hp => by simp at hp)
theorem Unf.isT (h : Uni b G ra rb R rep st) {xs : List Nat} {T : List Int} (hx : ∀ x ∈ xs, x < G.n) (u : Unf G R rep xs T) : IsT b xs.length T := by
  induction u with
  | nil => exact .nil
  | @var x xs T hv _ ih =>
    exact .cons (by rw [h.ok.bv _ (by omega), Nat.zero_add]; exact ih (fun y hy => hx y (by simp [hy])))
  | @app x xs T hp _ ih =>
    have hxn := hx x (by simp)
    obtain ⟨f1, f2, f3⟩ := h.rep2 _ (h.lt x hxn) (h.idem x hxn) hp
    obtain ⟨e1, e2⟩ := h.ok.arg _ f1 f2
    refine .cons ?_
    rw [← e1, ← List.length_append]
    refine ih (fun y hy => ?_)
    rcases List.mem_append.1 hy with hy | hy
    · exact e2 y hy
    · exact hx y (by simp [hy])
open Classical in
/-- What a variable's node unfolds to. -/
noncomputable def th (G : Net) (R : Nat → Nat) (rep : Nat → Int) (v : Int) : List Int :=
  if h : ∃ T x, x < G.n ∧ G.sym x < 0 ∧ G.tm x = [v] ∧ Unf G R rep [x] T then Classical.choose h else [v]
theorem th_eq (h : Uni b G ra rb R rep st) {x : Nat} {v : Int} {T : List Int} (hx : x < G.n) (sx : G.sym x < 0) (e : G.tm x = [v]) (u : Unf G R rep [x] T) : th G R rep v = T := by
  have hex : ∃ T x, x < G.n ∧ G.sym x < 0 ∧ G.tm x = [v] ∧ Unf G R rep [x] T := ⟨T, x, hx, sx, e, u⟩
  obtain ⟨y, hy, sy, ey, uy⟩ := Classical.choose_spec hex
  have hR := h.inj x y hx hy sx sy (by rw [e, ey])
  unfold th
  rw [dif_pos hex]
  exact (uy.congr (ys := [x]) (by simp [hR])).det u
theorem th_good (h : Uni b G ra rb R rep st) : Gd b (th G R rep) := by
  intro v hv
  unfold th
  split
  · rename_i hex
    obtain ⟨y, hy, sy, ey, uy⟩ := Classical.choose_spec hex
    exact Unf.isT h (xs := [y]) (by simpa using hy) uy
  · exact .cons (by rw [h.ok.bv v hv]; exact .nil)
theorem unf_sb (h : Uni b G ra rb R rep []) : ∀ (m : Nat) (xs : List Nat) (T : List Int), ((xs.map G.tm).flatten).length ≤ m → (∀ x ∈ xs, x < G.n) → Unf G R rep xs T → sb (th G R rep) (xs.map G.tm).flatten = T := by
  intro m
  induction m with
  | zero =>
    intro xs T hm hx u
    cases xs with
    | nil => cases u; rfl
    | cons x xs =>
      have h1 := (h.ok.tmT x (hx x (by simp))).pos
      rw [List.map_cons, List.flatten_cons, List.length_append] at hm
      omega
  | succ m ih =>
    intro xs T hm hx u
    cases xs with
    | nil => cases u; rfl
    | cons x xs =>
      have hxn := hx x (by simp)
      have hxs : ∀ y ∈ xs, y < G.n := fun y hy => hx y (by simp [hy])
      rw [List.map_cons, List.flatten_cons] at hm ⊢
      rw [List.length_append] at hm
      by_cases sx : G.sym x < 0
      · obtain ⟨v, hv, ev⟩ := h.ok.tmv x hxn sx
        obtain ⟨U, V, rfl, u1, u2⟩ := Unf.split (xs := [x]) u
        rw [sb_append, ev, sb_var hv, th_eq h hxn sx ev u1, ih xs V (by rw [ev] at hm; simp at hm ⊢; omega) hxs u2]
      · have sx' : 0 ≤ G.sym x := by omega
        have hp := h.rep1 x hxn sx'
        obtain ⟨f1, f2, f3⟩ := h.rep2 _ (h.lt x hxn) (h.idem x hxn) hp
        obtain ⟨e1, e2⟩ := (h.fin.2) x _ hxn f1 sx' f2 f3.symm
        cases u with
        | var hv _ => omega
        | app _ r =>
          have r2 := r.congr (ys := G.args x ++ xs) (by rw [List.map_append, List.map_append, e2])
          have hlt : ∀ y ∈ G.args x ++ xs, y < G.n := fun y hy => by
            rcases List.mem_append.1 hy with hy | hy
            · exact (h.ok.arg x hxn sx').2 y hy
            · exact hxs y hy
          rw [h.ok.tms x hxn sx'] at hm ⊢
          have e3 := ih (G.args x ++ xs) _ (by rw [List.map_append, List.flatten_append, List.length_append]; simp only [List.length_cons] at hm; omega) hlt r2
          rw [List.cons_append, sb_sym sx', ← List.flatten_append, ← List.map_append, e3, e1]
theorem unf_gen (h : Uni b G ra rb R rep st) {s : Int → List Int} (hs : Gd b s) (he : sb s (G.tm ra) = sb s (G.tm rb)) {xs : List Nat} {T : List Int} (hx : ∀ x ∈ xs, x < G.n) (u : Unf G R rep xs T) :
    sb (fun v => if (-v - 1).toNat < G.n ∧ v < 0 then sb s (G.tm (-v - 1).toNat) else [v]) T = sb s (xs.map G.tm).flatten := by
  have hc := (h.cmp s hs he).1
  induction u with
  | nil => rfl
  | @var x xs T hv _ ih =>
    have hxn := hx x (by simp)
    have hr := h.lt x hxn
    rw [sb_cons, if_pos (by omega), if_pos ⟨by omega, by omega⟩, ih (fun y hy => hx y (by simp [hy])), show (-(-(R x : Int) - 1) - 1).toNat = R x by omega, hc x hxn, List.map_cons, List.flatten_cons, sb_append]
  | @app x xs T hp _ ih =>
    have hxn := hx x (by simp)
    obtain ⟨f1, f2, f3⟩ := h.rep2 _ (h.lt x hxn) (h.idem x hxn) hp
    have e2 := (h.ok.arg _ f1 f2).2
    have e4 : sb s (G.tm (rep (R x)).toNat) = sb s (G.tm x) := by rw [← hc x hxn, ← hc _ f1, f3]
    rw [sb_sym f2, ih (fun y hy => by
      rcases List.mem_append.1 hy with hy | hy
      · exact e2 y hy
      · exact hx y (by simp [hy])), List.map_cons, List.flatten_cons, sb_append, ← e4, h.ok.tms _ f1 f2, sb_sym f2, List.map_append, List.flatten_append, sb_append]
    rfl
theorem Uni.mgi (h : Uni b G ra rb R rep []) (ha : ra < G.n) (hb : rb < G.n) {T : List Int} (u : Unf G R rep [ra] T) : Mgi b (G.tm ra) (G.tm rb) T := by
  refine ⟨⟨th G R rep, th_good h, ?_, ?_⟩, fun s hs he => ⟨_, fun v hv => ?_, (unf_gen h hs he (xs := [ra]) (by simpa using ha) u).trans (by simp)⟩⟩
  · simpa using unf_sb h _ [ra] T (Nat.le_refl _) (by simpa using ha) u
  · simpa using unf_sb h _ [rb] T (Nat.le_refl _) (by simpa using hb) (u.congr (by simp [h.fin.1]))
  · split
    · rename_i hn
      exact sb_isT h.ok.bv hs (h.ok.tmT _ hn.1)
    · exact .cons (by rw [h.ok.bv v hv]; exact .nil)
end
/-- How long a list's unfolding is, argument by argument. -/
def szs (f : List Int → Nat → Option (List Int × Option Int)) : List Int → List Nat → Int → Option (List Int × Option Int)
  | K, [], all => some (K, some all)
  | K, a :: cs, all => (f K a).bind fun q => match q.2 with
    | none => some (q.1, none)
    | some m => szs f q.1 cs (min (all + m) 2001)
/-- How long a node's unfolding is (2001, if longer); none: it would lie in itself. -/
def sz (G : Net) (R : Nat → Nat) (rep : Nat → Int) : Nat → List Int → Nat → Option (List Int × Option Int)
  | 0, _, _ => none
  | k + 1, K, x => if rd K (R x) = -1 then some (K, none) else if rd K (R x) ≠ 0 then some (K, some (rd K (R x)))
    else if rep (R x) < 0 then some (K.set (R x) 1, some 1)
    else (szs (sz G R rep k) (K.set (R x) (-1)) (G.args (rep (R x)).toNat) 1).bind fun q => match q.2 with
      | none => some (q.1, none)
      | some all => some (q.1.set (R x) all, some all)
/-- How many are not known yet. -/
def zc : List Int → Nat
  | [] => 0
  | k :: r => zc r + if k = 0 then 1 else 0
theorem rd_cons_succ (k : Int) (r : List Int) (i : Nat) : rd (k :: r) ((i + 1 : Nat) : Int) = rd r i := by simp [rd]
theorem rd_cons_zero (k : Int) (r : List Int) : rd (k :: r) ((0 : Nat) : Int) = k := by simp [rd]
theorem zc_set {v : Int} (hv : v ≠ 0) : ∀ {K : List Int} {i : Nat}, i < K.length → zc (K.set i v) + (if rd K i = 0 then 1 else 0) = zc K
  | [], _, h => by simp at h
  | k :: r, 0, _ => by rw [rd_cons_zero]; simp only [List.set_cons_zero, zc, if_neg hv]; omega
  | k :: r, i + 1, h => by
    have := zc_set (v := v) hv (K := r) (i := i) (by simpa using h)
    rw [rd_cons_succ]; simp only [List.set_cons_succ, zc]; omega
theorem zc_le : ∀ (K : List Int), zc K ≤ K.length
  | [] => Nat.le_refl _
  | k :: r => by have := zc_le r; simp only [zc, List.length_cons]; split <;> omega
theorem rd_set (xs : List Int) (a x : Nat) (v : Int) (ha : a < xs.length) : rd (xs.set a v) x = if a = x then v else rd xs x := by
  simp only [rd, Int.toNat_natCast, List.getD_eq_getElem?_getD, List.getElem?_set]
  split
  · subst_vars; simp_all
  · rfl
section
variable {b : Int → Nat} {G : Net} {ra rb : Nat} {R : Nat → Nat} {rep : Nat → Int} {st : List (Nat × Nat)}
structure SzOk (G : Net) (R : Nat → Nat) (rep : Nat → Int) (K : List Int) : Prop where
  len : K.length = G.n
  ok : ∀ c, c < G.n → R c = c → rd K c = -1 ∨ rd K c = 0 ∨ ∃ T, Unf G R rep [c] T ∧ rd K c = min (T.length : Int) 2001
/-- What stands for x is shorter than what stands for all that is being counted. -/
def Shorter (G : Net) (R : Nat → Nat) (s : Int → List Int) (K : List Int) (x : Nat) : Prop := ∀ c, c < G.n → R c = c → rd K c = -1 → (sb s (G.tm x)).length < (sb s (G.tm c)).length
def SzPost (b : Int → Nat) (G : Net) (ra rb : Nat) (R : Nat → Nat) (rep : Nat → Int) (K : List Int) (xs : List Nat) (a : Int) (K' : List Int) (r : Option Int) : Prop :=
  K'.length = G.n ∧ ((∃ m T, r = some m ∧ SzOk G R rep K' ∧ zc K' ≤ zc K ∧ (∀ c, c < G.n → (rd K' c = -1 ↔ rd K c = -1)) ∧ Unf G R rep xs T ∧ m = min (a + T.length) 2001) ∨
  (r = none ∧ ∀ s, Gd b s → sb s (G.tm ra) = sb s (G.tm rb) → ¬ ∀ x ∈ xs, Shorter G R s K x))
theorem min_two (a t u : Int) (ha : 0 ≤ a) (_ : 0 ≤ t) (hu : 0 ≤ u) : min (a + min (0 + t) 2001 + u) 2001 = min (a + (t + u)) 2001 := by omega
theorem min_one (a m : Int) (_ : 0 ≤ a) (hm : 0 ≤ m) : min (min a 2001 + m) 2001 = min (a + m) 2001 := by omega
theorem szs_law (_h : Uni b G ra rb R rep st) {f : List Int → Nat → Option (List Int × Option Int)} {z : Nat}
    (hf : ∀ K x, zc K ≤ z → SzOk G R rep K → x < G.n → ∃ K' r, f K x = some (K', r) ∧ SzPost b G ra rb R rep K [x] 0 K' r) : ∀ (xs : List Nat) (K : List Int) (a : Int), zc K ≤ z → SzOk G R rep K → (∀ x ∈ xs, x < G.n) → 0 ≤ a →
    ∃ K' r, szs f K xs (min a 2001) = some (K', r) ∧ SzPost b G ra rb R rep K xs a K' r
  | [], K, a, hz, hK, _, ha => ⟨K, _, rfl, hK.len, .inl ⟨_, [], rfl, hK, Nat.le_refl _, fun _ _ => Iff.rfl, .nil, by simp⟩⟩
  | x :: xs, K, a, hz, hK, hx, ha => by
    obtain ⟨K1, r1, e1, hl1, h1⟩ := hf K x hz hK (hx x (by simp))
    simp only [szs, e1, Option.bind_some]
    rcases h1 with ⟨m, T, rfl, k1, z1, o1, u1, em⟩ | ⟨rfl, hn⟩
    · have hm : 0 ≤ m := by omega
      obtain ⟨K2, r2, e2, hl2, h2⟩ := szs_law _h hf xs K1 (a + m) (by omega) k1 (fun y hy => hx y (by simp [hy])) (by omega)
      have em2 := min_one a m ha hm
      refine ⟨K2, r2, by show szs f K1 xs (min (min a 2001 + m) 2001) = _; rw [em2]; exact e2, hl2, ?_⟩
      rcases h2 with ⟨m2, T2, rfl, k2, z2, o2, u2, e3⟩ | ⟨rfl, hn⟩
      · exact .inl ⟨m2, T ++ T2, rfl, k2, by omega, fun c hc => (o2 c hc).trans (o1 c hc), Unf.append (xs := [x]) u1 u2, by rw [e3, em, List.length_append, Int.natCast_add]; exact min_two _ _ _ ha (Int.natCast_nonneg _) (Int.natCast_nonneg _)⟩
      · refine .inr ⟨rfl, fun s hs he hall => hn s hs he fun y hy => ?_⟩
        intro c hc hR ho
        exact hall y (by simp [hy]) c hc hR ((o1 c hc).1 ho)
    · exact ⟨K1, none, rfl, hl1, .inr ⟨rfl, fun s hs he hall => hn s hs he fun y hy => by
        obtain rfl : y = x := by simpa using hy
        exact hall y (by simp)⟩⟩
theorem sz_law (h : Uni b G ra rb R rep st) : ∀ (k : Nat) (K : List Int) (x : Nat), zc K < k → SzOk G R rep K → x < G.n → ∃ K' r, sz G R rep k K x = some (K', r) ∧ SzPost b G ra rb R rep K [x] 0 K' r := by
  intro k
  induction k with
  | zero => intro K x hz; omega
  | succ k ih =>
    intro K x hz hK hx
    have hr := h.lt x hx
    have hi := h.idem x hx
    simp only [sz]
    have hcong : ∀ {T}, Unf G R rep [R x] T → Unf G R rep [x] T := fun u => u.congr (by simp [hi])
    by_cases e1 : rd K (R x) = -1
    · rw [if_pos e1]
      refine ⟨K, none, rfl, hK.len, .inr ⟨rfl, fun s hs he hall => ?_⟩⟩
      have h1 := hall x (by simp) (R x) hr hi e1
      have h2 := (h.cmp s hs he).1 x hx
      rw [h2] at h1
      omega
    · rw [if_neg e1]
      by_cases e2 : rd K (R x) = 0
      · rw [if_neg (fun hh => hh e2)]
        have hlen : R x < K.length := by rw [hK.len]; exact hr
        by_cases e3 : rep (R x) < 0
        · rw [if_pos e3]
          have hz1 := zc_set (v := 1) (by omega) hlen
          rw [if_pos e2] at hz1
          have hU : Unf G R rep [R x] [-(R x : Int) - 1] := by have := Unf.var (G := G) (R := R) (rep := rep) (x := R x) (xs := []) (by rw [hi]; exact e3) .nil; rw [hi] at this; exact this
          refine ⟨_, _, rfl, by simpa using hK.len, .inl ⟨1, _, rfl, ⟨by simpa using hK.len, fun c hc hR => ?_⟩, by omega, fun c hc => ?_, hcong hU, by simp only [List.length_singleton]; omega⟩⟩
          · rw [rd_set _ _ _ _ hlen]
            by_cases e : R x = c
            · subst e; rw [if_pos rfl]; exact .inr (.inr ⟨_, hU, by simp only [List.length_singleton]; omega⟩)
            · rw [if_neg e]; exact hK.ok c hc hR
          · rw [rd_set _ _ _ _ hlen]
            by_cases e : R x = c
            · subst e; rw [if_pos rfl]; omega
            · rw [if_neg e]
        · rw [if_neg e3]
          obtain ⟨f1, f2, f3⟩ := h.rep2 _ hr hi (by omega)
          have hargs := (h.ok.arg _ f1 f2).2
          have hz1 := zc_set (v := -1) (by omega) hlen
          rw [if_pos e2] at hz1
          have hK1 : SzOk G R rep (K.set (R x) (-1)) := ⟨by simpa using hK.len, fun c hc hR => by
            rw [rd_set _ _ _ _ hlen]
            by_cases e : R x = c
            · rw [if_pos e]; exact .inl rfl
            · rw [if_neg e]; exact hK.ok c hc hR⟩
          have hmin : (1 : Int) = min 1 2001 := by omega
          obtain ⟨K2, r2, e4, hl2, h2⟩ := szs_law (z := zc K - 1) h (f := sz G R rep k) (fun K' y hz' hK' hy => ih K' y (by omega) hK' hy) (G.args (rep (R x)).toNat) (K.set (R x) (-1)) 1 (by omega) hK1 hargs (by omega)
          rw [← hmin] at e4
          rw [e4, Option.bind_some]
          rcases h2 with ⟨m, T, rfl, k2, z2, o2, u2, e5⟩ | ⟨rfl, hn⟩
          · have hU : Unf G R rep [R x] (G.sym (rep (R x)).toNat :: T) := by
              have := Unf.app (G := G) (R := R) (rep := rep) (x := R x) (xs := []) (T := T) (by rw [hi]; omega) (by rw [hi, List.append_nil]; exact u2); rw [hi] at this; exact this
            have hl2' : R x < K2.length := by rw [hl2]; exact hr
            have ho : rd K2 (R x) = -1 := (o2 _ hr).2 (by rw [rd_set _ _ _ _ hlen, if_pos rfl])
            have hz2 := zc_set (v := m) (by omega) hl2'
            rw [if_neg (by omega)] at hz2
            refine ⟨K2.set (R x) m, some m, rfl, by simpa using hl2, .inl ⟨m, _, rfl, ⟨by simpa using hl2, fun c hc hR => ?_⟩, by omega, fun c hc => ?_, hcong hU, by simp only [List.length_cons]; omega⟩⟩
            · rw [rd_set _ _ _ _ hl2']
              by_cases e : R x = c
              · subst e; rw [if_pos rfl]; exact .inr (.inr ⟨_, hU, by simp only [List.length_cons]; omega⟩)
              · rw [if_neg e]; exact k2.ok c hc hR
            · rw [rd_set _ _ _ _ hl2']
              by_cases e : R x = c
              · subst e; rw [if_pos rfl]; omega
              · rw [if_neg e, o2 c hc, rd_set _ _ _ _ hlen, if_neg e]
          · refine ⟨K2, none, rfl, hl2, .inr ⟨rfl, fun s hs he hall => hn s hs he fun a ha => ?_⟩⟩
            intro c hc hR ho
            have hc1 := (h.cmp s hs he).1
            have hlong : (sb s (G.tm a)).length < (sb s (G.tm x)).length := by
              rw [← hc1 x hx, ← f3, hc1 _ f1, h.ok.tms _ f1 f2, sb_sym f2, sb_flatten, List.length_cons, List.map_map]
              obtain ⟨l1, l2, el⟩ := List.append_of_mem ha
              rw [el]
              simp only [List.map_append, List.map_cons, List.flatten_append, List.flatten_cons, List.length_append, Function.comp_apply]
              omega
            rw [rd_set _ _ _ _ hlen] at ho
            by_cases e : R x = c
            · subst e; rw [hc1 x hx]; exact hlong
            · rw [if_neg e] at ho
              have := hall x (by simp) c hc hR ho
              omega
      · rw [if_pos e2]
        rcases hK.ok _ hr hi with e | e | ⟨T, u, e⟩
        · exact absurd e e1
        · exact absurd e e2
        · exact ⟨K, _, rfl, hK.len, .inl ⟨_, T, rfl, hK, Nat.le_refl _, fun _ _ => Iff.rfl, hcong u, by simpa using e⟩⟩
end
end Go.Proofs.Ytadjoaipmcbieaa
namespace Go.Proofs.Ytadjoaipmcbieaa
open Go.Proofs.YtadjoaipmcbieaaW.PrintWords
/-- The variables numbered in the order in which they first stand; ns: those that have stood. -/
def rn : List Int → List Int → List Int
  | _, [] => []
  | ns, n :: t => if 0 ≤ n then n :: rn ns t else if n ∈ ns then (-(ns.idxOf n : Int) - 1) :: rn ns t else (-(ns.length : Int) - 1) :: rn (ns ++ [n]) t
def rns : List Int → List Int → List Int
  | ns, [] => ns
  | ns, n :: t => if 0 ≤ n then rns ns t else if n ∈ ns then rns ns t else rns (ns ++ [n]) t
theorem rn_append : ∀ (t u ns : List Int), rn ns (t ++ u) = rn ns t ++ rn (rns ns t) u
  | [], _, _ => rfl
  | n :: t, u, ns => by
    simp only [List.cons_append, rn, rns]
    split
    · rw [rn_append]; rfl
    · split
      · rw [rn_append]; rfl
      · rw [rn_append]; rfl
theorem rns_append : ∀ (t u ns : List Int), rns ns (t ++ u) = rns (rns ns t) u
  | [], _, _ => rfl
  | n :: t, u, ns => by
    simp only [List.cons_append, rns]
    split
    · exact rns_append t u ns
    · split
      · exact rns_append t u ns
      · exact rns_append t u _
theorem rn_length : ∀ (t ns : List Int), (rn ns t).length = t.length
  | [], _ => rfl
  | n :: t, ns => by
    simp only [rn]
    split
    · simp [rn_length t]
    · split <;> simp [rn_length t]
theorem idx_map {f g : Int → Int} : ∀ {ns : List Int} {n : Int}, (∀ x ∈ ns, g (f x) = x) → g (f n) = n → (ns.map f).idxOf (f n) = ns.idxOf n
  | [], _, _, _ => rfl
  | m :: ns, n, h, hn => by
    rw [List.map_cons, List.idxOf_cons, List.idxOf_cons]
    have ih := idx_map (ns := ns) (n := n) (fun x hx => h x (by simp [hx])) hn
    by_cases e : m = n
    · subst e; simp
    · have e2 : f m ≠ f n := fun e2 => e (by rw [← h m (by simp), e2, hn])
      rw [beq_eq_false_iff_ne.2 e, beq_eq_false_iff_ne.2 e2, ih]
/-- Names that are carried over, one to one, are numbered alike. -/
theorem rn_map {f g : Int → Int} : ∀ {t ns : List Int}, (∀ x ∈ ns, g (f x) = x) → (∀ x ∈ t, x < 0 → f x < 0 ∧ g (f x) = x) → rn (ns.map f) (t.map fun x => if x < 0 then f x else x) = rn ns t
  | [], _, _, _ => rfl
  | n :: t, ns, h, ht => by
    have ht' : ∀ x ∈ t, x < 0 → f x < 0 ∧ g (f x) = x := fun x hx => ht x (by simp [hx])
    simp only [List.map_cons, rn]
    by_cases hn : 0 ≤ n
    · have e : (if n < 0 then f n else n) = n := if_neg (by omega)
      rw [e, if_pos hn, if_pos hn, rn_map h ht']
    · obtain ⟨h1, h2⟩ := ht n (by simp) (by omega)
      have e : (if n < 0 then f n else n) = f n := if_pos (by omega)
      rw [e, if_neg (by omega), if_neg hn]
      by_cases hm : n ∈ ns
      · rw [if_pos hm, if_pos (List.mem_map_of_mem hm), idx_map h h2, rn_map h ht']
      · have hm2 : f n ∉ ns.map f := fun hm2 => by
          obtain ⟨x, hx, ex⟩ := List.mem_map.1 hm2
          have : x = n := by rw [← h x hx, ex, h2]
          exact hm (this ▸ hx)
        rw [if_neg hm, if_neg hm2, List.length_map, ← rn_map (ns := ns ++ [n]) (fun x hx => by
          rcases List.mem_append.1 hx with hx | hx
          · exact h x hx
          · obtain rfl := List.mem_singleton.1 hx; exact h2) ht', List.map_append]; rfl
theorem sb_len {s : Int → List Int} (h : ∀ n, n < 0 → 1 ≤ (s n).length) : ∀ (t : List Int), t.length ≤ (sb s t).length
  | [] => Nat.zero_le _
  | n :: t => by
    have := sb_len h t
    rw [sb_cons, List.length_append, List.length_cons]
    split
    · have := h n ‹_›; omega
    · simp; omega
theorem sb_one {s : Int → List Int} (h : ∀ n, n < 0 → 1 ≤ (s n).length) : ∀ {t : List Int}, (sb s t).length = t.length → ∀ n ∈ t, n < 0 → ∃ m, s n = [m]
  | [], _, n, hn, _ => by simp at hn
  | m :: t, e, n, hn, h0 => by
    have h1 := sb_len h t
    rw [sb_cons, List.length_append, List.length_cons] at e
    by_cases hm : m < 0
    · have h2 := h m hm
      rw [if_pos hm] at e
      rcases List.mem_cons.1 hn with rfl | hn
      · exact List.length_eq_one_iff.1 (by omega)
      · exact sb_one h (by omega) n hn h0
    · rw [if_neg hm] at e
      rcases List.mem_cons.1 hn with rfl | hn
      · omega
      · exact sb_one h (by simp at e; omega) n hn h0
theorem sb_map {s : Int → List Int} {f : Int → Int} : ∀ {t : List Int}, (∀ n ∈ t, n < 0 → s n = [f n]) → sb s t = t.map fun x => if x < 0 then f x else x
  | [], _ => rfl
  | n :: t, h => by
    rw [sb_cons, sb_map (fun m hm => h m (by simp [hm])), List.map_cons]
    by_cases hn : n < 0
    · rw [if_pos hn, if_pos hn, h n (by simp) hn]; rfl
    · rw [if_neg hn, if_neg hn]; rfl
/-- Two lists of which each is an instance of the other are numbered alike. -/
theorem rn_alike {s u : Int → List Int} {t t' : List Int} (hs : ∀ n, n < 0 → 1 ≤ (s n).length) (hu : ∀ n, n < 0 → 1 ≤ (u n).length) (e1 : sb s t = t') (e2 : sb u t' = t) : t.length = t'.length ∧ rn [] t = rn [] t' := by
  have l1 := sb_len hs t
  have l2 := sb_len hu t'
  rw [e1] at l1
  rw [e2] at l2
  have hl : t.length = t'.length := by omega
  refine ⟨hl, ?_⟩
  have o1 := sb_one hs (t := t) (by rw [e1]; omega)
  have o2 := sb_one hu (t := t') (by rw [e2]; omega)
  have g1 : ∀ n ∈ t, n < 0 → s n = [(s n).headD 0] := fun n hn h0 => by obtain ⟨m, hm⟩ := o1 n hn h0; rw [hm]; rfl
  have g2 : ∀ n ∈ t', n < 0 → u n = [(u n).headD 0] := fun n hn h0 => by obtain ⟨m, hm⟩ := o2 n hn h0; rw [hm]; rfl
  have m1 := sb_map g1
  have m2 := sb_map g2
  rw [e1] at m1
  rw [e2] at m2
  have key : ∀ n ∈ t, n < 0 → (s n).headD 0 < 0 ∧ (u ((s n).headD 0)).headD 0 = n := by
    intro n hn h0
    obtain ⟨i, hi, rfl⟩ := List.mem_iff_getElem.1 hn
    have a1 : t'[i]? = some ((s t[i]).headD 0) := by rw [m1]; simp [hi, h0]
    have a2 : t[i]? = (t'[i]?).map fun x => if x < 0 then (u x).headD 0 else x := by rw [← List.getElem?_map, ← m2]
    rw [a1, Option.map_some, List.getElem?_eq_getElem hi] at a2
    have a3 := Option.some.inj a2
    by_cases h1 : (s t[i]).headD 0 < 0
    · rw [if_pos h1] at a3; exact ⟨h1, a3.symm⟩
    · rw [if_neg h1] at a3; omega
  have := rn_map (f := fun n => (s n).headD 0) (g := fun n => (u n).headD 0) (t := t) (ns := []) (by simp) key
  rw [← m1] at this
  exact this.symm
theorem gd_pos {b : Int → Nat} {s : Int → List Int} (h : Gd b s) : ∀ n, n < 0 → 1 ≤ (s n).length := fun n hn => (h n hn).pos
theorem Mgi.alike {b : Int → Nat} {A B T T' : List Int} (h : Mgi b A B T) (h' : Mgi b A B T') : T.length = T'.length ∧ rn [] T = rn [] T' := by
  obtain ⟨⟨s, hs, e1, e2⟩, hg⟩ := h
  obtain ⟨⟨s', hs', e1', e2'⟩, hg'⟩ := h'
  obtain ⟨u, hu, eu⟩ := hg s' hs' (by rw [e1', e2'])
  obtain ⟨u', hu', eu'⟩ := hg' s hs (by rw [e1, e2])
  rw [e1'] at eu
  rw [e1] at eu'
  exact rn_alike (gd_pos hu) (gd_pos hu') eu eu'
/-- A list's unfolding laid behind others: variables are numbered as they come. -/
def lys (f : List Int → Nat → List Int → Option (List Int × List Int)) : List Int → List Nat → List Int → Option (List Int × List Int)
  | out, [], ns => some (out, ns)
  | out, a :: cs, ns => (f out a ns).bind fun q => lys f q.1 cs q.2
def ly (G : Net) (R : Nat → Nat) (rep : Nat → Int) : Nat → List Int → Nat → List Int → Option (List Int × List Int)
  | 0, _, _, _ => none
  | k + 1, out, x, ns => if rep (R x) < 0 then some (out ++ rn ns [-(R x : Int) - 1], rns ns [-(R x : Int) - 1])
    else lys (ly G R rep k) (out ++ [G.sym (rep (R x)).toNat]) (G.args (rep (R x)).toNat) ns
theorem ly_law {b : Int → Nat} {G : Net} {ra rb : Nat} {R : Nat → Nat} {rep : Nat → Int} {st : List (Nat × Nat)} (h : Uni b G ra rb R rep st) : ∀ (k : Nat) (x : Nat) (T out ns : List Int), x < G.n → Unf G R rep [x] T → T.length ≤ k →
    ly G R rep k out x ns = some (out ++ rn ns T, rns ns T) := by
  intro k
  induction k with
  | zero => intro x T out ns _ u hk; have := u.len; simp at this; omega
  | succ k ih =>
    intro x T out ns hx u hk
    have key : ∀ (xs : List Nat) (T out ns : List Int), (∀ x ∈ xs, x < G.n) → Unf G R rep xs T → T.length ≤ k → lys (ly G R rep k) out xs ns = some (out ++ rn ns T, rns ns T) := by
      intro xs
      induction xs with
      | nil => intro T out ns _ u _; cases u; simp [lys, rn, rns]
      | cons y ys ihs =>
        intro T out ns hy u hT
        obtain ⟨U, V, rfl, u1, u2⟩ := Unf.split (xs := [y]) u
        rw [List.length_append] at hT
        simp only [lys]
        rw [ih y U out ns (hy y (by simp)) u1 (by omega), Option.bind_some, ihs V _ _ (fun z hz => hy z (by simp [hz])) u2 (by omega), rn_append, rns_append, List.append_assoc]
    simp only [ly]
    cases u with
    | var hv r => cases r; rw [if_pos hv]
    | @app _ _ T hp r =>
      rw [if_neg (by omega), List.append_nil] at *
      obtain ⟨f1, f2, f3⟩ := h.rep2 _ (h.lt x hx) (h.idem x hx) hp
      rw [key _ T _ ns (h.ok.arg _ f1 f2).2 r (by simpa using hk)]
      simp only [rn, rns, if_pos f2, List.append_assoc, List.singleton_append]
end Go.Proofs.Ytadjoaipmcbieaa
namespace Go.Proofs.Ytadjoaipmcbieaa
open Go.Proofs.YtadjoaipmcbieaaW.PrintWords
/-- The second term's variables, made unlike the first one's. -/
def tg (ap : Bool) (t : List Int) : List Int := if ap = true then t.map (fun n => if n < 0 then n - 1000 else n) else t
/-- What is told of two terms: an error's number, a term. -/
inductive UniR (b : Int → Nat) (A B : List Int) : Int → List Int → Prop
  | none (h : ∀ s, Gd b s → sb s A ≠ sb s B) : UniR b A B 60 []
  | long {T : List Int} (h : Mgi b A B T) (hl : 2000 < T.length) : UniR b A B 20 []
  | ok {T : List Int} (h : Mgi b A B T) (hl : T.length ≤ 2000) : UniR b A B 0 (rn [] T)
theorem Mgi.some {b : Int → Nat} {A B T : List Int} (h : Mgi b A B T) : ¬ ∀ s, Gd b s → sb s A ≠ sb s B := by
  obtain ⟨⟨s, hs, e1, e2⟩, _⟩ := h
  exact fun hn => hn s hs (by rw [e1, e2])
theorem UniR.det {b : Int → Nat} {A B : List Int} {e e' : Int} {t t' : List Int} (h : UniR b A B e t) (h' : UniR b A B e' t') : e = e' ∧ t = t' := by
  cases h with
  | none h => cases h' with
    | none _ => exact ⟨rfl, rfl⟩
    | long h2 _ => exact absurd h h2.some
    | ok h2 _ => exact absurd h h2.some
  | long h hl => cases h' with
    | none h2 => exact absurd h2 h.some
    | long _ _ => exact ⟨rfl, rfl⟩
    | ok h2 hl2 => have := (h.alike h2).1; omega
  | ok h hl => cases h' with
    | none h2 => exact absurd h2 h.some
    | long h2 hl2 => have := (h.alike h2).1; omega
    | ok h2 hl2 => exact ⟨rfl, (h.alike h2).2⟩
end Go.Proofs.Ytadjoaipmcbieaa

/-! Q3 -/
namespace Go.Proofs.Ytadjoaipmcbieaa
open Go.RowKit Go.Proofs.YtadjoaipmcbieaaW.PrintWords Go.Proofs.YtadjoaipmcbieaaW.PrintLast Go.Proofs.YtadjoaipmcbieaaW.PrintMore A
theorem rargs_l0 {l : List S89} (hl : GoodL l) {t : List Int} (hT : Ter l t) (ht : t.length ≤ 2000) {p : Nat} (hp : p < t.length) : ∀ (n j k nx : Nat) (done : List Nat), (j : Int) + n = ar l (rd t p) → (∀ x ∈ argsF l t n nx, x < t.length) → n + t.length < k → done.length + n ≤ 100 →
    ropewalkref02_Args.l0 k l t p (toI done) nx j = some (toI (done ++ argsF l t n nx))
  | 0, j, k + 1, nx, done, h, _, _, _ => by
    simp only [ropewalkref02_Args.l0]
    rw [if_pos (by omega), if_pos (by omega), rarity hl, Option.bind_some, if_neg (by omega)]
    simp [argsF]
  | n + 1, j, k + 1, nx, done, h, hv, hk, hd => by
    have hb := ar_bd hl (rd t p)
    have hnx : nx < t.length := hv nx (by simp [argsF])
    have he := endN_le hl hT hnx
    simp only [ropewalkref02_Args.l0]
    rw [if_pos (by omega), if_pos (by omega), rarity hl, Option.bind_some, if_pos (by omega), if_pos (by rw [toI_length]; omega), rend_ok hl ht nx (by omega) he.1 (by omega), Option.bind_some,
      wrap_id (by omega) (by omega), show (j : Int) + 1 = ((j + 1 : Nat) : Int) by omega, show toI done ++ [(nx : Int)] = toI (done ++ [nx]) by rw [toI_append]; rfl]
    rw [rargs_l0 hl hT ht hp n (j + 1) k (endN l t nx) (done ++ [nx]) (by omega) (fun x hx => hv x (by simp [argsF, hx])) (by omega) (by simp; omega)]
    simp [argsF]
theorem rargs {l : List S89} (hl : GoodL l) {t : List Int} (hT : Ter l t) (ht : t.length ≤ 2000) {p : Nat} (hp : p < t.length) {k : Nat} (hk : t.length + 8 < k) :
    ropewalkref02_Args.f k l t p = some (toI (argsL l t p)) := by
  have hb := ar_bd hl (rd t p)
  unfold ropewalkref02_Args.f
  rw [if_neg (by omega), decide_eq_false (by omega)]
  obtain ⟨k, rfl⟩ : ∃ k', k = k' + 1 := ⟨k - 1, by omega⟩
  simp only [ropewalkref02_Args.j0]
  rw [if_neg (by simp), wrap_id (by omega) (by omega), show (p : Int) + 1 = ((p + 1 : Nat) : Int) by omega]
  have := rargs_l0 hl hT ht hp (ar l (rd t p)).toNat 0 k (p + 1) [] (by omega) (fun x hx => (argsL_le hl hT hp x hx).2) (by omega) (by simp; omega)
  simpa [argsL, toI] using this
end Go.Proofs.Ytadjoaipmcbieaa

/-! S7 -/
namespace Go.Proofs.Ytadjoaipmcbieaa
open Go.RowKit Go.Proofs.YtadjoaipmcbieaaW.PrintWords Go.Proofs.YtadjoaipmcbieaaW.PrintLast Go.Proofs.YtadjoaipmcbieaaW.PrintMore A
theorem toI_at (xs : List Nat) (i : Nat) : rd (toI xs) i = (xs.getD i 0 : Nat) := by
  simp only [rd, toI, List.getD_eq_getElem?_getD, List.getElem?_map, Int.toNat_natCast]
  cases xs[i]? <;> rfl
end Go.Proofs.Ytadjoaipmcbieaa

/-! GE -/
namespace Go.Proofs.Ytadjoaipmcbieaa.A
open Go.RowKit Go.Proofs.YtadjoaipmcbieaaW.PrintWords Go.Proofs.YtadjoaipmcbieaaW.PrintLast Go.Proofs.YtadjoaipmcbieaaW.PrintMore
attribute [local go_sem] max2_int min2_int max_two min_two max_three min_three max_four min_four   -- for this text's walks alone
set_option linter.unusedVariables false
set_option linter.unusedSimpArgs false
def ropewalkref02_Sub.f (k : Nat) (l0 : List (S89)) (l1 : List Int) (a2 : Int) : Option (List Int) := if a2 < 0 then (some ([] : List Int)) else (if a2 ≥ (l1.length : Int) then (some ([] : List Int)) else ((some (([] : List Int) : List Int)).bind fun y184 => ((ropewalkref02_End.f k l0 l1 a2).bind fun t187 => (if 0 ≤ a2 then (if a2 ≤ t187 then (if t187 ≤ (l1.length : Int) then (if y184.length + ((l1.take (t187 : Int).toNat).drop (a2 : Int).toNat).length < 17592186044416 then (some (y184 ++ ((l1.take (t187 : Int).toNat).drop (a2 : Int).toNat))) else (none)) else (none)) else (none)) else (none)))))
set_option maxHeartbeats 8000000 in
set_option maxRecDepth 100000 in
theorem ropewalkref02_Sub.calls (k : Nat) (A0 : Option Addr) (c0 : Nat) (l0 : List (S89)) (A1 : Option Addr) (c1 : Nat) (l1 : List Int) (a2 : Int) (r : List Int) (w : World) (hr0 : Kd.C k89 w A0 l0.length l0) (hc0 : l0.length ≤ c0) (hr1 : Kd.C (Kd.int .i64) w A1 l1.length l1) (hc1 : l1.length ≤ c1) (h : ropewalkref02_Sub.f k l0 l1 a2 = some r) :
    Calls Try.prog 46 #[.slice A0 l0.length c0, .slice A1 l1.length c1, .int .i64 a2] w fun e w' => ∃ v0_ : Value, e = .returned (v0_) ∧ Kd.R (Kd.int .i64) 3 w' w.heap.size (fun _ => True) v0_ r ∧ Below w.heap.size w w' := by
  have HR0 := Aside0.mk hr0
  have HC0 := Aside0.mk hc0
  clear hr0 hc0
  have HR1 := Aside0.mk hr1
  have HC1 := Aside0.mk hc1
  clear hr1 hc1
  have HB := Aside0.mk (Below.refl w.heap.size w)
  have H : (if a2 < 0 then (some ([] : List Int)) else (if a2 ≥ (l1.length : Int) then (some ([] : List Int)) else ((some (([] : List Int) : List Int)).bind fun y184 => ((ropewalkref02_End.f k l0 l1 a2).bind fun t187 => (if 0 ≤ a2 then (if a2 ≤ t187 then (if t187 ≤ (l1.length : Int) then (if y184.length + ((l1.take (t187 : Int).toNat).drop (a2 : Int).toNat).length < 17592186044416 then (some (y184 ++ ((l1.take (t187 : Int).toNat).drop (a2 : Int).toNat))) else (none)) else (none)) else (none)) else (none)))))) = some r := h
  clear h
  by_cases c4 : a2 < 0
  · rw [if_pos c4] at H
    have c4b0 : decide (a2 < 0) = true := decide_eq_true c4
    clear c4
    obtain rfl := Option.some.inj H
    go_enter Try.func46, Try.ntmps46
    go_wp2
    go_ret
    exact ⟨_, by first | rfl | (simp [errW_none, errW_some] <;> rfl) | (simp [*, errW_none, errW_some] <;> rfl), by first | exact Kd.R_nil _ _ _ _ _ | exact Kd.N_nil _ _ _ _ _ | exact Kd.V_nil _ _ _ _ _ | exact Kd.Q_nil _ _ _ _ _ | exact Kd.S_nil _ _ _ _ _, by repeat (first | (with_reducible first | exact HB.out | apply below_alloc | apply pw_below_drewN | apply below_drew1) | exact HB.out)⟩
  · rw [if_neg c4] at H
    have c4b0 : decide (a2 < 0) = false := decide_eq_false c4
    clear c4
    by_cases c5 : a2 ≥ (l1.length : Int)
    · rw [if_pos c5] at H
      have c5b0 : decide ((l1.length : Int) ≤ a2) = true := decide_eq_true c5
      clear c5
      obtain rfl := Option.some.inj H
      go_enter Try.func46, Try.ntmps46
      go_wp2
      go_ret
      exact ⟨_, by first | rfl | (simp [errW_none, errW_some] <;> rfl) | (simp [*, errW_none, errW_some] <;> rfl), by first | exact Kd.R_nil _ _ _ _ _ | exact Kd.N_nil _ _ _ _ _ | exact Kd.V_nil _ _ _ _ _ | exact Kd.Q_nil _ _ _ _ _ | exact Kd.S_nil _ _ _ _ _, by repeat (first | (with_reducible first | exact HB.out | apply below_alloc | apply pw_below_drewN | apply below_drew1) | exact HB.out)⟩
    · rw [if_neg c5] at H
      have c5b0 : decide ((l1.length : Int) ≤ a2) = false := decide_eq_false c5
      clear c5
      obtain ⟨y184, hy184⟩ : ∃ y_ : List Int, y_ = (([] : List Int)) := ⟨_, rfl⟩
      replace H : ((ropewalkref02_End.f k l0 l1 a2).bind fun t187 => (if 0 ≤ a2 then (if a2 ≤ t187 then (if t187 ≤ (l1.length : Int) then (if y184.length + ((l1.take (t187 : Int).toNat).drop (a2 : Int).toNat).length < 17592186044416 then (some (y184 ++ ((l1.take (t187 : Int).toNat).drop (a2 : Int).toNat))) else (none)) else (none)) else (none)) else (none))) = some r := by first | (rw [hy184]; with_reducible exact H) | (have H2_ := (Option.bind_some _ _).symm.trans H; rw [hy184]; with_reducible exact H2_) | (have H2_ := (Option.bind_some _ _).symm.trans H; with_reducible exact H2_) | with_reducible exact H | (rw [hy184]; exact H) | exact H
      have Ny184 := Aside0.mk hy184
      clear hy184
      replace H := Option.bind_eq_some_iff.mp H
      obtain ⟨t187, A60, H⟩ := H
      replace H : (if 0 ≤ a2 then (if a2 ≤ t187 then (if t187 ≤ (l1.length : Int) then (if y184.length + ((l1.take (t187 : Int).toNat).drop (a2 : Int).toNat).length < 17592186044416 then (some (y184 ++ ((l1.take (t187 : Int).toNat).drop (a2 : Int).toNat))) else (none)) else (none)) else (none)) else (none)) = some r := H
      have A6 := Aside0.mk A60
      clear A60
      by_cases c7 : 0 ≤ a2
      · rw [if_pos c7] at H
        have c7b0 := eq_true c7
        have c7b1 : decide (0 ≤ a2) = true := decide_eq_true c7
        clear c7
        by_cases c8 : a2 ≤ t187
        · rw [if_pos c8] at H
          have c8b0 := eq_true c8
          have c8b1 : decide (a2 ≤ t187) = true := decide_eq_true c8
          clear c8
          by_cases c9 : t187 ≤ (l1.length : Int)
          · rw [if_pos c9] at H
            have c9b0 := eq_true c9
            have c9b1 : decide (t187 ≤ (l1.length : Int)) = true := decide_eq_true c9
            clear c9
            by_cases c10 : y184.length + ((l1.take (t187 : Int).toNat).drop (a2 : Int).toNat).length < 17592186044416
            · rw [if_pos c10] at H
              have LMc10 := Aside0.mk c10
              clear c10
              obtain ⟨y189, hy189⟩ : ∃ y_ : List Int, y_ = (y184 ++ ((l1.take (t187 : Int).toNat).drop (a2 : Int).toNat)) := ⟨_, rfl⟩
              replace H : (some y189) = some r := by first | (rw [hy189]; with_reducible exact H) | (have H2_ := (Option.bind_some _ _).symm.trans H; rw [hy189]; with_reducible exact H2_) | (have H2_ := (Option.bind_some _ _).symm.trans H; with_reducible exact H2_) | with_reducible exact H | (rw [hy189]; exact H) | exact H
              have Ny189 := Aside0.mk hy189
              clear hy189
              obtain rfl := Option.some.inj H
              go_enter Try.func46, Try.ntmps46
              go_wp2_with (first | ((with_reducible refine gate_dst (N := 15) rfl ?_); (try (refine gate_guard (by rfl) ?_; dsimp only)); refine Kd.R_lit (Kd.int .i64) _ 3 ?hg (N := 15) ?hd (xs := ([] : List Int)) (inner := []) (ok := fun _ => True) (okp := fun _ => True) ?hr ?hp (fun _ hk => hk) trivial (Below.refl _ _) (Nat.le_refl _) (by simp) ?_; (case hd => rfl); (case hg => rfl); (case hr => first | (go_simp; done) | (go_simp; rfl)); (case hp => exact (Reps.none _ _)); intro v185 w11 ho12 hb hg_ hnew_; clear hg_ hnew_; (first | rw [← Ny184.out] at ho12 | (simp only [Int.reduceToNat] at ho12; rw [← Ny184.out] at ho12)); have n0_ := Aside0.mk (Kd.R_lower ho12 (below_size (by repeat (first | (with_reducible first | exact HB.out | apply below_alloc | apply pw_below_drewN | apply below_drew1) | exact HB.out)))); have n1_ := Aside0.mk (below_step (by repeat (first | (with_reducible first | exact HB.out | apply below_alloc | apply pw_below_drewN | apply below_drew1) | exact HB.out)) hb); clear HB; have HO186 := n0_; have HB := n1_; clear n0_ n1_; clear hb ho12) | ((with_reducible refine gate_callee (f := 44) rfl ?_); refine goesL_ (some 21) rfl rfl Try.func44 (by kernel_rfl) rfl #[.slice A0 l0.length c0, .slice A1 l1.length c1, .int .i64 a2] rfl (by (try simp only [List.map_toArray, List.map_cons, List.map_nil]); first | done | rfl | (simp only [List.length_drop, List.length_take]; rfl)) ?_; (with_reducible refine (ropewalkref02_End.calls k _ _ l0 _ _ l1 a2 t187 _ ?side1 ?side2 ?side3 ?side4 A6.out).mono ?_); (case side1 => repeat (first | exact (Kd.C_below HR0.out HB.out) | (with_reducible refine Kd.C_alloc ?_ _) | (with_reducible refine Kd.C_drewN ?_ _) | (with_reducible refine Kd.C_drew ?_))); (case side2 => exact HC0.out); (case side3 => repeat (first | exact (Kd.C_below HR1.out HB.out) | (with_reducible refine Kd.C_alloc ?_ _) | (with_reducible refine Kd.C_drewN ?_ _) | (with_reducible refine Kd.C_drew ?_))); (case side4 => exact HC1.out); rintro e w' ⟨rfl, ⟨nd, rfl⟩⟩; refine ⟨_, rfl, ?_⟩; obtain ⟨i013, hi013, _, hsz13, _⟩ := info_parts info3; obtain ⟨A13, hcut13, hA13, hC13⟩ := print_mid_of (P := Try.prog) (Value.int .i64) 0 25 3 .i64 .i64 Try.underlying25 hi013 hsz13 A1 c1 l1 a2 t187 (of_decide_eq_true (by first | (with_reducible assumption) | assumption)) (by first | omega | exact of_decide_eq_true (by first | (with_reducible assumption) | assumption)) (of_decide_eq_true (by first | (with_reducible assumption) | assumption)) HC1.out; have HR188 := Aside0.mk (Kd.C_of_reads (h1 := fun _ => rfl) (hA13 _ (Kd.reads_of_C HR1.out))); have HC188 := Aside0.mk hC13; clear hA13 hC13 hi013 hsz13) | ((with_reducible refine gate_builtin (b := .append) (xs := #[.tmp 15, .tmp 22]) rfl ?_); (try (refine gate_guard (by rfl) ?_; dsimp only)); at_builtin; refine Kd.R_append_rows (Kd.int .i64) (w0 := w) w.heap.size rfl (.tmp 15) (.tmp 22) 25 3 (.int .i64 0) 8 rfl Try.underlying25 info3 rfl (by decide) (by omega) v185 y184 ((l1.take (t187 : Int).toNat).drop (a2 : Int).toNat) _ _ _ (fun _ => True) (fun _ => False) rfl rfl ?aO ?aR (fun _ _ h => h) (fun _ h => h.elim) ?aF ?aB ?aS ?aL ?_; (case aR => first | (rw [← show ((l1.take (t187 : Int).toNat).drop (a2 : Int).toNat).length = (t187.toNat - a2.toNat) from (by rw [List.length_drop, List.length_take]; have h_ : (t187 : Int) ≤ (l1.length : Int) := of_decide_eq_true (by first | (with_reducible assumption) | assumption); omega)]; repeat (first | exact (Kd.C_below HR188.out (by repeat (first | (with_reducible first | exact HB.out | apply below_alloc | apply pw_below_drewN | apply below_drew1) | exact HB.out))) | (with_reducible refine Kd.C_alloc ?_ _) | (with_reducible refine Kd.C_drewN ?_ _) | (with_reducible refine Kd.C_drew ?_))) | (repeat (first | exact (Kd.C_below HR188.out (by repeat (first | (with_reducible first | exact HB.out | apply below_alloc | apply pw_below_drewN | apply below_drew1) | exact HB.out))) | (with_reducible refine Kd.C_alloc ?_ _) | (with_reducible refine Kd.C_drewN ?_ _) | (with_reducible refine Kd.C_drew ?_)))); (case aB => exact (by repeat (first | (with_reducible first | exact HB.out | apply below_alloc | apply pw_below_drewN | apply below_drew1) | exact HB.out))); (case aF => exact (fun _ _ => trivial)); (case aO => exact (by (with_reducible repeat (first | apply Kd.R_alloc | apply Kd.R_drewN | apply Kd.R_drew)); exact HO186.out)); (case aS => exact (below_size (by repeat (first | (with_reducible first | exact HB.out | apply below_alloc | apply pw_below_drewN | apply below_drew1) | exact HB.out)))); (case aL => have := LMc10.out; have hlx_ := (show ((l1.take (t187 : Int).toNat).drop (a2 : Int).toNat).length = (t187.toNat - a2.toNat) from (by rw [List.length_drop, List.length_take]; have h_ : (t187 : Int) ≤ (l1.length : Int) := of_decide_eq_true (by first | (with_reducible assumption) | assumption); omega)); omega); intro v190 w14 ho hb hg hat; rw [← Ny189.out] at ho; have n0_ := Aside0.mk (hb); have n1_ := Aside0.mk (ho); clear HB; clear HO186; have HB := n0_; have HO191 := n1_; clear n0_ n1_; clear ho hb hg hat))
              go_ret
              exact ⟨_, by first | rfl | (simp [errW_none, errW_some] <;> rfl) | (simp [*, errW_none, errW_some] <;> rfl), by (with_reducible repeat (first | apply Kd.R_alloc | apply Kd.R_drewN | apply Kd.R_drew)); exact HO191.out, by repeat (first | (with_reducible first | exact HB.out | apply below_alloc | apply pw_below_drewN | apply below_drew1) | exact HB.out)⟩
            · rw [if_neg c10] at H
              exact absurd H (by simp)
          · rw [if_neg c9] at H
            exact absurd H (by simp)
        · rw [if_neg c8] at H
          exact absurd H (by simp)
      · rw [if_neg c7] at H
        exact absurd H (by simp)
end Go.Proofs.Ytadjoaipmcbieaa.A

/-! GF -/
namespace Go.Proofs.Ytadjoaipmcbieaa.A
end Go.Proofs.Ytadjoaipmcbieaa.A

/-! Q5 -/
namespace Go.Proofs.Ytadjoaipmcbieaa
open Go.RowKit Go.Proofs.YtadjoaipmcbieaaW.PrintWords Go.Proofs.YtadjoaipmcbieaaW.PrintLast Go.Proofs.YtadjoaipmcbieaaW.PrintMore A
theorem getD_mem {xs : List Nat} {i : Nat} (h : i < xs.length) : xs.getD i 0 ∈ xs := by
  rw [List.getD_eq_getElem?_getD, List.getElem?_eq_getElem h]; exact List.getElem_mem h
theorem rsub {l : List S89} (hl : GoodL l) {t : List Int} (hT : Ter l t) (ht : t.length ≤ 2000) {p : Nat} (hp : p < t.length) {k : Nat} (hk : t.length < k) : ropewalkref02_Sub.f k l t p = some (subL l t p) := by
  have he := endN_le hl hT hp
  unfold ropewalkref02_Sub.f
  rw [if_neg (by omega), if_neg (by omega), Option.bind_some, rend_ok hl ht p (by omega) he.1 hk, Option.bind_some, if_pos (by omega), if_pos (by omega), if_pos (by omega), if_pos (by simp; omega)]
  simp [subL]
section
variable {l : List S89} {t : List Int} {p h : Nat} {res : List Int}
end
theorem refArgs_ok (A : Option Addr) (c : Nat) (l : List S89) (B : Option Addr) (n d : Nat) (t : List Int) (p : Nat) (w : World) (hr : Kd.C k89 w A l.length l) (hc : l.length ≤ c) (hl : GoodL l)
    (ht : Kd.C (Kd.int .i64) w B n t) (hd : n ≤ d) (hk : plc l t p = 0) :
    Calls Try.prog 45 #[.slice A l.length c, .slice B n d, .int .i64 p] w fun e w' => ∃ v, e = .returned v ∧ Kd.R (Kd.int .i64) 3 w' w.heap.size (fun _ => True) v (toI (argsL l t p)) ∧ Below w.heap.size w w' := by
  obtain rfl : t.length = n := ht.1
  obtain ⟨h1, h2, h3⟩ := plc_ok hk
  exact ropewalkref02_Args.calls _ A c l B d t p _ w hr hc ht hd (rargs hl (chk_ter hl h1) (chk_len h1) (by omega) (Nat.lt_succ_self _))
theorem Args_okN (g : Nat) (l : List S89) (A : Option Addr) (c : Nat) (t : List Int) (p : Nat) (w : World) (hs : SigC w g l) (hl : GoodL l)
    (ht : Kd.C (Kd.int .i64) w A t.length t) (hp : plc l t p = 0) :
    Calls Try.prog 37 #[.pointer (some ⟨g, 0, none⟩), .slice A t.length c, .int .i64 p] w fun e w' => ∃ v, e = .returned (.tuple #[v, .int .i64 0]) ∧ Kd.R (Kd.int .i64) 3 w' w.heap.size (fun _ => True) v (toI (argsL l t p)) ∧ Below w.heap.size w w' := by
  obtain ⟨h1, h2, h3⟩ := plc_ok hp
  exact Args_ok g l A c t p w hs hl ht hp (fun x hx => Nat.le_of_lt (argsL_le hl (chk_ter hl h1) (show p < t.length by omega) x hx).2)
end Go.Proofs.Ytadjoaipmcbieaa
