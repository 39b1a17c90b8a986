/- TermChecks: the walk of the law. Printed by wip/print_checks.py. -/
import Derived.Test.YtadjoaipmcbieaaC1
import Derived.Test.YtadjoaipmcbieaaQ4
namespace Go.Proofs.Ytadjoaipmcbieaa
open Go.RowKit Go.Proofs.YtadjoaipmcbieaaW.PrintWords Go.Proofs.YtadjoaipmcbieaaW.PrintLast Go.Proofs.YtadjoaipmcbieaaW.PrintMore A
set_option linter.unusedSimpArgs false
set_option linter.unusedVariables false

set_option maxRecDepth 100000 in
set_option maxHeartbeats 4000000 in
theorem checks_walk {A0 : Option Addr} {c0 : Nat} {L : List S89} {A1 : Option Addr} {c1 : Nat} {T : List Int} {p : Int} {A3 : Option Addr} {c3 : Nat} {U : List Int} {A4 : Option Addr} {c4 : Nat} {P : List Int} (w : World)
    (h : CaseIn w A0 c0 L A1 c1 T p A3 c3 U A4 c4 P) :
    Calls Try.prog 7 #[.agg #[.slice A0 L.length c0, .slice A1 T.length c1, .int .i64 p, .slice A3 U.length c3, .slice A4 P.length c4]] w fun e w' => e = .returned (.bool true) ∧ Below w.heap.size w w' := by
  have H0 := Aside0.mk (held_new h)
  have HN := Aside0.mk h
  have HB0 : Aside0 (Below w.heap.size w (w.alloc (.cells #[.slice A0 L.length c0, .slice A1 T.length c1, .int .i64 p, .slice A3 U.length c3, .slice A4 P.length c4] 27))) := ⟨below_alloc (Below.refl _ _) _⟩
  clear h
  go_enter Try.func7, Try.ntmps7
  go_wp2_with fail
  generalize w.alloc (.cells #[.slice A0 L.length c0, .slice A1 T.length c1, .int .i64 p, .slice A3 U.length c3, .slice A4 P.length c4] 27) = w1 at *
  refine (awake02 _).mono ?_
  rintro e w2 ⟨rfl, hb2⟩
  have B2 := Aside0.mk (below_then HB0.out HB0.out.size hb2)
  have H2 := Aside0.mk (H0.out.below hb2)
  clear hb2 H0 HB0
  obtain ⟨⟨k0, k1, k2, k3, k4⟩, -⟩ := H2.out
  go_wp2_with fail
  clear k0 k1 k2 k3 k4
  refine (made_any A0 c0 L _ H2.out.2.l HN.out.ln).mono ?_
  rintro e w3 ⟨g, v, rfl, hs, hr, hb3⟩
  obtain ⟨Ar, cr, rfl, hcr, hC⟩ := Kd.R_reads hr
  have GD := Aside0.mk (made_good L)
  have S3 : Aside0 (St w w3 g Ar (madeL L) A0 c0 L A1 c1 T p A3 c3 U A4 c4 P) := ⟨⟨below_then B2.out B2.out.size hb3, H2.out.below hb3, hs, hC⟩⟩
  have S := S3
  have B : Aside0 (Below w3.heap.size w3 w3) := ⟨Below.refl _ _⟩
  have HCR := Aside0.mk hcr
  clear hs hr hb3 hC H2 B2 hcr
  generalize madeL L = M at *
  obtain ⟨⟨k0, k1, k2, k3, k4⟩, -⟩ := S.out.h
  go_wp2_with fail
  clear k0 k1 k2 k3 k4
  refine (lent_any A1 c1 T _ S.out.h.2.t S.out.h.2.tl).mono ?_
  rintro e w4 ⟨gt, ct, rfl, hct, hrt, hb⟩
  have Z4 : Aside0 (w3.heap.size ≤ w4.heap.size) := ⟨hb.size⟩
  replace B := Aside0.mk (below_then B.out B.out.size hb)
  replace S := Aside0.mk (S3.out.below B.out)
  have RT := Aside0.mk (Rw.mk hrt)
  clear hrt
  clear hb
  have HCT := Aside0.mk hct
  clear hct
  obtain ⟨⟨k0, k1, k2, k3, k4⟩, -⟩ := S.out.h
  go_wp2_with fail
  clear k0 k1 k2 k3 k4
  refine (check_any g M (some ⟨gt, 0, none⟩) ct T _ S.out.s GD.out RT.out.front).mono ?_
  rintro e w5 ⟨rfl, hb⟩
  have Z5 : Aside0 (w4.heap.size ≤ w5.heap.size) := ⟨hb.size⟩
  replace RT := Aside0.mk (RT.out.below hb)
  replace B := Aside0.mk (below_then B.out B.out.size hb)
  replace S := Aside0.mk (S3.out.below B.out)
  clear hb
  obtain ⟨⟨k0, k1, k2, k3, k4⟩, -⟩ := S.out.h
  go_wp2_with fail
  clear k0 k1 k2 k3 k4
  by_cases h1 : chk M T = 0
  · have e1 : (chk M T == 0) = true := beq_iff_eq.2 h1
    refine (Depth_ok g M (some ⟨gt, 0, none⟩) ct T _ S.out.s GD.out RT.out.front h1).mono ?_
    rintro e w6 ⟨D, rfl, hD, hb⟩
    have Z6 : Aside0 (w5.heap.size ≤ w6.heap.size) := ⟨hb.size⟩
    replace RT := Aside0.mk (RT.out.below hb)
    replace B := Aside0.mk (below_then B.out B.out.size hb)
    replace S := Aside0.mk (S3.out.below B.out)
    clear hb
    have HD := Aside0.mk hD
    clear hD
    obtain ⟨⟨k0, k1, k2, k3, k4⟩, -⟩ := S.out.h
    go_wp2_with fail
    clear k0 k1 k2 k3 k4
    refine (refCheck_any Ar cr M A1 _ c1 T _ S.out.r HCR.out GD.out S.out.h.2.t S.out.h.2.tc).mono ?_
    rintro e w7 ⟨rfl, hd⟩
    have hb := hd.below
    have Z7 : Aside0 (w6.heap.size ≤ w7.heap.size) := ⟨hb.size⟩
    replace RT := Aside0.mk (RT.out.below hb)
    replace B := Aside0.mk (below_then B.out B.out.size hb)
    replace S := Aside0.mk (S3.out.below B.out)
    clear hb hd
    obtain ⟨⟨k0, k1, k2, k3, k4⟩, -⟩ := S.out.h
    go_wp2_with fail
    clear k0 k1 k2 k3 k4
    refine (refDepth_any Ar cr M A1 _ c1 T _ S.out.r HCR.out GD.out S.out.h.2.t S.out.h.2.tc h1 HD.out).mono ?_
    rintro e w8 ⟨rfl, hb⟩
    have Z8 : Aside0 (w7.heap.size ≤ w8.heap.size) := ⟨hb.size⟩
    replace RT := Aside0.mk (RT.out.below hb)
    replace B := Aside0.mk (below_then B.out B.out.size hb)
    replace S := Aside0.mk (S3.out.below B.out)
    clear hb
    obtain ⟨⟨k0, k1, k2, k3, k4⟩, -⟩ := S.out.h
    go_wp2_with fail
    clear k0 k1 k2 k3 k4
    refine (kept_any gt ct A1 c1 _ T _ RT.out.all S.out.h.2.t S.out.h.2.tc S.out.h.2.tl).mono ?_
    rintro e w9 ⟨rfl, hb, hk⟩
    have AT := Aside0.mk RT.out.at_
    have Z9 : Aside0 (w8.heap.size ≤ w9.heap.size) := ⟨hb.size⟩
    replace B : Aside0 (Below w3.heap.size w3 w9) := ⟨B.out.trans (hb.mono (by have := Z4.out; have := Z5.out; have := Z6.out; have := Z7.out; have := Z8.out; have := AT.out; omega))⟩
    replace S := Aside0.mk (S3.out.below B.out)
    clear hb hk AT RT
    go_wp2_with fail
    go_ret
    exact ⟨by simp, S.out.b⟩
  · have e1 : (chk M T == 0) = false := beq_eq_false_iff_ne.2 h1
    refine (Depth_bad g M (some ⟨gt, 0, none⟩) ct T _ S.out.s GD.out RT.out.front h1).mono ?_
    rintro e w6 ⟨rfl, hb⟩
    have Z6 : Aside0 (w5.heap.size ≤ w6.heap.size) := ⟨hb.size⟩
    replace RT := Aside0.mk (RT.out.below hb)
    replace B := Aside0.mk (below_then B.out B.out.size hb)
    replace S := Aside0.mk (S3.out.below B.out)
    clear hb
    obtain ⟨⟨k0, k1, k2, k3, k4⟩, -⟩ := S.out.h
    go_wp2_with fail
    clear k0 k1 k2 k3 k4
    refine (refCheck_any Ar cr M A1 _ c1 T _ S.out.r HCR.out GD.out S.out.h.2.t S.out.h.2.tc).mono ?_
    rintro e w7 ⟨rfl, hd⟩
    have hb := hd.below
    have Z7 : Aside0 (w6.heap.size ≤ w7.heap.size) := ⟨hb.size⟩
    replace RT := Aside0.mk (RT.out.below hb)
    replace B := Aside0.mk (below_then B.out B.out.size hb)
    replace S := Aside0.mk (S3.out.below B.out)
    clear hb hd
    obtain ⟨⟨k0, k1, k2, k3, k4⟩, -⟩ := S.out.h
    go_wp2_with fail
    clear k0 k1 k2 k3 k4
    refine (kept_any gt ct A1 c1 _ T _ RT.out.all S.out.h.2.t S.out.h.2.tc S.out.h.2.tl).mono ?_
    rintro e w8 ⟨rfl, hb, hk⟩
    have AT := Aside0.mk RT.out.at_
    have Z8 : Aside0 (w7.heap.size ≤ w8.heap.size) := ⟨hb.size⟩
    replace B : Aside0 (Below w3.heap.size w3 w8) := ⟨B.out.trans (hb.mono (by have := Z4.out; have := Z5.out; have := Z6.out; have := Z7.out; have := AT.out; omega))⟩
    replace S := Aside0.mk (S3.out.below B.out)
    clear hb hk AT RT
    go_wp2_with fail
    go_ret
    exact ⟨by simp, S.out.b⟩
end Go.Proofs.Ytadjoaipmcbieaa
