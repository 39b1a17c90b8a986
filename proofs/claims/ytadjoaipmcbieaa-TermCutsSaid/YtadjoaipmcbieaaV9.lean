/- TermCuts: the walk of the law. Printed by wip/print_cuts.py. -/
import Derived.Test.YtadjoaipmcbieaaC1
import Derived.Test.YtadjoaipmcbieaaQ5
namespace Go.Proofs.Ytadjoaipmcbieaa
open Go.RowKit Go.Proofs.YtadjoaipmcbieaaW.PrintWords Go.Proofs.YtadjoaipmcbieaaW.PrintLast Go.Proofs.YtadjoaipmcbieaaW.PrintMore A
set_option linter.unusedSimpArgs false
set_option linter.unusedVariables false

set_option maxRecDepth 100000 in
set_option maxHeartbeats 4000000 in
theorem cuts_walk {A0 : Option Addr} {c0 : Nat} {L : List S89} {A1 : Option Addr} {c1 : Nat} {T : List Int} {p : Int} {A3 : Option Addr} {c3 : Nat} {U : List Int} {A4 : Option Addr} {c4 : Nat} {P : List Int} (w : World)
    (h : CaseIn w A0 c0 L A1 c1 T p A3 c3 U A4 c4 P) :
    Calls Try.prog 9 #[.agg #[.slice A0 L.length c0, .slice A1 T.length c1, .int .i64 p, .slice A3 U.length c3, .slice A4 P.length c4]] w fun e w' => e = .returned (.bool true) ∧ Below w.heap.size w w' := by
  have H0 := Aside0.mk (held_new h)
  have HN := Aside0.mk h
  have HB0 : Aside0 (Below w.heap.size w (w.alloc (.cells #[.slice A0 L.length c0, .slice A1 T.length c1, .int .i64 p, .slice A3 U.length c3, .slice A4 P.length c4] 27))) := ⟨below_alloc (Below.refl _ _) _⟩
  clear h
  go_enter Try.func9, Try.ntmps9
  go_wp2_with fail
  generalize w.alloc (.cells #[.slice A0 L.length c0, .slice A1 T.length c1, .int .i64 p, .slice A3 U.length c3, .slice A4 P.length c4] 27) = w1 at *
  refine (awake02 _).mono ?_
  rintro e w2 ⟨rfl, hb2⟩
  have B2 := Aside0.mk (below_then HB0.out HB0.out.size hb2)
  have H2 := Aside0.mk (H0.out.below hb2)
  clear hb2 H0 HB0
  obtain ⟨⟨k0, k1, k2, k3, k4⟩, -⟩ := H2.out
  go_wp2_with fail
  clear k0 k1 k2 k3 k4
  refine (made_any A0 c0 L _ H2.out.2.l HN.out.ln).mono ?_
  rintro e w3 ⟨g, v, rfl, hs, hr, hb3⟩
  obtain ⟨Ar, cr, rfl, hcr, hC⟩ := Kd.R_reads hr
  have GD := Aside0.mk (made_good L)
  have S3 : Aside0 (St w w3 g Ar (madeL L) A0 c0 L A1 c1 T p A3 c3 U A4 c4 P) := ⟨⟨below_then B2.out B2.out.size hb3, H2.out.below hb3, hs, hC⟩⟩
  have S := S3
  have B : Aside0 (Below w3.heap.size w3 w3) := ⟨Below.refl _ _⟩
  have HCR := Aside0.mk hcr
  clear hs hr hb3 hC H2 B2 hcr
  generalize madeL L = M at *
  obtain ⟨⟨k0, k1, k2, k3, k4⟩, -⟩ := S.out.h
  go_wp2_with fail
  clear k0 k1 k2 k3 k4
  refine (lent_any A1 c1 T _ S.out.h.2.t S.out.h.2.tl).mono ?_
  rintro e w4 ⟨gt, ct, rfl, hct, hrt, hb⟩
  have Z4 : Aside0 (w3.heap.size ≤ w4.heap.size) := ⟨hb.size⟩
  replace B := Aside0.mk (below_then B.out B.out.size hb)
  replace S := Aside0.mk (S3.out.below B.out)
  have RT := Aside0.mk (Rw.mk hrt)
  clear hrt
  clear hb
  have HCT := Aside0.mk hct
  clear hct
  obtain ⟨⟨k0, k1, k2, k3, k4⟩, -⟩ := S.out.h
  go_wp2_with fail
  clear k0 k1 k2 k3 k4
  by_cases h1 : plc M T p = 0
  · have e1 : (plc M T p == 0) = true := beq_iff_eq.2 h1
    refine (refplaces_any Ar cr M A1 _ c1 T p _ S.out.r HCR.out GD.out S.out.h.2.t S.out.h.2.tc).mono ?_
    rintro e w5 ⟨rfl, hd⟩
    have hb := hd.below
    have Z5 : Aside0 (w4.heap.size ≤ w5.heap.size) := ⟨hb.size⟩
    replace RT := Aside0.mk (RT.out.below hb)
    replace B := Aside0.mk (below_then B.out B.out.size hb)
    replace S := Aside0.mk (S3.out.below B.out)
    clear hb hd
    obtain ⟨⟨k0, k1, k2, k3, k4⟩, -⟩ := S.out.h
    go_wp2_with fail
    clear k0 k1 k2 k3 k4
    obtain ⟨h3, h4, h5⟩ := plc_ok h1
    obtain ⟨pn, rfl⟩ := Int.eq_ofNat_of_zero_le h4
    have h6 := chk_len h3
    have HTER := Aside0.mk (chk_ter GD.out h3)
    have HX : Aside0 (pn < T.length ∧ T.length ≤ 2000) := ⟨by omega, h6⟩
    clear h3 h4 h5 h6
    refine (refEnd_ok Ar cr M A1 _ c1 T pn _ S.out.r HCR.out GD.out S.out.h.2.t S.out.h.2.tc HX.out.2 (Nat.le_of_lt HX.out.1) (endN_le GD.out HTER.out HX.out.1).1).mono ?_
    rintro e w6 ⟨rfl, hd⟩
    have hb := hd.below
    have Z6 : Aside0 (w5.heap.size ≤ w6.heap.size) := ⟨hb.size⟩
    replace RT := Aside0.mk (RT.out.below hb)
    replace B := Aside0.mk (below_then B.out B.out.size hb)
    replace S := Aside0.mk (S3.out.below B.out)
    clear hb hd
    obtain ⟨⟨k0, k1, k2, k3, k4⟩, -⟩ := S.out.h
    go_wp2_with fail
    clear k0 k1 k2 k3 k4
    refine (refArgs_ok Ar cr M A1 _ c1 T pn _ S.out.r HCR.out GD.out S.out.h.2.t S.out.h.2.tc h1).mono ?_
    rintro e w7 ⟨vx, rfl, hrx, hb⟩
    have Z7 : Aside0 (w6.heap.size ≤ w7.heap.size) := ⟨hb.size⟩
    replace RT := Aside0.mk (RT.out.below hb)
    replace B := Aside0.mk (below_then B.out B.out.size hb)
    replace S := Aside0.mk (S3.out.below B.out)
    have RX := Aside0.mk (Rw.mk hrx)
    clear hrx
    clear hb
    obtain ⟨⟨k0, k1, k2, k3, k4⟩, -⟩ := S.out.h
    go_wp2_with fail
    clear k0 k1 k2 k3 k4
    refine (refSub_ok Ar cr M A1 _ c1 T pn _ S.out.r HCR.out GD.out S.out.h.2.t S.out.h.2.tc h1).mono ?_
    rintro e w8 ⟨vy, rfl, hry, hb⟩
    have Z8 : Aside0 (w7.heap.size ≤ w8.heap.size) := ⟨hb.size⟩
    replace RT := Aside0.mk (RT.out.below hb)
    replace RX := Aside0.mk (RX.out.below hb)
    replace B := Aside0.mk (below_then B.out B.out.size hb)
    replace S := Aside0.mk (S3.out.below B.out)
    have RY := Aside0.mk (Rw.mk hry)
    clear hry
    clear hb
    obtain ⟨⟨k0, k1, k2, k3, k4⟩, -⟩ := S.out.h
    go_wp2_with fail
    clear k0 k1 k2 k3 k4
    obtain ⟨path, HPR⟩ : ∃ r, PathR M T pn 0 r := path_exists GD.out HTER.out HX.out.1
    have HPR := Aside0.mk HPR
    refine (refPath_ok Ar cr M A1 _ c1 T pn _ S.out.r HCR.out GD.out S.out.h.2.t S.out.h.2.tc h1 HPR.out).mono ?_
    rintro e w9 ⟨vz, rfl, hrz, hb⟩
    have Z9 : Aside0 (w8.heap.size ≤ w9.heap.size) := ⟨hb.size⟩
    replace RT := Aside0.mk (RT.out.below hb)
    replace RX := Aside0.mk (RX.out.below hb)
    replace RY := Aside0.mk (RY.out.below hb)
    replace B := Aside0.mk (below_then B.out B.out.size hb)
    replace S := Aside0.mk (S3.out.below B.out)
    have RZ := Aside0.mk (Rw.mk hrz)
    clear hrz
    clear hb
    obtain ⟨⟨k0, k1, k2, k3, k4⟩, -⟩ := S.out.h
    go_wp2_with fail
    clear k0 k1 k2 k3 k4
    refine (End_okN g M (some ⟨gt, 0, none⟩) ct T pn _ S.out.s GD.out RT.out.front h1).mono ?_
    rintro e w10 ⟨rfl, hb⟩
    have Z10 : Aside0 (w9.heap.size ≤ w10.heap.size) := ⟨hb.size⟩
    replace RT := Aside0.mk (RT.out.below hb)
    replace RX := Aside0.mk (RX.out.below hb)
    replace RY := Aside0.mk (RY.out.below hb)
    replace RZ := Aside0.mk (RZ.out.below hb)
    replace B := Aside0.mk (below_then B.out B.out.size hb)
    replace S := Aside0.mk (S3.out.below B.out)
    clear hb
    obtain ⟨⟨k0, k1, k2, k3, k4⟩, -⟩ := S.out.h
    go_wp2_with fail
    clear k0 k1 k2 k3 k4
    refine (Args_okN g M (some ⟨gt, 0, none⟩) ct T pn _ S.out.s GD.out RT.out.front h1).mono ?_
    rintro e w11 ⟨va, rfl, hra, hb⟩
    have Z11 : Aside0 (w10.heap.size ≤ w11.heap.size) := ⟨hb.size⟩
    replace RT := Aside0.mk (RT.out.below hb)
    replace RX := Aside0.mk (RX.out.below hb)
    replace RY := Aside0.mk (RY.out.below hb)
    replace RZ := Aside0.mk (RZ.out.below hb)
    replace B := Aside0.mk (below_then B.out B.out.size hb)
    replace S := Aside0.mk (S3.out.below B.out)
    have RA := Aside0.mk (Rw.mk hra)
    clear hra
    clear hb
    obtain ⟨⟨k0, k1, k2, k3, k4⟩, -⟩ := S.out.h
    go_wp2_with fail
    clear k0 k1 k2 k3 k4
    refine (Args_okN g M (some ⟨gt, 0, none⟩) ct T pn _ S.out.s GD.out RT.out.front h1).mono ?_
    rintro e w12 ⟨vb, rfl, hrb, hb⟩
    have Z12 : Aside0 (w11.heap.size ≤ w12.heap.size) := ⟨hb.size⟩
    replace RT := Aside0.mk (RT.out.below hb)
    replace RX := Aside0.mk (RX.out.below hb)
    replace RY := Aside0.mk (RY.out.below hb)
    replace RZ := Aside0.mk (RZ.out.below hb)
    replace RA := Aside0.mk (RA.out.below hb)
    replace B := Aside0.mk (below_then B.out B.out.size hb)
    replace S := Aside0.mk (S3.out.below B.out)
    have RB := Aside0.mk (Rw.mk hrb)
    clear hrb
    clear hb
    obtain ⟨⟨k0, k1, k2, k3, k4⟩, -⟩ := S.out.h
    go_wp2_with fail
    clear k0 k1 k2 k3 k4
    refine (Sub_okN g M (some ⟨gt, 0, none⟩) ct T pn _ S.out.s GD.out RT.out.front (by have := HCT.out; omega) h1).mono ?_
    rintro e w13 ⟨vu, rfl, hru, hb⟩
    have Z13 : Aside0 (w12.heap.size ≤ w13.heap.size) := ⟨hb.size⟩
    replace RT := Aside0.mk (RT.out.below hb)
    replace RX := Aside0.mk (RX.out.below hb)
    replace RY := Aside0.mk (RY.out.below hb)
    replace RZ := Aside0.mk (RZ.out.below hb)
    replace RA := Aside0.mk (RA.out.below hb)
    replace RB := Aside0.mk (RB.out.below hb)
    replace B := Aside0.mk (below_then B.out B.out.size hb)
    replace S := Aside0.mk (S3.out.below B.out)
    have RU := Aside0.mk (Rw.mk hru)
    clear hru
    clear hb
    obtain ⟨⟨k0, k1, k2, k3, k4⟩, -⟩ := S.out.h
    go_wp2_with fail
    clear k0 k1 k2 k3 k4
    refine (Sub_okN g M (some ⟨gt, 0, none⟩) ct T pn _ S.out.s GD.out RT.out.front (by have := HCT.out; omega) h1).mono ?_
    rintro e w14 ⟨vv, rfl, hrv, hb⟩
    have Z14 : Aside0 (w13.heap.size ≤ w14.heap.size) := ⟨hb.size⟩
    replace RT := Aside0.mk (RT.out.below hb)
    replace RX := Aside0.mk (RX.out.below hb)
    replace RY := Aside0.mk (RY.out.below hb)
    replace RZ := Aside0.mk (RZ.out.below hb)
    replace RA := Aside0.mk (RA.out.below hb)
    replace RB := Aside0.mk (RB.out.below hb)
    replace RU := Aside0.mk (RU.out.below hb)
    replace B := Aside0.mk (below_then B.out B.out.size hb)
    replace S := Aside0.mk (S3.out.below B.out)
    have RV := Aside0.mk (Rw.mk hrv)
    clear hrv
    clear hb
    obtain ⟨⟨k0, k1, k2, k3, k4⟩, -⟩ := S.out.h
    go_wp2_with fail
    clear k0 k1 k2 k3 k4
    refine (Path_ok g M (some ⟨gt, 0, none⟩) ct T pn _ S.out.s GD.out RT.out.front h1).mono ?_
    rintro e w15 ⟨vp, rp, rfl, hpp, hrp, hb⟩
    obtain rfl := PathR.det HPR.out hpp
    clear hpp
    have Z15 : Aside0 (w14.heap.size ≤ w15.heap.size) := ⟨hb.size⟩
    replace RT := Aside0.mk (RT.out.below hb)
    replace RX := Aside0.mk (RX.out.below hb)
    replace RY := Aside0.mk (RY.out.below hb)
    replace RZ := Aside0.mk (RZ.out.below hb)
    replace RA := Aside0.mk (RA.out.below hb)
    replace RB := Aside0.mk (RB.out.below hb)
    replace RU := Aside0.mk (RU.out.below hb)
    replace RV := Aside0.mk (RV.out.below hb)
    replace B := Aside0.mk (below_then B.out B.out.size hb)
    replace S := Aside0.mk (S3.out.below B.out)
    have RP := Aside0.mk (Rw.mk hrp)
    clear hrp
    clear hb
    obtain ⟨⟨k0, k1, k2, k3, k4⟩, -⟩ := S.out.h
    go_wp2_with fail
    clear k0 k1 k2 k3 k4
    refine (Path_ok g M (some ⟨gt, 0, none⟩) ct T pn _ S.out.s GD.out RT.out.front h1).mono ?_
    rintro e w16 ⟨vq, rq, rfl, hpq, hrq, hb⟩
    obtain rfl := PathR.det HPR.out hpq
    clear hpq
    have Z16 : Aside0 (w15.heap.size ≤ w16.heap.size) := ⟨hb.size⟩
    replace RT := Aside0.mk (RT.out.below hb)
    replace RX := Aside0.mk (RX.out.below hb)
    replace RY := Aside0.mk (RY.out.below hb)
    replace RZ := Aside0.mk (RZ.out.below hb)
    replace RA := Aside0.mk (RA.out.below hb)
    replace RB := Aside0.mk (RB.out.below hb)
    replace RU := Aside0.mk (RU.out.below hb)
    replace RV := Aside0.mk (RV.out.below hb)
    replace RP := Aside0.mk (RP.out.below hb)
    replace B := Aside0.mk (below_then B.out B.out.size hb)
    replace S := Aside0.mk (S3.out.below B.out)
    have RQ := Aside0.mk (Rw.mk hrq)
    clear hrq
    clear hb
    obtain ⟨⟨k0, k1, k2, k3, k4⟩, -⟩ := S.out.h
    go_wp2_with fail
    clear k0 k1 k2 k3 k4
    refine (apart_rw w3 _ B.out (toI (argsL M T pn)) (by rw [toI_length]; unfold argsL; rw [argsF_length]; have := ar_bd GD.out (rd T pn); omega) (by have := Z4.out; have := Z5.out; have := Z6.out; have := Z7.out; have := Z8.out; have := Z9.out; have := Z10.out; have := Z11.out; have := Z12.out; have := Z13.out; have := Z14.out; have := Z15.out; have := Z16.out; omega) RA.out RB.out RX.out (by have := Z4.out; have := Z5.out; have := Z6.out; have := Z7.out; have := Z8.out; have := Z9.out; have := Z10.out; have := Z11.out; have := Z12.out; have := Z13.out; have := Z14.out; have := Z15.out; have := Z16.out; omega) (by have := Z4.out; have := Z5.out; have := Z6.out; have := Z7.out; have := Z8.out; have := Z9.out; have := Z10.out; have := Z11.out; have := Z12.out; have := Z13.out; have := Z14.out; have := Z15.out; have := Z16.out; omega)).mono ?_
    rintro e w17 ⟨rfl, hb, hk⟩
    have Z17 : Aside0 (w16.heap.size ≤ w17.heap.size) := ⟨hk.1⟩
    replace RT := Aside0.mk (RT.out.kept hk (fun k h1 h2 e => by have := Z4.out; have := Z5.out; have := Z6.out; have := Z7.out; have := Z8.out; have := Z9.out; have := Z10.out; have := Z11.out; have := Z12.out; have := Z13.out; have := Z14.out; have := Z15.out; have := Z16.out; omega))
    clear RX
    replace RY := Aside0.mk (RY.out.kept hk (fun k h1 h2 e => by have := Z4.out; have := Z5.out; have := Z6.out; have := Z7.out; have := Z8.out; have := Z9.out; have := Z10.out; have := Z11.out; have := Z12.out; have := Z13.out; have := Z14.out; have := Z15.out; have := Z16.out; omega))
    replace RZ := Aside0.mk (RZ.out.kept hk (fun k h1 h2 e => by have := Z4.out; have := Z5.out; have := Z6.out; have := Z7.out; have := Z8.out; have := Z9.out; have := Z10.out; have := Z11.out; have := Z12.out; have := Z13.out; have := Z14.out; have := Z15.out; have := Z16.out; omega))
    clear RA
    clear RB
    replace RU := Aside0.mk (RU.out.kept hk (fun k h1 h2 e => by have := Z4.out; have := Z5.out; have := Z6.out; have := Z7.out; have := Z8.out; have := Z9.out; have := Z10.out; have := Z11.out; have := Z12.out; have := Z13.out; have := Z14.out; have := Z15.out; have := Z16.out; omega))
    replace RV := Aside0.mk (RV.out.kept hk (fun k h1 h2 e => by have := Z4.out; have := Z5.out; have := Z6.out; have := Z7.out; have := Z8.out; have := Z9.out; have := Z10.out; have := Z11.out; have := Z12.out; have := Z13.out; have := Z14.out; have := Z15.out; have := Z16.out; omega))
    replace RP := Aside0.mk (RP.out.kept hk (fun k h1 h2 e => by have := Z4.out; have := Z5.out; have := Z6.out; have := Z7.out; have := Z8.out; have := Z9.out; have := Z10.out; have := Z11.out; have := Z12.out; have := Z13.out; have := Z14.out; have := Z15.out; have := Z16.out; omega))
    replace RQ := Aside0.mk (RQ.out.kept hk (fun k h1 h2 e => by have := Z4.out; have := Z5.out; have := Z6.out; have := Z7.out; have := Z8.out; have := Z9.out; have := Z10.out; have := Z11.out; have := Z12.out; have := Z13.out; have := Z14.out; have := Z15.out; have := Z16.out; omega))
    replace B := Aside0.mk hb
    replace S := Aside0.mk (S3.out.below B.out)
    clear hb hk
    obtain ⟨⟨k0, k1, k2, k3, k4⟩, -⟩ := S.out.h
    go_wp2_with fail
    clear k0 k1 k2 k3 k4
    refine (apart_rw w3 _ B.out (subL M T pn) (by have := HX.out; simp [subL]; omega) (by have := Z4.out; have := Z5.out; have := Z6.out; have := Z7.out; have := Z8.out; have := Z9.out; have := Z10.out; have := Z11.out; have := Z12.out; have := Z13.out; have := Z14.out; have := Z15.out; have := Z16.out; have := Z17.out; omega) RU.out RV.out RY.out (by have := Z4.out; have := Z5.out; have := Z6.out; have := Z7.out; have := Z8.out; have := Z9.out; have := Z10.out; have := Z11.out; have := Z12.out; have := Z13.out; have := Z14.out; have := Z15.out; have := Z16.out; have := Z17.out; omega) (by have := Z4.out; have := Z5.out; have := Z6.out; have := Z7.out; have := Z8.out; have := Z9.out; have := Z10.out; have := Z11.out; have := Z12.out; have := Z13.out; have := Z14.out; have := Z15.out; have := Z16.out; have := Z17.out; omega)).mono ?_
    rintro e w18 ⟨rfl, hb, hk⟩
    have Z18 : Aside0 (w17.heap.size ≤ w18.heap.size) := ⟨hk.1⟩
    replace RT := Aside0.mk (RT.out.kept hk (fun k h1 h2 e => by have := Z4.out; have := Z5.out; have := Z6.out; have := Z7.out; have := Z8.out; have := Z9.out; have := Z10.out; have := Z11.out; have := Z12.out; have := Z13.out; have := Z14.out; have := Z15.out; have := Z16.out; have := Z17.out; omega))
    clear RY
    replace RZ := Aside0.mk (RZ.out.kept hk (fun k h1 h2 e => by have := Z4.out; have := Z5.out; have := Z6.out; have := Z7.out; have := Z8.out; have := Z9.out; have := Z10.out; have := Z11.out; have := Z12.out; have := Z13.out; have := Z14.out; have := Z15.out; have := Z16.out; have := Z17.out; omega))
    clear RU
    clear RV
    replace RP := Aside0.mk (RP.out.kept hk (fun k h1 h2 e => by have := Z4.out; have := Z5.out; have := Z6.out; have := Z7.out; have := Z8.out; have := Z9.out; have := Z10.out; have := Z11.out; have := Z12.out; have := Z13.out; have := Z14.out; have := Z15.out; have := Z16.out; have := Z17.out; omega))
    replace RQ := Aside0.mk (RQ.out.kept hk (fun k h1 h2 e => by have := Z4.out; have := Z5.out; have := Z6.out; have := Z7.out; have := Z8.out; have := Z9.out; have := Z10.out; have := Z11.out; have := Z12.out; have := Z13.out; have := Z14.out; have := Z15.out; have := Z16.out; have := Z17.out; omega))
    replace B := Aside0.mk hb
    replace S := Aside0.mk (S3.out.below B.out)
    clear hb hk
    obtain ⟨⟨k0, k1, k2, k3, k4⟩, -⟩ := S.out.h
    go_wp2_with fail
    clear k0 k1 k2 k3 k4
    refine (apart_rw w3 _ B.out (toI path) (by rw [toI_length]; have := path_len0 GD.out HTER.out HX.out.1 HPR.out; have := HX.out; omega) (by have := Z4.out; have := Z5.out; have := Z6.out; have := Z7.out; have := Z8.out; have := Z9.out; have := Z10.out; have := Z11.out; have := Z12.out; have := Z13.out; have := Z14.out; have := Z15.out; have := Z16.out; have := Z17.out; have := Z18.out; omega) RP.out RQ.out RZ.out (by have := Z4.out; have := Z5.out; have := Z6.out; have := Z7.out; have := Z8.out; have := Z9.out; have := Z10.out; have := Z11.out; have := Z12.out; have := Z13.out; have := Z14.out; have := Z15.out; have := Z16.out; have := Z17.out; have := Z18.out; omega) (by have := Z4.out; have := Z5.out; have := Z6.out; have := Z7.out; have := Z8.out; have := Z9.out; have := Z10.out; have := Z11.out; have := Z12.out; have := Z13.out; have := Z14.out; have := Z15.out; have := Z16.out; have := Z17.out; have := Z18.out; omega)).mono ?_
    rintro e w19 ⟨rfl, hb, hk⟩
    have Z19 : Aside0 (w18.heap.size ≤ w19.heap.size) := ⟨hk.1⟩
    replace RT := Aside0.mk (RT.out.kept hk (fun k h1 h2 e => by have := Z4.out; have := Z5.out; have := Z6.out; have := Z7.out; have := Z8.out; have := Z9.out; have := Z10.out; have := Z11.out; have := Z12.out; have := Z13.out; have := Z14.out; have := Z15.out; have := Z16.out; have := Z17.out; have := Z18.out; omega))
    clear RZ
    clear RP
    clear RQ
    replace B := Aside0.mk hb
    replace S := Aside0.mk (S3.out.below B.out)
    clear hb hk
    obtain ⟨⟨k0, k1, k2, k3, k4⟩, -⟩ := S.out.h
    go_wp2_with fail
    clear k0 k1 k2 k3 k4
    refine (kept_any gt ct A1 c1 _ T _ RT.out.all S.out.h.2.t S.out.h.2.tc S.out.h.2.tl).mono ?_
    rintro e w20 ⟨rfl, hb, hk⟩
    have AT := Aside0.mk RT.out.at_
    have Z20 : Aside0 (w19.heap.size ≤ w20.heap.size) := ⟨hb.size⟩
    replace B : Aside0 (Below w3.heap.size w3 w20) := ⟨B.out.trans (hb.mono (by have := Z4.out; have := Z5.out; have := Z6.out; have := Z7.out; have := Z8.out; have := Z9.out; have := Z10.out; have := Z11.out; have := Z12.out; have := Z13.out; have := Z14.out; have := Z15.out; have := Z16.out; have := Z17.out; have := Z18.out; have := Z19.out; have := AT.out; omega))⟩
    replace S := Aside0.mk (S3.out.below B.out)
    clear hb hk AT RT
    go_wp2_with fail
    go_ret
    exact ⟨by simp, S.out.b⟩
  · have e1 : (plc M T p == 0) = false := beq_eq_false_iff_ne.2 h1
    refine (refplaces_any Ar cr M A1 _ c1 T p _ S.out.r HCR.out GD.out S.out.h.2.t S.out.h.2.tc).mono ?_
    rintro e w5 ⟨rfl, hd⟩
    have hb := hd.below
    have Z5 : Aside0 (w4.heap.size ≤ w5.heap.size) := ⟨hb.size⟩
    replace RT := Aside0.mk (RT.out.below hb)
    replace B := Aside0.mk (below_then B.out B.out.size hb)
    replace S := Aside0.mk (S3.out.below B.out)
    clear hb hd
    obtain ⟨⟨k0, k1, k2, k3, k4⟩, -⟩ := S.out.h
    go_wp2_with fail
    clear k0 k1 k2 k3 k4
    refine (End_bad g M (some ⟨gt, 0, none⟩) ct T p _ S.out.s GD.out RT.out.front h1).mono ?_
    rintro e w6 ⟨rfl, hb⟩
    have Z6 : Aside0 (w5.heap.size ≤ w6.heap.size) := ⟨hb.size⟩
    replace RT := Aside0.mk (RT.out.below hb)
    replace B := Aside0.mk (below_then B.out B.out.size hb)
    replace S := Aside0.mk (S3.out.below B.out)
    clear hb
    obtain ⟨⟨k0, k1, k2, k3, k4⟩, -⟩ := S.out.h
    go_wp2_with fail
    clear k0 k1 k2 k3 k4
    refine (Args_bad g M (some ⟨gt, 0, none⟩) ct T p _ S.out.s GD.out RT.out.front h1).mono ?_
    rintro e w7 ⟨rfl, hb⟩
    have Z7 : Aside0 (w6.heap.size ≤ w7.heap.size) := ⟨hb.size⟩
    replace RT := Aside0.mk (RT.out.below hb)
    replace B := Aside0.mk (below_then B.out B.out.size hb)
    replace S := Aside0.mk (S3.out.below B.out)
    have RA := Aside0.mk (Rw.nil w7 w6.heap.size w7.heap.size)
    clear hb
    obtain ⟨⟨k0, k1, k2, k3, k4⟩, -⟩ := S.out.h
    go_wp2_with fail
    clear k0 k1 k2 k3 k4
    refine (Args_bad g M (some ⟨gt, 0, none⟩) ct T p _ S.out.s GD.out RT.out.front h1).mono ?_
    rintro e w8 ⟨rfl, hb⟩
    have Z8 : Aside0 (w7.heap.size ≤ w8.heap.size) := ⟨hb.size⟩
    replace RT := Aside0.mk (RT.out.below hb)
    replace RA := Aside0.mk (RA.out.below hb)
    replace B := Aside0.mk (below_then B.out B.out.size hb)
    replace S := Aside0.mk (S3.out.below B.out)
    have RB := Aside0.mk (Rw.nil w8 w7.heap.size w8.heap.size)
    clear hb
    obtain ⟨⟨k0, k1, k2, k3, k4⟩, -⟩ := S.out.h
    go_wp2_with fail
    clear k0 k1 k2 k3 k4
    refine (Sub_bad g M (some ⟨gt, 0, none⟩) ct T p _ S.out.s GD.out RT.out.front h1).mono ?_
    rintro e w9 ⟨rfl, hb⟩
    have Z9 : Aside0 (w8.heap.size ≤ w9.heap.size) := ⟨hb.size⟩
    replace RT := Aside0.mk (RT.out.below hb)
    replace RA := Aside0.mk (RA.out.below hb)
    replace RB := Aside0.mk (RB.out.below hb)
    replace B := Aside0.mk (below_then B.out B.out.size hb)
    replace S := Aside0.mk (S3.out.below B.out)
    have RU := Aside0.mk (Rw.nil w9 w8.heap.size w9.heap.size)
    clear hb
    obtain ⟨⟨k0, k1, k2, k3, k4⟩, -⟩ := S.out.h
    go_wp2_with fail
    clear k0 k1 k2 k3 k4
    refine (Sub_bad g M (some ⟨gt, 0, none⟩) ct T p _ S.out.s GD.out RT.out.front h1).mono ?_
    rintro e w10 ⟨rfl, hb⟩
    have Z10 : Aside0 (w9.heap.size ≤ w10.heap.size) := ⟨hb.size⟩
    replace RT := Aside0.mk (RT.out.below hb)
    replace RA := Aside0.mk (RA.out.below hb)
    replace RB := Aside0.mk (RB.out.below hb)
    replace RU := Aside0.mk (RU.out.below hb)
    replace B := Aside0.mk (below_then B.out B.out.size hb)
    replace S := Aside0.mk (S3.out.below B.out)
    have RV := Aside0.mk (Rw.nil w10 w9.heap.size w10.heap.size)
    clear hb
    obtain ⟨⟨k0, k1, k2, k3, k4⟩, -⟩ := S.out.h
    go_wp2_with fail
    clear k0 k1 k2 k3 k4
    refine (Path_bad g M (some ⟨gt, 0, none⟩) ct T p _ S.out.s GD.out RT.out.front h1).mono ?_
    rintro e w11 ⟨rfl, hb⟩
    have Z11 : Aside0 (w10.heap.size ≤ w11.heap.size) := ⟨hb.size⟩
    replace RT := Aside0.mk (RT.out.below hb)
    replace RA := Aside0.mk (RA.out.below hb)
    replace RB := Aside0.mk (RB.out.below hb)
    replace RU := Aside0.mk (RU.out.below hb)
    replace RV := Aside0.mk (RV.out.below hb)
    replace B := Aside0.mk (below_then B.out B.out.size hb)
    replace S := Aside0.mk (S3.out.below B.out)
    have RP := Aside0.mk (Rw.nil w11 w10.heap.size w11.heap.size)
    clear hb
    obtain ⟨⟨k0, k1, k2, k3, k4⟩, -⟩ := S.out.h
    go_wp2_with fail
    clear k0 k1 k2 k3 k4
    refine (Path_bad g M (some ⟨gt, 0, none⟩) ct T p _ S.out.s GD.out RT.out.front h1).mono ?_
    rintro e w12 ⟨rfl, hb⟩
    have Z12 : Aside0 (w11.heap.size ≤ w12.heap.size) := ⟨hb.size⟩
    replace RT := Aside0.mk (RT.out.below hb)
    replace RA := Aside0.mk (RA.out.below hb)
    replace RB := Aside0.mk (RB.out.below hb)
    replace RU := Aside0.mk (RU.out.below hb)
    replace RV := Aside0.mk (RV.out.below hb)
    replace RP := Aside0.mk (RP.out.below hb)
    replace B := Aside0.mk (below_then B.out B.out.size hb)
    replace S := Aside0.mk (S3.out.below B.out)
    have RQ := Aside0.mk (Rw.nil w12 w11.heap.size w12.heap.size)
    clear hb
    obtain ⟨⟨k0, k1, k2, k3, k4⟩, -⟩ := S.out.h
    go_wp2_with fail
    clear k0 k1 k2 k3 k4
    have RX := Aside0.mk (Rw.nil w12 w12.heap.size w12.heap.size)
    have RY := Aside0.mk (Rw.nil w12 w12.heap.size w12.heap.size)
    have RZ := Aside0.mk (Rw.nil w12 w12.heap.size w12.heap.size)
    refine (apart_rw w3 _ B.out [] (by simp) (by have := Z4.out; have := Z5.out; have := Z6.out; have := Z7.out; have := Z8.out; have := Z9.out; have := Z10.out; have := Z11.out; have := Z12.out; omega) RA.out RB.out RX.out (by have := Z4.out; have := Z5.out; have := Z6.out; have := Z7.out; have := Z8.out; have := Z9.out; have := Z10.out; have := Z11.out; have := Z12.out; omega) (by have := Z4.out; have := Z5.out; have := Z6.out; have := Z7.out; have := Z8.out; have := Z9.out; have := Z10.out; have := Z11.out; have := Z12.out; omega)).mono ?_
    rintro e w13 ⟨rfl, hb, hk⟩
    have Z13 : Aside0 (w12.heap.size ≤ w13.heap.size) := ⟨hk.1⟩
    replace RT := Aside0.mk (RT.out.kept hk (fun k h1 h2 e => by have := Z4.out; have := Z5.out; have := Z6.out; have := Z7.out; have := Z8.out; have := Z9.out; have := Z10.out; have := Z11.out; have := Z12.out; omega))
    clear RA
    clear RB
    replace RU := Aside0.mk (RU.out.kept hk (fun k h1 h2 e => by have := Z4.out; have := Z5.out; have := Z6.out; have := Z7.out; have := Z8.out; have := Z9.out; have := Z10.out; have := Z11.out; have := Z12.out; omega))
    replace RV := Aside0.mk (RV.out.kept hk (fun k h1 h2 e => by have := Z4.out; have := Z5.out; have := Z6.out; have := Z7.out; have := Z8.out; have := Z9.out; have := Z10.out; have := Z11.out; have := Z12.out; omega))
    replace RP := Aside0.mk (RP.out.kept hk (fun k h1 h2 e => by have := Z4.out; have := Z5.out; have := Z6.out; have := Z7.out; have := Z8.out; have := Z9.out; have := Z10.out; have := Z11.out; have := Z12.out; omega))
    replace RQ := Aside0.mk (RQ.out.kept hk (fun k h1 h2 e => by have := Z4.out; have := Z5.out; have := Z6.out; have := Z7.out; have := Z8.out; have := Z9.out; have := Z10.out; have := Z11.out; have := Z12.out; omega))
    clear RX
    replace RY := Aside0.mk (RY.out.kept hk (fun k h1 h2 e => by have := Z4.out; have := Z5.out; have := Z6.out; have := Z7.out; have := Z8.out; have := Z9.out; have := Z10.out; have := Z11.out; have := Z12.out; omega))
    replace RZ := Aside0.mk (RZ.out.kept hk (fun k h1 h2 e => by have := Z4.out; have := Z5.out; have := Z6.out; have := Z7.out; have := Z8.out; have := Z9.out; have := Z10.out; have := Z11.out; have := Z12.out; omega))
    replace B := Aside0.mk hb
    replace S := Aside0.mk (S3.out.below B.out)
    clear hb hk
    obtain ⟨⟨k0, k1, k2, k3, k4⟩, -⟩ := S.out.h
    go_wp2_with fail
    clear k0 k1 k2 k3 k4
    refine (apart_rw w3 _ B.out [] (by simp) (by have := Z4.out; have := Z5.out; have := Z6.out; have := Z7.out; have := Z8.out; have := Z9.out; have := Z10.out; have := Z11.out; have := Z12.out; have := Z13.out; omega) RU.out RV.out RY.out (by have := Z4.out; have := Z5.out; have := Z6.out; have := Z7.out; have := Z8.out; have := Z9.out; have := Z10.out; have := Z11.out; have := Z12.out; have := Z13.out; omega) (by have := Z4.out; have := Z5.out; have := Z6.out; have := Z7.out; have := Z8.out; have := Z9.out; have := Z10.out; have := Z11.out; have := Z12.out; have := Z13.out; omega)).mono ?_
    rintro e w14 ⟨rfl, hb, hk⟩
    have Z14 : Aside0 (w13.heap.size ≤ w14.heap.size) := ⟨hk.1⟩
    replace RT := Aside0.mk (RT.out.kept hk (fun k h1 h2 e => by have := Z4.out; have := Z5.out; have := Z6.out; have := Z7.out; have := Z8.out; have := Z9.out; have := Z10.out; have := Z11.out; have := Z12.out; have := Z13.out; omega))
    clear RU
    clear RV
    replace RP := Aside0.mk (RP.out.kept hk (fun k h1 h2 e => by have := Z4.out; have := Z5.out; have := Z6.out; have := Z7.out; have := Z8.out; have := Z9.out; have := Z10.out; have := Z11.out; have := Z12.out; have := Z13.out; omega))
    replace RQ := Aside0.mk (RQ.out.kept hk (fun k h1 h2 e => by have := Z4.out; have := Z5.out; have := Z6.out; have := Z7.out; have := Z8.out; have := Z9.out; have := Z10.out; have := Z11.out; have := Z12.out; have := Z13.out; omega))
    clear RY
    replace RZ := Aside0.mk (RZ.out.kept hk (fun k h1 h2 e => by have := Z4.out; have := Z5.out; have := Z6.out; have := Z7.out; have := Z8.out; have := Z9.out; have := Z10.out; have := Z11.out; have := Z12.out; have := Z13.out; omega))
    replace B := Aside0.mk hb
    replace S := Aside0.mk (S3.out.below B.out)
    clear hb hk
    obtain ⟨⟨k0, k1, k2, k3, k4⟩, -⟩ := S.out.h
    go_wp2_with fail
    clear k0 k1 k2 k3 k4
    refine (apart_rw w3 _ B.out [] (by simp) (by have := Z4.out; have := Z5.out; have := Z6.out; have := Z7.out; have := Z8.out; have := Z9.out; have := Z10.out; have := Z11.out; have := Z12.out; have := Z13.out; have := Z14.out; omega) RP.out RQ.out RZ.out (by have := Z4.out; have := Z5.out; have := Z6.out; have := Z7.out; have := Z8.out; have := Z9.out; have := Z10.out; have := Z11.out; have := Z12.out; have := Z13.out; have := Z14.out; omega) (by have := Z4.out; have := Z5.out; have := Z6.out; have := Z7.out; have := Z8.out; have := Z9.out; have := Z10.out; have := Z11.out; have := Z12.out; have := Z13.out; have := Z14.out; omega)).mono ?_
    rintro e w15 ⟨rfl, hb, hk⟩
    have Z15 : Aside0 (w14.heap.size ≤ w15.heap.size) := ⟨hk.1⟩
    replace RT := Aside0.mk (RT.out.kept hk (fun k h1 h2 e => by have := Z4.out; have := Z5.out; have := Z6.out; have := Z7.out; have := Z8.out; have := Z9.out; have := Z10.out; have := Z11.out; have := Z12.out; have := Z13.out; have := Z14.out; omega))
    clear RP
    clear RQ
    clear RZ
    replace B := Aside0.mk hb
    replace S := Aside0.mk (S3.out.below B.out)
    clear hb hk
    obtain ⟨⟨k0, k1, k2, k3, k4⟩, -⟩ := S.out.h
    go_wp2_with fail
    clear k0 k1 k2 k3 k4
    refine (kept_any gt ct A1 c1 _ T _ RT.out.all S.out.h.2.t S.out.h.2.tc S.out.h.2.tl).mono ?_
    rintro e w16 ⟨rfl, hb, hk⟩
    have AT := Aside0.mk RT.out.at_
    have Z16 : Aside0 (w15.heap.size ≤ w16.heap.size) := ⟨hb.size⟩
    replace B : Aside0 (Below w3.heap.size w3 w16) := ⟨B.out.trans (hb.mono (by have := Z4.out; have := Z5.out; have := Z6.out; have := Z7.out; have := Z8.out; have := Z9.out; have := Z10.out; have := Z11.out; have := Z12.out; have := Z13.out; have := Z14.out; have := Z15.out; have := AT.out; omega))⟩
    replace S := Aside0.mk (S3.out.below B.out)
    clear hb hk AT RT
    go_wp2_with fail
    go_ret
    exact ⟨by simp, S.out.b⟩
end Go.Proofs.Ytadjoaipmcbieaa
