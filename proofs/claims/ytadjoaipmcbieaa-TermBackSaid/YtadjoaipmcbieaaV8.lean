/- TermBack: the walk of the law. Printed by wip/print_back.py. -/
import Derived.Test.YtadjoaipmcbieaaC1
import Derived.Test.YtadjoaipmcbieaaB0
namespace Go.Proofs.Ytadjoaipmcbieaa
open Go.RowKit Go.Proofs.YtadjoaipmcbieaaW.PrintWords Go.Proofs.YtadjoaipmcbieaaW.PrintLast Go.Proofs.YtadjoaipmcbieaaW.PrintMore A
set_option linter.unusedSimpArgs false
set_option linter.unusedVariables false

set_option maxRecDepth 100000 in
set_option maxHeartbeats 4000000 in
theorem back_walk {A0 : Option Addr} {c0 : Nat} {L : List S89} {A1 : Option Addr} {c1 : Nat} {T : List Int} {p : Int} {A3 : Option Addr} {c3 : Nat} {U : List Int} {A4 : Option Addr} {c4 : Nat} {P : List Int} (w : World)
    (h : CaseIn w A0 c0 L A1 c1 T p A3 c3 U A4 c4 P) :
    Calls Try.prog 8 #[.agg #[.slice A0 L.length c0, .slice A1 T.length c1, .int .i64 p, .slice A3 U.length c3, .slice A4 P.length c4]] w fun e w' => e = .returned (.bool true) ∧ Below w.heap.size w w' := by
  have H0 := Aside0.mk (held_new h)
  have HN := Aside0.mk h
  have HB0 : Aside0 (Below w.heap.size w (w.alloc (.cells #[.slice A0 L.length c0, .slice A1 T.length c1, .int .i64 p, .slice A3 U.length c3, .slice A4 P.length c4] 27))) := ⟨below_alloc (Below.refl _ _) _⟩
  clear h
  go_enter Try.func8, Try.ntmps8
  go_wp2_with fail
  generalize w.alloc (.cells #[.slice A0 L.length c0, .slice A1 T.length c1, .int .i64 p, .slice A3 U.length c3, .slice A4 P.length c4] 27) = w1 at *
  refine (awake02 _).mono ?_
  rintro e w2 ⟨rfl, hb2⟩
  have B2 := Aside0.mk (below_then HB0.out HB0.out.size hb2)
  have H2 := Aside0.mk (H0.out.below hb2)
  clear hb2 H0 HB0
  obtain ⟨⟨k0, k1, k2, k3, k4⟩, -⟩ := H2.out
  go_wp2_with fail
  clear k0 k1 k2 k3 k4
  refine (made_any A0 c0 L _ H2.out.2.l HN.out.ln).mono ?_
  rintro e w3 ⟨g, v, rfl, hs, hr, hb3⟩
  obtain ⟨Ar, cr, rfl, hcr, hC⟩ := Kd.R_reads hr
  have GD := Aside0.mk (made_good L)
  have S3 : Aside0 (St w w3 g Ar (madeL L) A0 c0 L A1 c1 T p A3 c3 U A4 c4 P) := ⟨⟨below_then B2.out B2.out.size hb3, H2.out.below hb3, hs, hC⟩⟩
  have S := S3
  have B : Aside0 (Below w3.heap.size w3 w3) := ⟨Below.refl _ _⟩
  have HCR := Aside0.mk hcr
  clear hs hr hb3 hC H2 B2 hcr
  generalize madeL L = M at *
  obtain ⟨⟨k0, k1, k2, k3, k4⟩, -⟩ := S.out.h
  go_wp2_with fail
  clear k0 k1 k2 k3 k4
  by_cases h1 : plc M T p = 0
  · have e1 : (plc M T p != 0) = false := bne_eq_false_iff_eq.2 h1
    refine (refplaces_any Ar cr M A1 _ c1 T p _ S.out.r HCR.out GD.out S.out.h.2.t S.out.h.2.tc).mono ?_
    rintro e w4 ⟨rfl, hd⟩
    have hb := hd.below
    have Z4 : Aside0 (w3.heap.size ≤ w4.heap.size) := ⟨hb.size⟩
    replace B := Aside0.mk (below_then B.out B.out.size hb)
    replace S := Aside0.mk (S3.out.below B.out)
    clear hb hd
    obtain ⟨⟨k0, k1, k2, k3, k4⟩, -⟩ := S.out.h
    go_wp2_with fail
    clear k0 k1 k2 k3 k4
    by_cases h2 : chk M U = 0
    · have e2 : (chk M U != 0) = false := bne_eq_false_iff_eq.2 h2
      obtain ⟨h3, h4, h5⟩ := plc_ok h1
      obtain ⟨pn, rfl⟩ := Int.eq_ofNat_of_zero_le h4
      have h6 := chk_len h3
      have HTER := Aside0.mk (chk_ter GD.out h3)
      have HUER := Aside0.mk (chk_ter GD.out h2)
      have HX : Aside0 (pn < T.length ∧ T.length ≤ 2000 ∧ U.length ≤ 2000) := ⟨by omega, h6, chk_len h2⟩
      have HC := Aside0.mk h3
      clear h3 h4 h5 h6
      refine (refCheck_any Ar cr M A3 _ c3 U _ S.out.r HCR.out GD.out S.out.h.2.u S.out.h.2.uc).mono ?_
      rintro e w5 ⟨rfl, hd⟩
      have hb := hd.below
      have Z5 : Aside0 (w4.heap.size ≤ w5.heap.size) := ⟨hb.size⟩
      replace B := Aside0.mk (below_then B.out B.out.size hb)
      replace S := Aside0.mk (S3.out.below B.out)
      clear hb hd
      obtain ⟨⟨k0, k1, k2, k3, k4⟩, -⟩ := S.out.h
      go_wp2_with fail
      clear k0 k1 k2 k3 k4
      refine (Sub_okN g M A1 c1 T pn _ S.out.s GD.out S.out.h.2.t S.out.h.2.tc h1).mono ?_
      rintro e w6 ⟨vs, rfl, hrs, hb⟩
      have Z6 : Aside0 (w5.heap.size ≤ w6.heap.size) := ⟨hb.size⟩
      replace B := Aside0.mk (below_then B.out B.out.size hb)
      replace S := Aside0.mk (S3.out.below B.out)
      have RS := Aside0.mk (Rw.mk hrs)
      clear hrs
      clear hb
      obtain ⟨As, cs, rfl, hcs, -⟩ := RS.out.reads
      have Hhcs := Aside0.mk hcs
      clear hcs
      obtain ⟨⟨k0, k1, k2, k3, k4⟩, -⟩ := S.out.h
      go_wp2_with fail
      clear k0 k1 k2 k3 k4
      refine (Put_ok g M A1 As c1 cs T (subL M T pn) pn _ S.out.s GD.out S.out.h.2.t S.out.h.2.tc (Kd.R_reads' RS.out).2.2 h1 (sub_chk GD.out HC.out HX.out.1) (by rw [put_self (l := M) (endN_le GD.out HTER.out HX.out.1).1 (Nat.le_of_lt (endN_le GD.out HTER.out HX.out.1).2)]; exact HX.out.2.1)).mono ?_
      rintro e w7 ⟨vt, rfl, hrt, hb⟩
      rw [put_self (l := M) (endN_le GD.out HTER.out HX.out.1).1 (Nat.le_of_lt (endN_le GD.out HTER.out HX.out.1).2)] at hrt
      have Z7 : Aside0 (w6.heap.size ≤ w7.heap.size) := ⟨hb.size⟩
      replace RS := Aside0.mk (RS.out.below hb)
      replace B := Aside0.mk (below_then B.out B.out.size hb)
      replace S := Aside0.mk (S3.out.below B.out)
      have RT := Aside0.mk (Rw.mk hrt)
      clear hrt
      clear hb
      obtain ⟨At, ct, rfl, hct, -⟩ := RT.out.reads
      have Hhct := Aside0.mk hct
      clear hct
      obtain ⟨⟨k0, k1, k2, k3, k4⟩, -⟩ := S.out.h
      go_wp2_with fail
      clear k0 k1 k2 k3 k4
      refine (same_n At _ ct T A1 _ c1 T _ (Kd.R_reads' RT.out).2.2 Hhct.out S.out.h.2.t S.out.h.2.tc).mono ?_
      rintro e w8 ⟨rfl, hd⟩
      have hb := hd.below
      rw [show decide (T = T) = true from decide_eq_true rfl]
      have Z8 : Aside0 (w7.heap.size ≤ w8.heap.size) := ⟨hb.size⟩
      replace RS := Aside0.mk (RS.out.below hb)
      replace RT := Aside0.mk (RT.out.below hb)
      replace B := Aside0.mk (below_then B.out B.out.size hb)
      replace S := Aside0.mk (S3.out.below B.out)
      clear hb hd
      obtain ⟨⟨k0, k1, k2, k3, k4⟩, -⟩ := S.out.h
      go_wp2_with fail
      clear k0 k1 k2 k3 k4
      refine (Path_ok g M A1 c1 T pn _ S.out.s GD.out S.out.h.2.t h1).mono ?_
      rintro e w9 ⟨vp, rp, rfl, hpp, hrp, hb⟩
      have Z9 : Aside0 (w8.heap.size ≤ w9.heap.size) := ⟨hb.size⟩
      replace RS := Aside0.mk (RS.out.below hb)
      replace RT := Aside0.mk (RT.out.below hb)
      replace B := Aside0.mk (below_then B.out B.out.size hb)
      replace S := Aside0.mk (S3.out.below B.out)
      have RP := Aside0.mk (Rw.mk hrp)
      clear hrp
      clear hb
      have HPP := Aside0.mk hpp
      clear hpp
      obtain ⟨Ap, cp, rfl, hcp, -⟩ := RP.out.reads
      have Hhcp := Aside0.mk hcp
      clear hcp
      obtain ⟨⟨k0, k1, k2, k3, k4⟩, -⟩ := S.out.h
      go_wp2_with fail
      clear k0 k1 k2 k3 k4
      refine (Place_ok g M A1 Ap c1 cp T (toI rp) _ S.out.s GD.out S.out.h.2.t (Kd.R_reads' RP.out).2.2 HC.out).mono ?_
      rintro e w10 ⟨rfl, hb⟩
      rw [from_path GD.out HTER.out HX.out.1 HPP.out (Nat.zero_le _) (by rw [end0 GD.out HTER.out]; exact HX.out.1), placeV_some]
      have Z10 : Aside0 (w9.heap.size ≤ w10.heap.size) := ⟨hb.size⟩
      replace RS := Aside0.mk (RS.out.below hb)
      replace RT := Aside0.mk (RT.out.below hb)
      replace RP := Aside0.mk (RP.out.below hb)
      replace B := Aside0.mk (below_then B.out B.out.size hb)
      replace S := Aside0.mk (S3.out.below B.out)
      clear hb
      have e4 : ((pn : Int) != (pn : Int)) = false := bne_eq_false_iff_eq.2 rfl
      obtain ⟨⟨k0, k1, k2, k3, k4⟩, -⟩ := S.out.h
      go_wp2_with fail
      clear k0 k1 k2 k3 k4
      have HPL := Aside0.mk (put_len (u := U) GD.out HTER.out HX.out.1)
      by_cases h9 : 2000 < (putL M T pn U).length
      · have f1 := HX.out.1
        have f2 := HX.out.2.1
        have f3 := HX.out.2.2
        have f4 := HPL.out
        have f5 : (subL M T pn).length ≤ T.length := by simp [subL]; omega
        have e5 : decide (2000 < (T.length : Int) - ((subL M T pn).length : Int) + (U.length : Int)) = true := decide_eq_true (by omega)
        refine (Put_long g M A1 A3 c1 c3 T U pn _ S.out.s GD.out S.out.h.2.t S.out.h.2.u h1 h2 h9).mono ?_
        rintro e w11 ⟨rfl, hb⟩
        have Z11 : Aside0 (w10.heap.size ≤ w11.heap.size) := ⟨hb.size⟩
        replace RS := Aside0.mk (RS.out.below hb)
        replace RT := Aside0.mk (RT.out.below hb)
        replace RP := Aside0.mk (RP.out.below hb)
        replace B := Aside0.mk (below_then B.out B.out.size hb)
        replace S := Aside0.mk (S3.out.below B.out)
        clear hb
        obtain ⟨⟨k0, k1, k2, k3, k4⟩, -⟩ := S.out.h
        go_wp2_with fail
        clear k0 k1 k2 k3 k4
        go_ret
        exact ⟨by simp, S.out.b⟩
      · refine (Put_ok g M A1 A3 c1 c3 T U pn _ S.out.s GD.out S.out.h.2.t S.out.h.2.tc S.out.h.2.u h1 h2 (by omega)).mono ?_
        rintro e w11 ⟨vq, rfl, hrq, hb⟩
        have Z11 : Aside0 (w10.heap.size ≤ w11.heap.size) := ⟨hb.size⟩
        replace RS := Aside0.mk (RS.out.below hb)
        replace RT := Aside0.mk (RT.out.below hb)
        replace RP := Aside0.mk (RP.out.below hb)
        replace B := Aside0.mk (below_then B.out B.out.size hb)
        replace S := Aside0.mk (S3.out.below B.out)
        have RQ := Aside0.mk (Rw.mk hrq)
        clear hrq
        clear hb
        obtain ⟨Aq, cq, rfl, hcq, -⟩ := RQ.out.reads
        have Hhcq := Aside0.mk hcq
        clear hcq
        have HQC := Aside0.mk (put_chk GD.out HC.out h2 HX.out.1 (show (putL M T pn U).length ≤ 2000 by omega))
        have HQL : Aside0 (pn < (putL M T pn U).length) := ⟨by have := HPL.out; have := HX.out; have := HUER.out.pos; have := (endN_le GD.out HTER.out HX.out.1); simp [putL]; omega⟩
        have HQP : Aside0 (plc M (putL M T pn U) (pn : Int) = 0) := ⟨by unfold plc; rw [if_pos HQC.out, if_neg (by omega), if_neg (by have := HQL.out; omega)]⟩
        obtain ⟨⟨k0, k1, k2, k3, k4⟩, -⟩ := S.out.h
        go_wp2_with fail
        clear k0 k1 k2 k3 k4
        refine (Sub_okN g M Aq cq (putL M T pn U) pn _ S.out.s GD.out (Kd.R_reads' RQ.out).2.2 Hhcq.out HQP.out).mono ?_
        rintro e w12 ⟨va, rfl, hra, hb⟩
        rw [put_sub GD.out HUER.out (Nat.le_of_lt HX.out.1)] at hra
        have Z12 : Aside0 (w11.heap.size ≤ w12.heap.size) := ⟨hb.size⟩
        replace RS := Aside0.mk (RS.out.below hb)
        replace RT := Aside0.mk (RT.out.below hb)
        replace RP := Aside0.mk (RP.out.below hb)
        replace RQ := Aside0.mk (RQ.out.below hb)
        replace B := Aside0.mk (below_then B.out B.out.size hb)
        replace S := Aside0.mk (S3.out.below B.out)
        have RA := Aside0.mk (Rw.mk hra)
        clear hra
        clear hb
        obtain ⟨Aa, ca, rfl, hca, -⟩ := RA.out.reads
        have Hhca := Aside0.mk hca
        clear hca
        obtain ⟨⟨k0, k1, k2, k3, k4⟩, -⟩ := S.out.h
        go_wp2_with fail
        clear k0 k1 k2 k3 k4
        refine (Path_ok g M Aq cq (putL M T pn U) pn _ S.out.s GD.out (Kd.R_reads' RQ.out).2.2 HQP.out).mono ?_
        rintro e w13 ⟨vb, rq, rfl, hpq, hrb, hb⟩
        obtain rfl := PathR.det (path_alike GD.out HTER.out (chk_ter GD.out HQC.out) HX.out.1 HQL.out (put_take (Nat.le_of_lt HX.out.1)) HPP.out (Nat.zero_le _) (by rw [end0 GD.out HTER.out]; exact HX.out.1)) hpq
        clear hpq
        have Z13 : Aside0 (w12.heap.size ≤ w13.heap.size) := ⟨hb.size⟩
        replace RS := Aside0.mk (RS.out.below hb)
        replace RT := Aside0.mk (RT.out.below hb)
        replace RP := Aside0.mk (RP.out.below hb)
        replace RQ := Aside0.mk (RQ.out.below hb)
        replace RA := Aside0.mk (RA.out.below hb)
        replace B := Aside0.mk (below_then B.out B.out.size hb)
        replace S := Aside0.mk (S3.out.below B.out)
        have RB := Aside0.mk (Rw.mk hrb)
        clear hrb
        clear hb
        obtain ⟨Ab, cb, rfl, hcb, -⟩ := RB.out.reads
        have Hhcb := Aside0.mk hcb
        clear hcb
        have f1 := HX.out.1
        have f2 := HX.out.2.1
        have f3 := HX.out.2.2
        have f4 := HPL.out
        have f5 : (subL M T pn).length ≤ T.length := by simp [subL]; omega
        have e6 : (((putL M T pn U).length : Int) == (T.length : Int) - ((subL M T pn).length : Int) + (U.length : Int)) = true := beq_iff_eq.2 (by omega)
        obtain ⟨⟨k0, k1, k2, k3, k4⟩, -⟩ := S.out.h
        go_wp2_with fail
        clear k0 k1 k2 k3 k4
        refine (same_n Aa _ ca U A3 _ c3 U _ (Kd.R_reads' RA.out).2.2 Hhca.out S.out.h.2.u S.out.h.2.uc).mono ?_
        rintro e w14 ⟨rfl, hd⟩
        have hb := hd.below
        rw [show decide (U = U) = true from decide_eq_true rfl]
        have Z14 : Aside0 (w13.heap.size ≤ w14.heap.size) := ⟨hb.size⟩
        replace RS := Aside0.mk (RS.out.below hb)
        replace RT := Aside0.mk (RT.out.below hb)
        replace RP := Aside0.mk (RP.out.below hb)
        replace RQ := Aside0.mk (RQ.out.below hb)
        replace RA := Aside0.mk (RA.out.below hb)
        replace RB := Aside0.mk (RB.out.below hb)
        replace B := Aside0.mk (below_then B.out B.out.size hb)
        replace S := Aside0.mk (S3.out.below B.out)
        clear hb hd
        obtain ⟨⟨k0, k1, k2, k3, k4⟩, -⟩ := S.out.h
        go_wp2_with fail
        clear k0 k1 k2 k3 k4
        refine (same_n Ab _ cb (toI rp) Ap _ cp (toI rp) _ (Kd.R_reads' RB.out).2.2 Hhcb.out (Kd.R_reads' RP.out).2.2 Hhcp.out).mono ?_
        rintro e w15 ⟨rfl, hd⟩
        have hb := hd.below
        rw [show decide (toI rp = toI rp) = true from decide_eq_true rfl]
        have Z15 : Aside0 (w14.heap.size ≤ w15.heap.size) := ⟨hb.size⟩
        replace RS := Aside0.mk (RS.out.below hb)
        replace RT := Aside0.mk (RT.out.below hb)
        replace RP := Aside0.mk (RP.out.below hb)
        replace RQ := Aside0.mk (RQ.out.below hb)
        replace RA := Aside0.mk (RA.out.below hb)
        replace RB := Aside0.mk (RB.out.below hb)
        replace B := Aside0.mk (below_then B.out B.out.size hb)
        replace S := Aside0.mk (S3.out.below B.out)
        clear hb hd
        obtain ⟨⟨k0, k1, k2, k3, k4⟩, -⟩ := S.out.h
        go_wp2_with fail
        clear k0 k1 k2 k3 k4
        go_ret
        exact ⟨by simp, S.out.b⟩
    · have e2 : (chk M U != 0) = true := bne_iff_ne.2 h2
      refine (refCheck_any Ar cr M A3 _ c3 U _ S.out.r HCR.out GD.out S.out.h.2.u S.out.h.2.uc).mono ?_
      rintro e w5 ⟨rfl, hd⟩
      have hb := hd.below
      have Z5 : Aside0 (w4.heap.size ≤ w5.heap.size) := ⟨hb.size⟩
      replace B := Aside0.mk (below_then B.out B.out.size hb)
      replace S := Aside0.mk (S3.out.below B.out)
      clear hb hd
      obtain ⟨⟨k0, k1, k2, k3, k4⟩, -⟩ := S.out.h
      go_wp2_with fail
      clear k0 k1 k2 k3 k4
      go_ret
      exact ⟨by simp, S.out.b⟩
  · have e1 : (plc M T p != 0) = true := bne_iff_ne.2 h1
    refine (refplaces_any Ar cr M A1 _ c1 T p _ S.out.r HCR.out GD.out S.out.h.2.t S.out.h.2.tc).mono ?_
    rintro e w4 ⟨rfl, hd⟩
    have hb := hd.below
    have Z4 : Aside0 (w3.heap.size ≤ w4.heap.size) := ⟨hb.size⟩
    replace B := Aside0.mk (below_then B.out B.out.size hb)
    replace S := Aside0.mk (S3.out.below B.out)
    clear hb hd
    obtain ⟨⟨k0, k1, k2, k3, k4⟩, -⟩ := S.out.h
    go_wp2_with fail
    clear k0 k1 k2 k3 k4
    go_ret
    exact ⟨by simp, S.out.b⟩
end Go.Proofs.Ytadjoaipmcbieaa
