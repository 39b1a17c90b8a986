/- TermPuts: the walk of the law. Printed by wip/print_puts.py. -/
import Derived.Test.YtadjoaipmcbieaaC1
namespace Go.Proofs.Ytadjoaipmcbieaa
open Go.RowKit Go.Proofs.YtadjoaipmcbieaaW.PrintWords Go.Proofs.YtadjoaipmcbieaaW.PrintLast Go.Proofs.YtadjoaipmcbieaaW.PrintMore A
set_option linter.unusedSimpArgs false
set_option linter.unusedVariables false

set_option maxRecDepth 100000 in
set_option maxHeartbeats 4000000 in
theorem puts_walk {A0 : Option Addr} {c0 : Nat} {L : List S89} {A1 : Option Addr} {c1 : Nat} {T : List Int} {p : Int} {A3 : Option Addr} {c3 : Nat} {U : List Int} {A4 : Option Addr} {c4 : Nat} {P : List Int} (w : World)
    (h : CaseIn w A0 c0 L A1 c1 T p A3 c3 U A4 c4 P) :
    Calls Try.prog 4 #[.agg #[.slice A0 L.length c0, .slice A1 T.length c1, .int .i64 p, .slice A3 U.length c3, .slice A4 P.length c4]] w fun e w' => e = .returned (.bool true) ∧ Below w.heap.size w w' := by
  have H0 := Aside0.mk (held_new h)
  have HN := Aside0.mk h
  have HB0 : Aside0 (Below w.heap.size w (w.alloc (.cells #[.slice A0 L.length c0, .slice A1 T.length c1, .int .i64 p, .slice A3 U.length c3, .slice A4 P.length c4] 27))) := ⟨below_alloc (Below.refl _ _) _⟩
  clear h
  go_enter Try.func4, Try.ntmps4
  go_wp2_with fail
  generalize w.alloc (.cells #[.slice A0 L.length c0, .slice A1 T.length c1, .int .i64 p, .slice A3 U.length c3, .slice A4 P.length c4] 27) = w1 at *
  refine (awake02 _).mono ?_
  rintro e w2 ⟨rfl, hb2⟩
  have B2 := Aside0.mk (below_then HB0.out HB0.out.size hb2)
  have H2 := Aside0.mk (H0.out.below hb2)
  clear hb2 H0 HB0
  obtain ⟨⟨k0, k1, k2, k3, k4⟩, -⟩ := H2.out
  go_wp2_with fail
  clear k0 k1 k2 k3 k4
  refine (made_any A0 c0 L _ H2.out.2.l HN.out.ln).mono ?_
  rintro e w3 ⟨g, v, rfl, hs, hr, hb3⟩
  obtain ⟨Ar, cr, rfl, hcr, hC⟩ := Kd.R_reads hr
  have GD := Aside0.mk (made_good L)
  have S3 : Aside0 (St w w3 g Ar (madeL L) A0 c0 L A1 c1 T p A3 c3 U A4 c4 P) := ⟨⟨below_then B2.out B2.out.size hb3, H2.out.below hb3, hs, hC⟩⟩
  have S := S3
  have B : Aside0 (Below w3.heap.size w3 w3) := ⟨Below.refl _ _⟩
  have HCR := Aside0.mk hcr
  clear hs hr hb3 hC H2 B2 hcr
  generalize madeL L = M at *
  obtain ⟨⟨k0, k1, k2, k3, k4⟩, -⟩ := S.out.h
  go_wp2_with fail
  clear k0 k1 k2 k3 k4
  refine (lent_any A1 c1 T _ S.out.h.2.t S.out.h.2.tl).mono ?_
  rintro e w4 ⟨gt, ct, rfl, hct, hrt, hb⟩
  have Z4 : Aside0 (w3.heap.size ≤ w4.heap.size) := ⟨hb.size⟩
  replace B := Aside0.mk (below_then B.out B.out.size hb)
  replace S := Aside0.mk (S3.out.below B.out)
  have RT := Aside0.mk (Rw.mk hrt)
  clear hrt
  have HCT := Aside0.mk hct
  clear hct
  clear hb
  obtain ⟨⟨k0, k1, k2, k3, k4⟩, -⟩ := S.out.h
  go_wp2_with fail
  clear k0 k1 k2 k3 k4
  refine (lent_any A3 c3 U _ S.out.h.2.u S.out.h.2.ul).mono ?_
  rintro e w5 ⟨gu, cu, rfl, hcu, hru, hb⟩
  have Z5 : Aside0 (w4.heap.size ≤ w5.heap.size) := ⟨hb.size⟩
  replace RT := Aside0.mk (RT.out.below hb)
  replace B := Aside0.mk (below_then B.out B.out.size hb)
  replace S := Aside0.mk (S3.out.below B.out)
  have RU := Aside0.mk (Rw.mk hru)
  clear hru
  have HCU := Aside0.mk hcu
  clear hcu
  clear hb
  obtain ⟨⟨k0, k1, k2, k3, k4⟩, -⟩ := S.out.h
  go_wp2_with fail
  clear k0 k1 k2 k3 k4
  by_cases h1 : plc M T p = 0
  · have e1 : (plc M T p == 0) = true := beq_iff_eq.2 h1
    refine (refplaces_any Ar cr M A1 _ c1 T p _ S.out.r HCR.out GD.out S.out.h.2.t S.out.h.2.tc).mono ?_
    rintro e w6 ⟨rfl, hd⟩
    have hb := hd.below
    have Z6 : Aside0 (w5.heap.size ≤ w6.heap.size) := ⟨hb.size⟩
    replace RT := Aside0.mk (RT.out.below hb)
    replace RU := Aside0.mk (RU.out.below hb)
    replace B := Aside0.mk (below_then B.out B.out.size hb)
    replace S := Aside0.mk (S3.out.below B.out)
    clear hb hd
    obtain ⟨⟨k0, k1, k2, k3, k4⟩, -⟩ := S.out.h
    go_wp2_with fail
    clear k0 k1 k2 k3 k4
    by_cases h2 : chk M U = 0
    · have e2 : (chk M U == 0) = true := beq_iff_eq.2 h2
      obtain ⟨h3, h4, h5⟩ := plc_ok h1
      obtain ⟨pn, rfl⟩ := Int.eq_ofNat_of_zero_le h4
      have h6 := chk_len h3
      have h7 := chk_len h2
      have h8 := (endN_le GD.out (chk_ter GD.out h3) (show pn < T.length by omega)).1
      have HX := Aside0.mk (And.intro h4 (And.intro h5 (And.intro h6 (And.intro h7 h8))))
      clear h4 h5 h6 h7 h8
      refine (refCheck_any Ar cr M A3 _ c3 U _ S.out.r HCR.out GD.out S.out.h.2.u S.out.h.2.uc).mono ?_
      rintro e w7 ⟨rfl, hd⟩
      have hb := hd.below
      have Z7 : Aside0 (w6.heap.size ≤ w7.heap.size) := ⟨hb.size⟩
      replace RT := Aside0.mk (RT.out.below hb)
      replace RU := Aside0.mk (RU.out.below hb)
      replace B := Aside0.mk (below_then B.out B.out.size hb)
      replace S := Aside0.mk (S3.out.below B.out)
      clear hb hd
      obtain ⟨⟨k0, k1, k2, k3, k4⟩, -⟩ := S.out.h
      go_wp2_with fail
      clear k0 k1 k2 k3 k4
      refine (refPut_ok Ar cr M A1 c1 T pn A3 c3 U _ S.out.r HCR.out GD.out S.out.h.2.t S.out.h.2.tc S.out.h.2.u HX.out.2.2.1 HX.out.2.2.2.1 (by have := HX.out.2.1; omega) HX.out.2.2.2.2).mono ?_
      rintro e w8 ⟨vw, rfl, hrw, hb⟩
      have Z8 : Aside0 (w7.heap.size ≤ w8.heap.size) := ⟨hb.size⟩
      replace RT := Aside0.mk (RT.out.below hb)
      replace RU := Aside0.mk (RU.out.below hb)
      replace B := Aside0.mk (below_then B.out B.out.size hb)
      replace S := Aside0.mk (S3.out.below B.out)
      have RW := Aside0.mk (Rw.mk hrw)
      clear hrw hb
      obtain ⟨Aw, cw, rfl, hcw, _⟩ := RW.out.reads
      by_cases h9 : 2000 < (putL M T pn U).length
      · have e3 : decide (2000 < ((putL M T pn U).length : Int)) = true := decide_eq_true (by omega)
        obtain ⟨⟨k0, k1, k2, k3, k4⟩, -⟩ := S.out.h
        go_wp2_with fail
        clear k0 k1 k2 k3 k4
        refine (Put_long g M (some ⟨gt, 0, none⟩) (some ⟨gu, 0, none⟩) ct cu T U pn _ S.out.s GD.out RT.out.front RU.out.front h1 h2 h9).mono ?_
        rintro e w9 ⟨rfl, hb⟩
        have Z9 : Aside0 (w8.heap.size ≤ w9.heap.size) := ⟨hb.size⟩
        replace RT := Aside0.mk (RT.out.below hb)
        replace RU := Aside0.mk (RU.out.below hb)
        replace RW := Aside0.mk (RW.out.below hb)
        replace B := Aside0.mk (below_then B.out B.out.size hb)
        replace S := Aside0.mk (S3.out.below B.out)
        have RA := Aside0.mk (Rw.nil w9 w8.heap.size w9.heap.size)
        clear hb
        obtain ⟨⟨k0, k1, k2, k3, k4⟩, -⟩ := S.out.h
        go_wp2_with fail
        clear k0 k1 k2 k3 k4
        refine (Put_long g M (some ⟨gt, 0, none⟩) (some ⟨gu, 0, none⟩) ct cu T U pn _ S.out.s GD.out RT.out.front RU.out.front h1 h2 h9).mono ?_
        rintro e w10 ⟨rfl, hb⟩
        have Z10 : Aside0 (w9.heap.size ≤ w10.heap.size) := ⟨hb.size⟩
        replace RT := Aside0.mk (RT.out.below hb)
        replace RU := Aside0.mk (RU.out.below hb)
        replace RW := Aside0.mk (RW.out.below hb)
        replace RA := Aside0.mk (RA.out.below hb)
        replace B := Aside0.mk (below_then B.out B.out.size hb)
        replace S := Aside0.mk (S3.out.below B.out)
        have RB := Aside0.mk (Rw.nil w10 w9.heap.size w10.heap.size)
        clear hb
        obtain ⟨⟨k0, k1, k2, k3, k4⟩, -⟩ := S.out.h
        go_wp2_with fail
        clear k0 k1 k2 k3 k4
        refine (kept_any gt ct A1 c1 _ T _ RT.out.all S.out.h.2.t S.out.h.2.tc S.out.h.2.tl).mono ?_
        rintro e w11 ⟨rfl, hb, hk⟩
        have AT := Aside0.mk RT.out.at_
        have Z11 : Aside0 (w10.heap.size ≤ w11.heap.size) := ⟨hb.size⟩
        replace RU := Aside0.mk (RU.out.kept hk (fun k h1 h2 e => by have := Z4.out; have := Z5.out; have := Z6.out; have := Z7.out; have := Z8.out; have := Z9.out; have := Z10.out; have := AT.out; subst e; omega))
        replace RW := Aside0.mk (RW.out.kept hk (fun k h1 h2 e => by have := Z4.out; have := Z5.out; have := Z6.out; have := Z7.out; have := Z8.out; have := Z9.out; have := Z10.out; have := AT.out; subst e; omega))
        replace RA := Aside0.mk (RA.out.kept hk (fun k h1 h2 e => by have := Z4.out; have := Z5.out; have := Z6.out; have := Z7.out; have := Z8.out; have := Z9.out; have := Z10.out; have := AT.out; subst e; omega))
        replace RB := Aside0.mk (RB.out.kept hk (fun k h1 h2 e => by have := Z4.out; have := Z5.out; have := Z6.out; have := Z7.out; have := Z8.out; have := Z9.out; have := Z10.out; have := AT.out; subst e; omega))
        replace B : Aside0 (Below w3.heap.size w3 w11) := ⟨B.out.trans (hb.mono (by have := Z4.out; have := Z5.out; have := Z6.out; have := Z7.out; have := Z8.out; have := Z9.out; have := Z10.out; have := AT.out; omega))⟩
        replace S := Aside0.mk (S3.out.below B.out)
        clear hb hk AT RT
        obtain ⟨⟨k0, k1, k2, k3, k4⟩, -⟩ := S.out.h
        go_wp2_with fail
        clear k0 k1 k2 k3 k4
        refine (kept_any gu cu A3 c3 _ U _ RU.out.all S.out.h.2.u S.out.h.2.uc S.out.h.2.ul).mono ?_
        rintro e w12 ⟨rfl, hb, hk⟩
        have AT := Aside0.mk RU.out.at_
        have Z12 : Aside0 (w11.heap.size ≤ w12.heap.size) := ⟨hb.size⟩
        replace RW := Aside0.mk (RW.out.kept hk (fun k h1 h2 e => by have := Z4.out; have := Z5.out; have := Z6.out; have := Z7.out; have := Z8.out; have := Z9.out; have := Z10.out; have := Z11.out; have := AT.out; subst e; omega))
        replace RA := Aside0.mk (RA.out.kept hk (fun k h1 h2 e => by have := Z4.out; have := Z5.out; have := Z6.out; have := Z7.out; have := Z8.out; have := Z9.out; have := Z10.out; have := Z11.out; have := AT.out; subst e; omega))
        replace RB := Aside0.mk (RB.out.kept hk (fun k h1 h2 e => by have := Z4.out; have := Z5.out; have := Z6.out; have := Z7.out; have := Z8.out; have := Z9.out; have := Z10.out; have := Z11.out; have := AT.out; subst e; omega))
        replace B : Aside0 (Below w3.heap.size w3 w12) := ⟨B.out.trans (hb.mono (by have := Z4.out; have := Z5.out; have := Z6.out; have := Z7.out; have := Z8.out; have := Z9.out; have := Z10.out; have := Z11.out; have := AT.out; omega))⟩
        replace S := Aside0.mk (S3.out.below B.out)
        clear hb hk AT RU
        go_wp2_with fail
        refine (apart_rw w3 _ B.out [] (by first | (simp; done) | omega) (by have := Z4.out; have := Z5.out; have := Z6.out; have := Z7.out; have := Z8.out; have := Z9.out; have := Z10.out; have := Z11.out; have := Z12.out; omega) RA.out RB.out (Rw.nil _ w10.heap.size w10.heap.size) (by have := Z4.out; have := Z5.out; have := Z6.out; have := Z7.out; have := Z8.out; have := Z9.out; have := Z10.out; have := Z11.out; have := Z12.out; omega) (by have := Z4.out; have := Z5.out; have := Z6.out; have := Z7.out; have := Z8.out; have := Z9.out; have := Z10.out; have := Z11.out; have := Z12.out; omega)).mono ?_
        rintro e w99 ⟨rfl, hb, hk⟩
        go_wp2_with fail
        go_ret
        exact ⟨by simp, below_then S3.out.b S3.out.b.size hb⟩
      · have e3 : decide (2000 < ((putL M T pn U).length : Int)) = false := decide_eq_false (by omega)
        obtain ⟨⟨k0, k1, k2, k3, k4⟩, -⟩ := S.out.h
        go_wp2_with fail
        clear k0 k1 k2 k3 k4
        refine (Put_ok g M (some ⟨gt, 0, none⟩) (some ⟨gu, 0, none⟩) ct cu T U pn _ S.out.s GD.out RT.out.front (by have := HCT.out; omega) RU.out.front h1 h2 (by omega)).mono ?_
        rintro e w9 ⟨va, rfl, hra, hb⟩
        have Z9 : Aside0 (w8.heap.size ≤ w9.heap.size) := ⟨hb.size⟩
        replace RT := Aside0.mk (RT.out.below hb)
        replace RU := Aside0.mk (RU.out.below hb)
        replace RW := Aside0.mk (RW.out.below hb)
        replace B := Aside0.mk (below_then B.out B.out.size hb)
        replace S := Aside0.mk (S3.out.below B.out)
        have RA := Aside0.mk (Rw.mk hra)
        clear hra
        clear hb
        obtain ⟨⟨k0, k1, k2, k3, k4⟩, -⟩ := S.out.h
        go_wp2_with fail
        clear k0 k1 k2 k3 k4
        refine (Put_ok g M (some ⟨gt, 0, none⟩) (some ⟨gu, 0, none⟩) ct cu T U pn _ S.out.s GD.out RT.out.front (by have := HCT.out; omega) RU.out.front h1 h2 (by omega)).mono ?_
        rintro e w10 ⟨vb, rfl, hrb, hb⟩
        have Z10 : Aside0 (w9.heap.size ≤ w10.heap.size) := ⟨hb.size⟩
        replace RT := Aside0.mk (RT.out.below hb)
        replace RU := Aside0.mk (RU.out.below hb)
        replace RW := Aside0.mk (RW.out.below hb)
        replace RA := Aside0.mk (RA.out.below hb)
        replace B := Aside0.mk (below_then B.out B.out.size hb)
        replace S := Aside0.mk (S3.out.below B.out)
        have RB := Aside0.mk (Rw.mk hrb)
        clear hrb
        clear hb
        obtain ⟨⟨k0, k1, k2, k3, k4⟩, -⟩ := S.out.h
        go_wp2_with fail
        clear k0 k1 k2 k3 k4
        refine (kept_any gt ct A1 c1 _ T _ RT.out.all S.out.h.2.t S.out.h.2.tc S.out.h.2.tl).mono ?_
        rintro e w11 ⟨rfl, hb, hk⟩
        have AT := Aside0.mk RT.out.at_
        have Z11 : Aside0 (w10.heap.size ≤ w11.heap.size) := ⟨hb.size⟩
        replace RU := Aside0.mk (RU.out.kept hk (fun k h1 h2 e => by have := Z4.out; have := Z5.out; have := Z6.out; have := Z7.out; have := Z8.out; have := Z9.out; have := Z10.out; have := AT.out; subst e; omega))
        replace RW := Aside0.mk (RW.out.kept hk (fun k h1 h2 e => by have := Z4.out; have := Z5.out; have := Z6.out; have := Z7.out; have := Z8.out; have := Z9.out; have := Z10.out; have := AT.out; subst e; omega))
        replace RA := Aside0.mk (RA.out.kept hk (fun k h1 h2 e => by have := Z4.out; have := Z5.out; have := Z6.out; have := Z7.out; have := Z8.out; have := Z9.out; have := Z10.out; have := AT.out; subst e; omega))
        replace RB := Aside0.mk (RB.out.kept hk (fun k h1 h2 e => by have := Z4.out; have := Z5.out; have := Z6.out; have := Z7.out; have := Z8.out; have := Z9.out; have := Z10.out; have := AT.out; subst e; omega))
        replace B : Aside0 (Below w3.heap.size w3 w11) := ⟨B.out.trans (hb.mono (by have := Z4.out; have := Z5.out; have := Z6.out; have := Z7.out; have := Z8.out; have := Z9.out; have := Z10.out; have := AT.out; omega))⟩
        replace S := Aside0.mk (S3.out.below B.out)
        clear hb hk AT RT
        obtain ⟨⟨k0, k1, k2, k3, k4⟩, -⟩ := S.out.h
        go_wp2_with fail
        clear k0 k1 k2 k3 k4
        refine (kept_any gu cu A3 c3 _ U _ RU.out.all S.out.h.2.u S.out.h.2.uc S.out.h.2.ul).mono ?_
        rintro e w12 ⟨rfl, hb, hk⟩
        have AT := Aside0.mk RU.out.at_
        have Z12 : Aside0 (w11.heap.size ≤ w12.heap.size) := ⟨hb.size⟩
        replace RW := Aside0.mk (RW.out.kept hk (fun k h1 h2 e => by have := Z4.out; have := Z5.out; have := Z6.out; have := Z7.out; have := Z8.out; have := Z9.out; have := Z10.out; have := Z11.out; have := AT.out; subst e; omega))
        replace RA := Aside0.mk (RA.out.kept hk (fun k h1 h2 e => by have := Z4.out; have := Z5.out; have := Z6.out; have := Z7.out; have := Z8.out; have := Z9.out; have := Z10.out; have := Z11.out; have := AT.out; subst e; omega))
        replace RB := Aside0.mk (RB.out.kept hk (fun k h1 h2 e => by have := Z4.out; have := Z5.out; have := Z6.out; have := Z7.out; have := Z8.out; have := Z9.out; have := Z10.out; have := Z11.out; have := AT.out; subst e; omega))
        replace B : Aside0 (Below w3.heap.size w3 w12) := ⟨B.out.trans (hb.mono (by have := Z4.out; have := Z5.out; have := Z6.out; have := Z7.out; have := Z8.out; have := Z9.out; have := Z10.out; have := Z11.out; have := AT.out; omega))⟩
        replace S := Aside0.mk (S3.out.below B.out)
        clear hb hk AT RU
        go_wp2_with fail
        refine (apart_rw w3 _ B.out (putL M T pn U) (by first | (simp; done) | omega) (by have := Z4.out; have := Z5.out; have := Z6.out; have := Z7.out; have := Z8.out; have := Z9.out; have := Z10.out; have := Z11.out; have := Z12.out; omega) RA.out RB.out RW.out (by have := Z4.out; have := Z5.out; have := Z6.out; have := Z7.out; have := Z8.out; have := Z9.out; have := Z10.out; have := Z11.out; have := Z12.out; omega) (by have := Z4.out; have := Z5.out; have := Z6.out; have := Z7.out; have := Z8.out; have := Z9.out; have := Z10.out; have := Z11.out; have := Z12.out; omega)).mono ?_
        rintro e w99 ⟨rfl, hb, hk⟩
        go_wp2_with fail
        go_ret
        exact ⟨by simp, below_then S3.out.b S3.out.b.size hb⟩
    · have e2 : (chk M U == 0) = false := beq_eq_false_iff_ne.2 h2
      refine (refCheck_any Ar cr M A3 _ c3 U _ S.out.r HCR.out GD.out S.out.h.2.u S.out.h.2.uc).mono ?_
      rintro e w7 ⟨rfl, hd⟩
      have hb := hd.below
      have Z7 : Aside0 (w6.heap.size ≤ w7.heap.size) := ⟨hb.size⟩
      replace RT := Aside0.mk (RT.out.below hb)
      replace RU := Aside0.mk (RU.out.below hb)
      replace B := Aside0.mk (below_then B.out B.out.size hb)
      replace S := Aside0.mk (S3.out.below B.out)
      clear hb hd
      obtain ⟨⟨k0, k1, k2, k3, k4⟩, -⟩ := S.out.h
      go_wp2_with fail
      clear k0 k1 k2 k3 k4
      refine (Put_bad2 g M (some ⟨gt, 0, none⟩) (some ⟨gu, 0, none⟩) ct cu T U p _ S.out.s GD.out RT.out.front RU.out.front h1 h2).mono ?_
      rintro e w8 ⟨rfl, hb⟩
      have Z8 : Aside0 (w7.heap.size ≤ w8.heap.size) := ⟨hb.size⟩
      replace RT := Aside0.mk (RT.out.below hb)
      replace RU := Aside0.mk (RU.out.below hb)
      replace B := Aside0.mk (below_then B.out B.out.size hb)
      replace S := Aside0.mk (S3.out.below B.out)
      have RA := Aside0.mk (Rw.nil w8 w7.heap.size w8.heap.size)
      clear hb
      obtain ⟨⟨k0, k1, k2, k3, k4⟩, -⟩ := S.out.h
      go_wp2_with fail
      clear k0 k1 k2 k3 k4
      refine (Put_bad2 g M (some ⟨gt, 0, none⟩) (some ⟨gu, 0, none⟩) ct cu T U p _ S.out.s GD.out RT.out.front RU.out.front h1 h2).mono ?_
      rintro e w9 ⟨rfl, hb⟩
      have Z9 : Aside0 (w8.heap.size ≤ w9.heap.size) := ⟨hb.size⟩
      replace RT := Aside0.mk (RT.out.below hb)
      replace RU := Aside0.mk (RU.out.below hb)
      replace RA := Aside0.mk (RA.out.below hb)
      replace B := Aside0.mk (below_then B.out B.out.size hb)
      replace S := Aside0.mk (S3.out.below B.out)
      have RB := Aside0.mk (Rw.nil w9 w8.heap.size w9.heap.size)
      clear hb
      obtain ⟨⟨k0, k1, k2, k3, k4⟩, -⟩ := S.out.h
      go_wp2_with fail
      clear k0 k1 k2 k3 k4
      refine (kept_any gt ct A1 c1 _ T _ RT.out.all S.out.h.2.t S.out.h.2.tc S.out.h.2.tl).mono ?_
      rintro e w10 ⟨rfl, hb, hk⟩
      have AT := Aside0.mk RT.out.at_
      have Z10 : Aside0 (w9.heap.size ≤ w10.heap.size) := ⟨hb.size⟩
      replace RU := Aside0.mk (RU.out.kept hk (fun k h1 h2 e => by have := Z4.out; have := Z5.out; have := Z6.out; have := Z7.out; have := Z8.out; have := Z9.out; have := AT.out; subst e; omega))
      replace RA := Aside0.mk (RA.out.kept hk (fun k h1 h2 e => by have := Z4.out; have := Z5.out; have := Z6.out; have := Z7.out; have := Z8.out; have := Z9.out; have := AT.out; subst e; omega))
      replace RB := Aside0.mk (RB.out.kept hk (fun k h1 h2 e => by have := Z4.out; have := Z5.out; have := Z6.out; have := Z7.out; have := Z8.out; have := Z9.out; have := AT.out; subst e; omega))
      replace B : Aside0 (Below w3.heap.size w3 w10) := ⟨B.out.trans (hb.mono (by have := Z4.out; have := Z5.out; have := Z6.out; have := Z7.out; have := Z8.out; have := Z9.out; have := AT.out; omega))⟩
      replace S := Aside0.mk (S3.out.below B.out)
      clear hb hk AT RT
      obtain ⟨⟨k0, k1, k2, k3, k4⟩, -⟩ := S.out.h
      go_wp2_with fail
      clear k0 k1 k2 k3 k4
      refine (kept_any gu cu A3 c3 _ U _ RU.out.all S.out.h.2.u S.out.h.2.uc S.out.h.2.ul).mono ?_
      rintro e w11 ⟨rfl, hb, hk⟩
      have AT := Aside0.mk RU.out.at_
      have Z11 : Aside0 (w10.heap.size ≤ w11.heap.size) := ⟨hb.size⟩
      replace RA := Aside0.mk (RA.out.kept hk (fun k h1 h2 e => by have := Z4.out; have := Z5.out; have := Z6.out; have := Z7.out; have := Z8.out; have := Z9.out; have := Z10.out; have := AT.out; subst e; omega))
      replace RB := Aside0.mk (RB.out.kept hk (fun k h1 h2 e => by have := Z4.out; have := Z5.out; have := Z6.out; have := Z7.out; have := Z8.out; have := Z9.out; have := Z10.out; have := AT.out; subst e; omega))
      replace B : Aside0 (Below w3.heap.size w3 w11) := ⟨B.out.trans (hb.mono (by have := Z4.out; have := Z5.out; have := Z6.out; have := Z7.out; have := Z8.out; have := Z9.out; have := Z10.out; have := AT.out; omega))⟩
      replace S := Aside0.mk (S3.out.below B.out)
      clear hb hk AT RU
      go_wp2_with fail
      refine (apart_rw w3 _ B.out [] (by first | (simp; done) | omega) (by have := Z4.out; have := Z5.out; have := Z6.out; have := Z7.out; have := Z8.out; have := Z9.out; have := Z10.out; have := Z11.out; omega) RA.out RB.out (Rw.nil _ w9.heap.size w9.heap.size) (by have := Z4.out; have := Z5.out; have := Z6.out; have := Z7.out; have := Z8.out; have := Z9.out; have := Z10.out; have := Z11.out; omega) (by have := Z4.out; have := Z5.out; have := Z6.out; have := Z7.out; have := Z8.out; have := Z9.out; have := Z10.out; have := Z11.out; omega)).mono ?_
      rintro e w99 ⟨rfl, hb, hk⟩
      go_wp2_with fail
      go_ret
      exact ⟨by simp, below_then S3.out.b S3.out.b.size hb⟩
  · have e1 : (plc M T p == 0) = false := beq_eq_false_iff_ne.2 h1
    refine (refplaces_any Ar cr M A1 _ c1 T p _ S.out.r HCR.out GD.out S.out.h.2.t S.out.h.2.tc).mono ?_
    rintro e w6 ⟨rfl, hd⟩
    have hb := hd.below
    have Z6 : Aside0 (w5.heap.size ≤ w6.heap.size) := ⟨hb.size⟩
    replace RT := Aside0.mk (RT.out.below hb)
    replace RU := Aside0.mk (RU.out.below hb)
    replace B := Aside0.mk (below_then B.out B.out.size hb)
    replace S := Aside0.mk (S3.out.below B.out)
    clear hb hd
    obtain ⟨⟨k0, k1, k2, k3, k4⟩, -⟩ := S.out.h
    go_wp2_with fail
    clear k0 k1 k2 k3 k4
    refine (Put_bad g M (some ⟨gt, 0, none⟩) ct T p _ _ S.out.s GD.out RT.out.front h1).mono ?_
    rintro e w7 ⟨rfl, hb⟩
    have Z7 : Aside0 (w6.heap.size ≤ w7.heap.size) := ⟨hb.size⟩
    replace RT := Aside0.mk (RT.out.below hb)
    replace RU := Aside0.mk (RU.out.below hb)
    replace B := Aside0.mk (below_then B.out B.out.size hb)
    replace S := Aside0.mk (S3.out.below B.out)
    have RA := Aside0.mk (Rw.nil w7 w6.heap.size w7.heap.size)
    clear hb
    obtain ⟨⟨k0, k1, k2, k3, k4⟩, -⟩ := S.out.h
    go_wp2_with fail
    clear k0 k1 k2 k3 k4
    refine (Put_bad g M (some ⟨gt, 0, none⟩) ct T p _ _ S.out.s GD.out RT.out.front h1).mono ?_
    rintro e w8 ⟨rfl, hb⟩
    have Z8 : Aside0 (w7.heap.size ≤ w8.heap.size) := ⟨hb.size⟩
    replace RT := Aside0.mk (RT.out.below hb)
    replace RU := Aside0.mk (RU.out.below hb)
    replace RA := Aside0.mk (RA.out.below hb)
    replace B := Aside0.mk (below_then B.out B.out.size hb)
    replace S := Aside0.mk (S3.out.below B.out)
    have RB := Aside0.mk (Rw.nil w8 w7.heap.size w8.heap.size)
    clear hb
    obtain ⟨⟨k0, k1, k2, k3, k4⟩, -⟩ := S.out.h
    go_wp2_with fail
    clear k0 k1 k2 k3 k4
    refine (kept_any gt ct A1 c1 _ T _ RT.out.all S.out.h.2.t S.out.h.2.tc S.out.h.2.tl).mono ?_
    rintro e w9 ⟨rfl, hb, hk⟩
    have AT := Aside0.mk RT.out.at_
    have Z9 : Aside0 (w8.heap.size ≤ w9.heap.size) := ⟨hb.size⟩
    replace RU := Aside0.mk (RU.out.kept hk (fun k h1 h2 e => by have := Z4.out; have := Z5.out; have := Z6.out; have := Z7.out; have := Z8.out; have := AT.out; subst e; omega))
    replace RA := Aside0.mk (RA.out.kept hk (fun k h1 h2 e => by have := Z4.out; have := Z5.out; have := Z6.out; have := Z7.out; have := Z8.out; have := AT.out; subst e; omega))
    replace RB := Aside0.mk (RB.out.kept hk (fun k h1 h2 e => by have := Z4.out; have := Z5.out; have := Z6.out; have := Z7.out; have := Z8.out; have := AT.out; subst e; omega))
    replace B : Aside0 (Below w3.heap.size w3 w9) := ⟨B.out.trans (hb.mono (by have := Z4.out; have := Z5.out; have := Z6.out; have := Z7.out; have := Z8.out; have := AT.out; omega))⟩
    replace S := Aside0.mk (S3.out.below B.out)
    clear hb hk AT RT
    obtain ⟨⟨k0, k1, k2, k3, k4⟩, -⟩ := S.out.h
    go_wp2_with fail
    clear k0 k1 k2 k3 k4
    refine (kept_any gu cu A3 c3 _ U _ RU.out.all S.out.h.2.u S.out.h.2.uc S.out.h.2.ul).mono ?_
    rintro e w10 ⟨rfl, hb, hk⟩
    have AT := Aside0.mk RU.out.at_
    have Z10 : Aside0 (w9.heap.size ≤ w10.heap.size) := ⟨hb.size⟩
    replace RA := Aside0.mk (RA.out.kept hk (fun k h1 h2 e => by have := Z4.out; have := Z5.out; have := Z6.out; have := Z7.out; have := Z8.out; have := Z9.out; have := AT.out; subst e; omega))
    replace RB := Aside0.mk (RB.out.kept hk (fun k h1 h2 e => by have := Z4.out; have := Z5.out; have := Z6.out; have := Z7.out; have := Z8.out; have := Z9.out; have := AT.out; subst e; omega))
    replace B : Aside0 (Below w3.heap.size w3 w10) := ⟨B.out.trans (hb.mono (by have := Z4.out; have := Z5.out; have := Z6.out; have := Z7.out; have := Z8.out; have := Z9.out; have := AT.out; omega))⟩
    replace S := Aside0.mk (S3.out.below B.out)
    clear hb hk AT RU
    go_wp2_with fail
    refine (apart_rw w3 _ B.out [] (by first | (simp; done) | omega) (by have := Z4.out; have := Z5.out; have := Z6.out; have := Z7.out; have := Z8.out; have := Z9.out; have := Z10.out; omega) RA.out RB.out (Rw.nil _ w8.heap.size w8.heap.size) (by have := Z4.out; have := Z5.out; have := Z6.out; have := Z7.out; have := Z8.out; have := Z9.out; have := Z10.out; omega) (by have := Z4.out; have := Z5.out; have := Z6.out; have := Z7.out; have := Z8.out; have := Z9.out; have := Z10.out; omega)).mono ?_
    rintro e w99 ⟨rfl, hb, hk⟩
    go_wp2_with fail
    go_ret
    exact ⟨by simp, below_then S3.out.b S3.out.b.size hb⟩
end Go.Proofs.Ytadjoaipmcbieaa
