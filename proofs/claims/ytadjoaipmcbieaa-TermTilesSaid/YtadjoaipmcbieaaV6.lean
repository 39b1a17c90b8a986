/- TermTiles: the walk of the law. Printed by wip/print_tiles.py. -/
import Derived.Test.YtadjoaipmcbieaaC1
import Derived.Test.YtadjoaipmcbieaaB1
import Derived.Test.YtadjoaipmcbieaaS6
namespace Go.Proofs.Ytadjoaipmcbieaa
open Go.RowKit Go.Proofs.YtadjoaipmcbieaaW.PrintWords Go.Proofs.YtadjoaipmcbieaaW.PrintLast Go.Proofs.YtadjoaipmcbieaaW.PrintMore A
set_option linter.unusedSimpArgs false
set_option linter.unusedVariables false

theorem make_zeros (N : Nat) (hN : N ≤ 17592186044416) (W : World) : (Instr.makeSlice 24 (.int .i64 N) (.int .i64 N)).run Try.prog W = .ok (.slice (some ⟨W.heap.size, 0, none⟩) N N) (W.alloc (.cells (nums .i64 (List.replicate N 0)).toArray 3)) := by
  obtain ⟨i0, hi, hz0, hz1, hz2⟩ := info_parts info3
  have hr := run_make (P := Try.prog) W 24 3 i0 (.int .i64 0) Try.underlying24 hi hz0 .i64 .i64 N N (by omega) (by omega) (by rw [hz2]; omega) (by omega)
  rw [hz1] at hr
  have e : (madeCells #[.int .i64 0] N) = (nums .i64 (List.replicate N 0)).toArray := by
    apply Array.ext
    · simp [size_madeCells, nums]
    · intro i h1 h2
      simp [madeCells, nums, Nat.mod_one]
  rw [← e]
  simpa [Value.cells] using hr
theorem set_rd (xs : List Int) (a x : Nat) (v : Int) (ha : a < xs.length) : rd (xs.set a v) x = if a = x then v else rd xs x := by
  simp only [rd, Int.toNat_natCast, List.getD_eq_getElem?_getD, List.getElem?_set]
  split
  · subst_vars; simp [ha]
  · rfl
theorem mem_take_succ {xs : List Nat} {k x : Nat} (h : k < xs.length) : x ∈ xs.take (k + 1) ↔ x ∈ xs.take k ∨ x = xs.getD k 0 := by
  rw [List.take_succ_eq_append_getElem h, List.getD_eq_getElem?_getD, List.getElem?_eq_getElem h]
  simp only [List.mem_append, List.mem_singleton, Option.getD_some]
theorem take_lt {l : List S89} (hl : GoodL l) {t : List Int} (hT : Ter l t) {h : Nat} (hh : h < t.length) {k : Nat} (hk : k < (argsL l t h).length) : (argsL l t h).getD k 0 ∉ (argsL l t h).take k := by
  intro hm
  obtain ⟨i, hi, he⟩ := mem_at hm
  rw [List.length_take] at hi
  rw [List.getD_eq_getElem?_getD, List.getElem?_take, if_pos (by omega), ← List.getD_eq_getElem?_getD] at he
  have h1 := args_tile hl hT hh (show i < k by omega) hk
  have h2 := argsL_le hl hT hh _ (getD_mem (show i < (argsL l t h).length by omega))
  have h3 := endN_le hl hT h2.2
  omega

set_option maxRecDepth 100000 in
set_option maxHeartbeats 4000000 in
theorem tiles_walk {A0 : Option Addr} {c0 : Nat} {L : List S89} {A1 : Option Addr} {c1 : Nat} {T : List Int} {p : Int} {A3 : Option Addr} {c3 : Nat} {U : List Int} {A4 : Option Addr} {c4 : Nat} {P : List Int} (w : World)
    (h : CaseIn w A0 c0 L A1 c1 T p A3 c3 U A4 c4 P) :
    Calls Try.prog 6 #[.agg #[.slice A0 L.length c0, .slice A1 T.length c1, .int .i64 p, .slice A3 U.length c3, .slice A4 P.length c4]] w fun e w' => e = .returned (.bool true) ∧ Below w.heap.size w w' := by
  have H0 := Aside0.mk (held_new h)
  have HN := Aside0.mk h
  have HB0 : Aside0 (Below w.heap.size w (w.alloc (.cells #[.slice A0 L.length c0, .slice A1 T.length c1, .int .i64 p, .slice A3 U.length c3, .slice A4 P.length c4] 27))) := ⟨below_alloc (Below.refl _ _) _⟩
  clear h
  go_enter Try.func6, Try.ntmps6
  go_wp2_with fail
  generalize w.alloc (.cells #[.slice A0 L.length c0, .slice A1 T.length c1, .int .i64 p, .slice A3 U.length c3, .slice A4 P.length c4] 27) = w1 at *
  refine (awake02 _).mono ?_
  rintro e w2 ⟨rfl, hb2⟩
  have B2 := Aside0.mk (below_then HB0.out HB0.out.size hb2)
  have H2 := Aside0.mk (H0.out.below hb2)
  clear hb2 H0 HB0
  obtain ⟨⟨k0, k1, k2, k3, k4⟩, -⟩ := H2.out
  go_wp2_with fail
  clear k0 k1 k2 k3 k4
  refine (made_any A0 c0 L _ H2.out.2.l HN.out.ln).mono ?_
  rintro e w3 ⟨g, v, rfl, hs, hr, hb3⟩
  obtain ⟨Ar, cr, rfl, hcr, hC⟩ := Kd.R_reads hr
  have GD := Aside0.mk (made_good L)
  have S3 : Aside0 (St w w3 g Ar (madeL L) A0 c0 L A1 c1 T p A3 c3 U A4 c4 P) := ⟨⟨below_then B2.out B2.out.size hb3, H2.out.below hb3, hs, hC⟩⟩
  have S := S3
  have B : Aside0 (Below w3.heap.size w3 w3) := ⟨Below.refl _ _⟩
  have HCR := Aside0.mk hcr
  clear hs hr hb3 hC H2 B2 hcr
  generalize madeL L = M at *
  obtain ⟨⟨k0, k1, k2, k3, k4⟩, -⟩ := S.out.h
  go_wp2_with fail
  clear k0 k1 k2 k3 k4
  by_cases h1 : chk M T = 0
  · have e1 : (chk M T != 0) = false := bne_eq_false_iff_eq.2 h1
    refine (refCheck_any Ar cr M A1 _ c1 T _ S.out.r HCR.out GD.out S.out.h.2.t S.out.h.2.tc).mono ?_
    rintro e w4 ⟨rfl, hd⟩
    have hb := hd.below
    replace B := Aside0.mk (below_then B.out B.out.size hb)
    replace S := Aside0.mk (S3.out.below B.out)
    clear hb hd
    have HT := Aside0.mk (chk_ter GD.out h1)
    have HL := Aside0.mk (chk_len h1)
    have mk := make_zeros T.length (by have := HL.out; omega)
    obtain ⟨⟨k0, k1, k2, k3, k4⟩, -⟩ := S.out.h
    go_wp2_with fail
    clear k0 k1 k2 k3 k4 mk
    have B4 : Aside0 (Below w3.heap.size w3 (w4.alloc (.cells (nums .i64 (List.replicate T.length 0)).toArray 3))) := ⟨below_alloc' B.out _ B.out.size⟩
    have R4 : Aside0 (Kd.R (Kd.int .i64) 3 (w4.alloc (.cells (nums .i64 (List.replicate T.length 0)).toArray 3)) w4.heap.size (fun _ => True) (.slice (some ⟨w4.heap.size, 0, none⟩) T.length T.length) (List.replicate T.length 0)) := ⟨ints_own (heap_alloc_new w4 _) (by simp) (Nat.le_refl _) (by have := HL.out; omega)⟩
    have Z4 : Aside0 (w3.heap.size ≤ w4.heap.size) := ⟨B.out.size⟩
    have ZN : Aside0 (w4.heap.size < (w4.alloc (.cells (nums .i64 (List.replicate T.length 0)).toArray 3)).heap.size) := ⟨by simp⟩
    clear B S
    generalize w4.alloc (.cells (nums .i64 (List.replicate T.length 0)).toArray 3) = w5 at *
    generalize hgs : w4.heap.size = gs at *
    clear hgs
    go_loopw [7] (fun a wr => ∃ (i : Nat) (sn : List Int), a = .int .i64 i ∧ i ≤ T.length ∧ Aside0 (sn.length = T.length) ∧ Aside0 (∀ x, x < T.length → rd sn x = cnt M T i x) ∧ Aside0 (Below w3.heap.size w3 wr) ∧ Aside0 (gs < wr.heap.size) ∧ Aside0 (Kd.R (Kd.int .i64) 3 wr gs (fun _ => True) (.slice (some ⟨gs, 0, none⟩) T.length T.length) sn)) (fun a _ => T.length - (intOf a).toNat)
    case atStart => exact ⟨0, _, rfl, by omega, ⟨by simp⟩, ⟨fun x hx => by simp [rd, cnt, List.getD_eq_getElem?_getD, hx]⟩, B4, ZN, R4⟩
    case round =>
      clear B4 R4 ZN
      obtain ⟨i, sn, rfl, hi, HSL, HSN, HB, HZ, HR⟩ := hrel
      have S := Aside0.mk (S3.out.below HB.out)
      by_cases hlt : i < T.length
      · have e2 : decide ((i : Int) < (T.length : Int)) = true := decide_eq_true (by omega)
        have HP : Aside0 (plc M T (i : Int) = 0) := ⟨by unfold plc; rw [if_pos h1, if_neg (by omega), if_neg (by omega)]⟩
        have HE := Aside0.mk (endN_le GD.out HT.out hlt)
        have f0 := HL.out
        have e3 : decide (endN M T i ≤ i) = false := decide_eq_false (by have := HE.out.2; omega)
        have e4 : decide (T.length < endN M T i) = false := decide_eq_false (by have := HE.out.1; omega)
        obtain ⟨⟨k0, k1, k2, k3, k4⟩, -⟩ := S.out.h
        go_wp2_with fail
        clear k0 k1 k2 k3 k4
        refine (End_okN g M A1 c1 T i _ S.out.s GD.out S.out.h.2.t HP.out).mono ?_
        rintro e w6 ⟨rfl, hb⟩
        replace HB := Aside0.mk (below_then HB.out HB.out.size hb)
        replace HR := Aside0.mk (Kd.R_below HR.out hb)
        replace HZ : Aside0 (gs < w6.heap.size) := ⟨by have := HZ.out; have := hb.size; omega⟩
        replace S := Aside0.mk (S3.out.below HB.out)
        clear hb
        obtain ⟨⟨k0, k1, k2, k3, k4⟩, -⟩ := S.out.h
        go_wp2_with fail
        clear k0 k1 k2 k3 k4
        refine (Args_okN g M A1 c1 T i _ S.out.s GD.out S.out.h.2.t HP.out).mono ?_
        rintro e w7 ⟨va, rfl, hra, hb⟩
        replace HB := Aside0.mk (below_then HB.out HB.out.size hb)
        replace HR := Aside0.mk (Kd.R_below HR.out hb)
        have RA : Aside0 (Rw w7 w6.heap.size w7.heap.size va (toI (argsL M T i))) := ⟨Rw.mk hra⟩
        have HG6 : Aside0 (gs < w6.heap.size) := HZ
        replace HZ : Aside0 (gs < w7.heap.size) := ⟨by have := HZ.out; have := hb.size; omega⟩
        replace S := Aside0.mk (S3.out.below HB.out)
        obtain ⟨Aa, ca, rfl, hca, -⟩ := RA.out.reads
        have HCA := Aside0.mk hca
        clear hb hra hca
        obtain ⟨⟨k0, k1, k2, k3, k4⟩, -⟩ := S.out.h
        go_wp2_with fail
        clear k0 k1 k2 k3 k4
        obtain ⟨wo, hwo⟩ : ∃ wo : World, wo = wr := ⟨_, rfl⟩
        have HN := Aside0.mk (toI_length (argsL M T i))
        have HN6 : Aside0 ((argsL M T i).length ≤ 6) := ⟨by unfold argsL; rw [argsF_length]; have := ar_bd GD.out (rd T i); omega⟩
        clear hwo
        clear wo
        have HG7 := HZ
        have HPE := Aside0.mk (pos_end GD.out HT.out hlt)
        go_loopw [12, 13] (fun a c wr => ∃ (k : Nat) (sn' : List Int), c = .int .i64 k ∧ a = .int .i64 (posF M T k (i + 1)) ∧ k ≤ (argsL M T i).length ∧ Aside0 (sn'.length = T.length) ∧ Aside0 (∀ x, x < T.length → rd sn' x = cnt M T i x + if x ∈ (argsL M T i).take k then 1 else 0) ∧ Aside0 (Below w3.heap.size w3 wr) ∧ Aside0 (w7.heap.size ≤ wr.heap.size) ∧ Aside0 (Kd.R (Kd.int .i64) 3 wr gs (fun _ => True) (.slice (some ⟨gs, 0, none⟩) T.length T.length) sn') ∧ Aside0 (Rw wr w6.heap.size w7.heap.size (.slice Aa (toI (argsL M T i)).length ca) (toI (argsL M T i)))) (fun _ c _ => (argsL M T i).length - (intOf c).toNat)
        case atStart => exact ⟨0, sn, rfl, by simp [posF], by omega, HSL, ⟨fun x hx => by rw [HSN.out x hx]; simp⟩, HB, ⟨Nat.le_refl _⟩, HR, RA⟩
        case round =>
          clear HB HR RA S HSN HSL HZ
          obtain ⟨k, sn', rfl, rfl, hk, HSL, HSN, HB, HZ, HR, RA⟩ := hrel
          by_cases hkn : k < (argsL M T i).length
          · have hk' : k < (toI (argsL M T i)).length := by rw [toI_length]; exact hkn
            have f6 : k < 6 := Nat.lt_of_lt_of_le hkn HN6.out
            have hpos : (argsL M T i).getD k 0 = posF M T k (i + 1) := by
              have h : (argsL M T i).length = (ar M (rd T i)).toNat := by unfold argsL; rw [argsF_length]
              rw [h] at hkn
              exact argsF_pos _ _ _ hkn
            have hmem := getD_mem hkn
            have hnot := take_lt GD.out HT.out hlt hkn
            rw [hpos] at hmem hnot
            have f3 := (argsL_le GD.out HT.out hlt _ hmem).2
            have f4 := HPE.out.2 _ hmem
            obtain ⟨ad, e, hc⟩ := int_at (Kd.R_reads' RA.out).2.2 k hk'
            subst e
            rw [toI_at, hpos] at hc
            have hcnt : rd sn' (posF M T k (i + 1) : Nat) = 0 := by
              rw [HSN.out _ f3, cnt_one GD.out HT.out hlt hmem i (by omega), if_neg (by omega), if_neg hnot]; rfl
            obtain ⟨hx, hf⟩ := Kd.R_celln 0 HR.out (posF M T k (i + 1) : Int) (by omega) (by omega)
            rw [show rdOf (0 : Int) sn' (posF M T k (i + 1) : Int) = 0 from hcnt, Int.toNat_natCast] at hx
            rw [Int.toNat_natCast] at hf
            have HS2 := Aside0.mk (Kd.R_putg HR.out (posF M T k (i + 1) : Int) 1).1
            have HB2 : Aside0 (Below w3.heap.size w3 (wr.setCell ⟨gs, posF M T k (i + 1), none⟩ (.int .i64 1))) := ⟨HB.out.setCell Z4.out _⟩
            have HA2 : Aside0 (Rw (wr.setCell ⟨gs, posF M T k (i + 1), none⟩ (.int .i64 1)) w6.heap.size w7.heap.size (.slice (some ad) (toI (argsL M T i)).length ca) (toI (argsL M T i))) := ⟨RA.out.kept (Kept.setCell (Kept.refl wr (fun z => z = gs)) (.inl rfl) _) (fun z h1 h2 e => by have := HG6.out; omega)⟩
            have HK2 : Aside0 (St w (wr.setCell ⟨gs, posF M T k (i + 1), none⟩ (.int .i64 1)) g Ar M A0 c0 L A1 c1 T p A3 c3 U A4 c4 P) := ⟨S3.out.below HB2.out⟩
            have HZ2 : Aside0 (w7.heap.size ≤ (wr.setCell ⟨gs, posF M T k (i + 1), none⟩ (.int .i64 1)).heap.size) := ⟨by have := HZ.out; simpa [World.setCell] using this⟩
            have S := Aside0.mk (S3.out.below HB.out)
            obtain ⟨⟨k0, k1, k2, k3, k4⟩, -⟩ := S.out.h
            obtain ⟨⟨j0, j1, j2, j3, j4⟩, -⟩ := HK2.out.h
            go_wp2_with fail
            clear k0 k1 k2 k3 k4 j0 j1 j2 j3 j4
            have HP2 : Aside0 (plc M T (posF M T k (i + 1) : Int) = 0) := ⟨by unfold plc; rw [if_pos h1, if_neg (by omega), if_neg (by omega)]⟩
            refine (End_okN g M A1 c1 T (posF M T k (i + 1)) _ HK2.out.s GD.out HK2.out.h.2.t HP2.out).mono ?_
            rintro e w9 ⟨rfl, hb⟩
            have B9 := Aside0.mk (below_then HB2.out HB2.out.size hb)
            have R9 := Aside0.mk (Kd.R_below HS2.out hb)
            have A9 := Aside0.mk (HA2.out.below hb)
            have Z9 : Aside0 (w7.heap.size ≤ w9.heap.size) := ⟨Nat.le_trans HZ2.out hb.size⟩
            clear hb HB2 HS2 HA2 HZ2 HK2 hx hf hc
            go_wp2_with fail
            go_roundw
            case rel =>
              refine ⟨k + 1, _, by simp, by rw [posF_succ], by omega, ⟨by simpa using HSL.out⟩, ⟨fun x hx => ?_⟩, B9, Z9, R9, A9⟩
              rw [Int.toNat_natCast, set_rd _ _ _ _ (by have := HSL.out; omega), HSN.out x hx]
              have hm := mem_take_succ (x := x) hkn
              rw [hpos] at hm
              by_cases hxe : posF M T k (i + 1) = x
              · subst hxe
                rw [if_pos rfl, if_pos (hm.2 (.inr rfl)), cnt_one GD.out HT.out hlt hmem i (by omega), if_neg (by omega)]; rfl
              · rw [if_neg hxe]
                by_cases hxt : x ∈ (argsL M T i).take k
                · rw [if_pos hxt, if_pos (hm.2 (.inl hxt))]
                · rw [if_neg hxt, if_neg (fun h => (hm.1 h).elim hxt (fun h => hxe h.symm))]
            case measure => simp [intOf]; omega
          · have hk' : ¬ k < (toI (argsL M T i)).length := by rw [toI_length]; exact hkn
            obtain rfl : k = (argsL M T i).length := by omega
            rw [HPE.out.1]
            go_wp2_with fail
            go_roundw
            case rel =>
              refine ⟨i + 1, sn', by simp, by omega, HSL, ⟨fun x hx => ?_⟩, HB, ⟨by have := HG7.out; have := HZ.out; omega⟩, HR⟩
              rw [HSN.out x hx]; simp only [List.take_length, cnt]; split <;> simp
            case measure => simp [intOf]; omega
      · obtain rfl : i = T.length := by omega
        obtain ⟨⟨k0, k1, k2, k3, k4⟩, -⟩ := S.out.h
        go_wp2_with fail
        clear k0 k1 k2 k3 k4
        have HF : Aside0 (∀ x, 0 < x → x < T.length → rd sn x = 1) := ⟨fun x h0 hx => by rw [HSN.out x hx, cnt_all GD.out HT.out h0 hx]; rfl⟩
        have HF0 : Aside0 (rd sn 0 = 0) := ⟨by have := HSN.out 0 HT.out.pos; rw [cnt_root GD.out HT.out _ (Nat.le_refl _)] at this; exact this⟩
        clear HSN
        have f0 := HL.out
        have fp := HT.out.pos
        go_loopw [16] (fun a wr => ∃ (j : Nat), a = .int .i64 j ∧ 1 ≤ j ∧ j ≤ T.length ∧ Aside0 (Below w3.heap.size w3 wr) ∧ Aside0 (Kd.R (Kd.int .i64) 3 wr gs (fun _ => True) (.slice (some ⟨gs, 0, none⟩) T.length T.length) sn)) (fun a _ => T.length - (intOf a).toNat)
        case atStart => exact ⟨1, rfl, by omega, by omega, HB, HR⟩
        case round =>
          clear HB HR
          obtain ⟨j, rfl, hj1, hj, HB, HR⟩ := hrel
          by_cases hjl : j < T.length
          · obtain ⟨hx, hf⟩ := Kd.R_celln 0 HR.out (j : Int) (by omega) (by omega)
            rw [show rdOf (0 : Int) sn (j : Int) = 1 from HF.out j (by omega) hjl, Int.toNat_natCast] at hx
            clear hf
            go_wp2_with fail
            go_roundw
            case rel => exact ⟨j + 1, by simp, by omega, by omega, HB, HR⟩
            case measure => simp [intOf]; omega
          · obtain ⟨hx, hf⟩ := Kd.R_celln 0 HR.out 0 (by omega) (by omega)
            rw [show rdOf (0 : Int) sn 0 = 0 from HF0.out] at hx
            simp only [Int.toNat_zero] at hx
            clear hf
            go_wp2_with fail
            go_ret
            exact ⟨by simp, below_then S3.out.b S3.out.b.size HB.out⟩
  · have e1 : (chk M T != 0) = true := bne_iff_ne.2 h1
    refine (refCheck_any Ar cr M A1 _ c1 T _ S.out.r HCR.out GD.out S.out.h.2.t S.out.h.2.tc).mono ?_
    rintro e w4 ⟨rfl, hd⟩
    have hb := hd.below
    have Z4 : Aside0 (w3.heap.size ≤ w4.heap.size) := ⟨hb.size⟩
    replace B := Aside0.mk (below_then B.out B.out.size hb)
    replace S := Aside0.mk (S3.out.below B.out)
    clear hb hd
    obtain ⟨⟨k0, k1, k2, k3, k4⟩, -⟩ := S.out.h
    go_wp2_with fail
    clear k0 k1 k2 k3 k4
    go_ret
    exact ⟨by simp, S.out.b⟩
end Go.Proofs.Ytadjoaipmcbieaa
