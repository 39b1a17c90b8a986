/- term.Place: the place to which a path leads. -/
import Derived.Test.YtadjoaipmcbieaaSS
namespace Go.Proofs.Ytadjoaipmcbieaa
open Go.RowKit Go.Proofs.YtadjoaipmcbieaaW.PrintWords Go.Proofs.YtadjoaipmcbieaaW.PrintLast Go.Proofs.YtadjoaipmcbieaaW.PrintMore A

/-- The place to which a path leads from a place. -/
def fromL (l : List S89) (t : List Int) : List Int → Nat → Option Nat
  | [], p => some p
  | k :: r, p => if k < 0 then none else if ((argsL l t p).length : Int) ≤ k then none else fromL l t r ((argsL l t p).getD k.toNat 0)
theorem fromL_step {l : List S89} {t path : List Int} {j p : Nat} (h : j < path.length) :
    fromL l t (path.drop j) p = if rd path j < 0 then none else if ((argsL l t p).length : Int) ≤ rd path j then none else fromL l t (path.drop (j + 1)) ((argsL l t p).getD (rd path j).toNat 0) := by
  rw [drop_rd path j h, fromL]
theorem fromL_end {l : List S89} {t path : List Int} {j p : Nat} (h : path.length ≤ j) : fromL l t (path.drop j) p = some p := by
  rw [List.drop_eq_nil_of_le h, fromL]
theorem rd_toI (xs : List Nat) (i : Int) (h : i.toNat < xs.length) : rd (toI xs) i = (xs.getD i.toNat 0 : Nat) := by
  simp [rd, toI, List.getD_eq_getElem?_getD, List.getElem?_eq_getElem h]

/-- What Place tells: the place and the error. -/
def placeV : Option Nat → Value
  | none => .tuple #[.int .i64 0, .int .i64 25]
  | some p => .tuple #[.int .i64 p, .int .i64 0]
theorem placeV_none : placeV none = .tuple #[.int .i64 0, .int .i64 25] := rfl
theorem placeV_some (p : Nat) : placeV (some p) = .tuple #[.int .i64 p, .int .i64 0] := rfl

theorem Place_bad (g : Nat) (l : List S89) (A B : Option Addr) (c n d : Nat) (t : List Int) (w : World) (hs : SigC w g l) (hl : GoodL l)
    (ht : Kd.C (Kd.int .i64) w A t.length t) (hp : chk l t ≠ 0) :
    Calls Try.prog 34 #[.pointer (some ⟨g, 0, none⟩), .slice A t.length c, .slice B n d] w fun e w' => e = .returned (.tuple #[.int .i64 0, .int .i64 (chk l t)]) ∧ Below w.heap.size w w' := by
  have e1 : (chk l t != 0) = true := bne_iff_ne.2 hp
  clear hp
  go_enter Try.func34, Try.ntmps34
  go_wp2_with (go_at_call 38; refine (check_any g l A c t _ hs hl ht).mono ?_; rintro e w1 ⟨rfl, hb⟩)
  go_ret2
  exact ⟨rfl, hb⟩

set_option maxHeartbeats 1000000 in
theorem Place_ok (g : Nat) (l : List S89) (A B : Option Addr) (c d : Nat) (t path : List Int) (w : World) (hs : SigC w g l) (hl : GoodL l)
    (ht : Kd.C (Kd.int .i64) w A t.length t) (hpath : Kd.C (Kd.int .i64) w B path.length path) (hp : chk l t = 0) :
    Calls Try.prog 34 #[.pointer (some ⟨g, 0, none⟩), .slice A t.length c, .slice B path.length d] w fun e w' => e = .returned (placeV (fromL l t path 0)) ∧ Below w.heap.size w w' := by
  have h2 := chk_len hp
  have hT := chk_ter hl hp
  have hpos := hT.pos
  have e1 : (chk l t != 0) = false := bne_eq_false_iff_eq.2 hp
  have hR : fromL l t path 0 = fromL l t (path.drop 0) 0 := rfl
  generalize fromL l t path 0 = R at hR ⊢
  have hm := hpath.2.1
  have HS := Aside0.mk hs
  have HT := Aside0.mk ht
  have HP := Aside0.mk hpath
  have HV : Aside0 (∀ p, p < t.length → ∀ x ∈ argsL l t p, p < x ∧ x < t.length) := ⟨fun p hp => argsL_le hl hT hp⟩
  have HR := Aside0.mk hR.symm
  clear hs ht hpath hp hT hR
  go_enter Try.func34, Try.ntmps34
  go_wp2_with (go_at_call 38; refine (check_any g l A c t _ HS.out hl HT.out).mono ?_; rintro e w1 ⟨rfl, hb⟩)
  go_loopw [9, 21] (fun a i wr => ∃ (j p : Nat), a = .int .i64 p ∧ i = .int .i64 j ∧ j ≤ path.length ∧ p < t.length ∧ Aside0 (fromL l t (path.drop j) p = R) ∧ Aside0 (Below w.heap.size w wr)) (fun _ i _ => path.length - (intOf i).toNat)
  case atStart => exact ⟨0, 0, rfl, rfl, by omega, by omega, HR, ⟨hb⟩⟩
  case round =>
    clear HR e1
    obtain ⟨j, p, rfl, rfl, hj, hpt, HR, HB⟩ := hrel
    by_cases hlt : j < path.length
    · obtain ⟨bd, e, hc⟩ := int_at (Kd.C_below HP.out HB.out) j hlt
      cases e
      have hE := HR.out
      rw [fromL_step hlt] at hE
      have hval : ∀ x ∈ argsL l t p, x ≤ t.length := fun x hx => Nat.le_of_lt (HV.out p hpt x hx).2
      have HVL := Aside0.mk hval
      have HB1 := HB.out.size
      clear hval HR
      by_cases h3 : rd path j < 0
      · rw [if_pos h3] at hE
        have e2 : decide (rd path j < 0) = true := decide_eq_true h3
        have HE := Aside0.mk hE
        clear hE
        go_wp2_with (go_at_call 78; refine (args_any g l A c t p _ (HS.out.below HB.out) hl (Kd.C_below HT.out HB.out) h2 hpt HVL.out).mono ?_; rintro e w2 ⟨v, rfl, hR2, hb2⟩)
        go_ret2
        exact ⟨by rw [← HE.out]; rfl, below_then HB.out HB1 hb2⟩
      · rw [if_neg h3] at hE
        have e2 : decide (rd path j < 0) = false := decide_eq_false h3
        by_cases h4 : ((argsL l t p).length : Int) ≤ rd path j
        · rw [if_pos h4] at hE
          have e3 : decide (((toI (argsL l t p)).length : Int) ≤ rd path j) = true := decide_eq_true (by rw [toI_length]; exact h4)
          have HE := Aside0.mk hE
          clear hE h4
          go_wp2_with (go_at_call 78; refine (args_any g l A c t p _ (HS.out.below HB.out) hl (Kd.C_below HT.out HB.out) h2 hpt HVL.out).mono ?_; rintro e w2 ⟨v, rfl, hR2, hb2⟩; obtain ⟨A2, c2, rfl, hc2, hC2⟩ := Kd.R_reads hR2)
          go_ret2
          exact ⟨by rw [← HE.out]; rfl, below_then HB.out HB1 hb2⟩
        · rw [if_neg h4] at hE
          have hin : (rd path j).toNat < (argsL l t p).length := by omega
          have e3 : decide (((toI (argsL l t p)).length : Int) ≤ rd path j) = false := decide_eq_false (by rw [toI_length]; exact h4)
          have h5 : rd path j < (toI (argsL l t p)).length := by rw [toI_length]; omega
          have h6 : 0 ≤ rd path j := by omega
          have HE := Aside0.mk hE
          have HN := Aside0.mk (rd_toI (argsL l t p) (rd path j) hin)
          have hnew : (argsL l t p).getD (rd path j).toNat 0 < t.length := by
            rw [List.getD_eq_getElem?_getD, List.getElem?_eq_getElem hin]
            exact (HV.out p hpt _ (List.getElem_mem hin)).2
          have HW := Aside0.mk hnew
          clear hE h4 hin hnew
          go_wp2_with (go_at_call 78; refine (args_any g l A c t p _ (HS.out.below HB.out) hl (Kd.C_below HT.out HB.out) h2 hpt HVL.out).mono ?_; rintro e w2 ⟨v, rfl, hR2, hb2⟩; obtain ⟨A2, c2, rfl, hc2, hC2⟩ := Kd.R_reads hR2; obtain ⟨ad2, e2', hcell⟩ := Kd.at_int hC2 (rd path j) h6 h5; cases e2')
          go_roundw
          case rel => exact ⟨j + 1, _, by rw [HN.out], by go_num, by omega, HW.out, HE, ⟨below_then HB.out HB1 hb2⟩⟩
          case measure => simp [intOf]; omega
    · have hE := HR.out
      rw [fromL_end (by omega)] at hE
      have HE := Aside0.mk hE
      clear hE HR
      go_wp2
      go_ret2
      exact ⟨by rw [← HE.out]; rfl, HB.out⟩
end Go.Proofs.Ytadjoaipmcbieaa
