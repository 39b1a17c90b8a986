/- term.Path: the path that leads to a place, told by a relation. -/
import Derived.Test.YtadjoaipmcbieaaS5
namespace Go.Proofs.Ytadjoaipmcbieaa
open Go.RowKit Go.Proofs.YtadjoaipmcbieaaW.PrintWords Go.Proofs.YtadjoaipmcbieaaW.PrintLast Go.Proofs.YtadjoaipmcbieaaW.PrintMore A

/-- The last of some rising numbers that is not above p (the first one is not asked). -/
def kF (p : Nat) : List Nat → Nat → Nat
  | [], k => k
  | x :: r, k => if x ≤ p then kF p r (k + 1) else k
def kL (p : Nat) (xs : List Nat) : Nat := kF p (xs.drop 1) 0
/-- The path from a place to p. -/
inductive PathR (l : List S89) (t : List Int) (p : Nat) : Nat → List Nat → Prop
  | refl : PathR l t p p []
  | step {h : Nat} {r : List Nat} (hne : h ≠ p) (hr : PathR l t p ((argsL l t h).getD (kL p (argsL l t h)) 0) r) : PathR l t p h (kL p (argsL l t h) :: r)
theorem PathR.det {l : List S89} {t : List Int} {p h : Nat} {r r' : List Nat} (a : PathR l t p h r) (b : PathR l t p h r') : r = r' := by
  induction a generalizing r' with
  | refl => cases b with
    | refl => rfl
    | step hne _ => exact absurd rfl hne
  | step hne _ ih => cases b with
    | refl => exact absurd rfl hne
    | step _ hr => rw [ih hr]

theorem kF_ge (p : Nat) : ∀ (r : List Nat) (k : Nat), k ≤ kF p r k ∧ kF p r k ≤ k + r.length
  | [], k => by simp [kF]
  | x :: r, k => by
    simp only [kF, List.length_cons]; split
    · have := kF_ge p r (k + 1); omega
    · omega

/-- At a place above p (in the tree): the argument that holds p. -/
theorem arg_holds {l : List S89} (hl : GoodL l) {t : List Int} (hT : Ter l t) {h p : Nat} (hh : h < p) (hp : p < endN l t h) (hpt : p < t.length) :
    kL p (argsL l t h) < (argsL l t h).length ∧ h < (argsL l t h).getD (kL p (argsL l t h)) 0 ∧ (argsL l t h).getD (kL p (argsL l t h)) 0 ≤ p ∧ p < endN l t ((argsL l t h).getD (kL p (argsL l t h)) 0) := by
  obtain ⟨ss, r, e, hn, hs, hter⟩ := hT.args_at (show h < t.length by omega)
  have hE : endN l t h = h + 1 + ss.flatten.length := by
    rw [endN_of hl (s := rd t h :: ss.flatten) (r := r) (by rw [drop_rd t h (by omega), e]; rfl) hter]
    simp only [List.length_cons]; omega
  rw [argsL_at hl e hn hs]
  rw [hE] at hp
  have key : ∀ (ss : List (List Int)) (q k : Nat) (r : List Int), (∀ s ∈ ss, Ter l s) → t.drop q = ss.flatten ++ r → q ≤ p → p < q + ss.flatten.length →
      kF p ((starts q ss).drop 1) k < k + ss.length ∧ q ≤ (starts q ss).getD (kF p ((starts q ss).drop 1) k - k) 0 ∧ (starts q ss).getD (kF p ((starts q ss).drop 1) k - k) 0 ≤ p ∧ p < endN l t ((starts q ss).getD (kF p ((starts q ss).drop 1) k - k) 0) := by
    intro ss
    induction ss with
    | nil => intro q k r _ _ h1 h2; simp at h2; omega
    | cons s ss ih =>
      intro q k r hs e h1 h2
      rw [List.flatten_cons, List.append_assoc] at e
      have hen := endN_of hl e (hs s (by simp))
      rw [List.flatten_cons, List.length_append] at h2
      simp only [starts, List.drop_succ_cons, List.drop_zero, List.length_cons]
      cases ss with
      | nil =>
        simp only [starts, kF]
        simp at h2 ⊢
        rw [hen]; omega
      | cons s2 ss =>
        simp only [starts, kF]
        by_cases h3 : q + s.length ≤ p
        · rw [if_pos h3]
          have h4 := ih (q + s.length) (k + 1) r (fun x hx => hs x (by simp [hx])) (by rw [← List.drop_drop, e]; simp) h3 (by omega)
          simp only [starts, List.drop_succ_cons, List.drop_zero, List.length_cons] at h4
          have h5 := (kF_ge p (starts (q + s.length + s2.length) ss) (k + 1)).1
          generalize kF p (starts (q + s.length + s2.length) ss) (k + 1) = K at h4 h5 ⊢
          obtain ⟨d, rfl⟩ : ∃ d, K = k + 1 + d := ⟨K - (k + 1), by omega⟩
          rw [show k + 1 + d - (k + 1) = d by omega] at h4
          rw [show k + 1 + d - k = d + 1 by omega, List.getD_cons_succ]
          simp only [List.length_cons]
          omega
        · rw [if_neg h3, Nat.sub_self, List.getD_cons_zero]
          rw [hen]; omega
  have h2 := key ss (h + 1) 0 r hs e (by omega) hp
  have h3 : (starts (h + 1) ss).length = ss.length := by
    have : ∀ (ss : List (List Int)) (q : Nat), (starts q ss).length = ss.length := by
      intro ss; induction ss with
      | nil => intro q; rfl
      | cons s ss ih => intro q; simp [starts, ih]
    exact this ss _
  rw [Nat.zero_add, Nat.sub_zero] at h2
  unfold kL
  omega
theorem kF_step {p : Nat} {xs : List Nat} {k : Nat} (h : k + 1 < xs.length) : kF p (xs.drop (k + 1)) k = if xs.getD (k + 1) 0 ≤ p then kF p (xs.drop (k + 1 + 1)) (k + 1) else k := by
  rw [List.drop_eq_getElem_cons h, kF]; simp [List.getD_eq_getElem?_getD, List.getElem?_eq_getElem h]
theorem kF_end {p : Nat} {xs : List Nat} {k : Nat} (h : xs.length ≤ k + 1) : kF p (xs.drop (k + 1)) k = k := by
  rw [List.drop_eq_nil_of_le h, kF]
theorem toI_at (xs : List Nat) (i : Nat) : rd (toI xs) i = (xs.getD i 0 : Nat) := by
  simp only [rd, toI, List.getD_eq_getElem?_getD, List.getElem?_map, Int.toNat_natCast]
  cases xs[i]? <;> rfl

theorem add_succ (ad : Addr) (k : Nat) : ad.add (k + 1) = ⟨ad.block, ad.off + (k + 1), none⟩ := by unfold Addr.add; rw [if_neg (by omega)]

theorem Path_bad (g : Nat) (l : List S89) (A : Option Addr) (c : Nat) (t : List Int) (p : Int) (w : World) (hs : SigC w g l) (hl : GoodL l)
    (ht : Kd.C (Kd.int .i64) w A t.length t) (hp : plc l t p ≠ 0) :
    Calls Try.prog 43 #[.pointer (some ⟨g, 0, none⟩), .slice A t.length c, .int .i64 p] w fun e w' => e = .returned (.tuple #[.slice none 0 0, .int .i64 (plc l t p)]) ∧ Below w.heap.size w w' := by
  have e1 : (plc l t p != 0) = true := bne_iff_ne.2 hp
  clear hp
  go_enter Try.func43, Try.ntmps43
  go_wp2_with (go_at_call 76; refine (place_any g l A c t p _ hs hl ht).mono ?_; rintro e w1 ⟨rfl, hb⟩)
  go_ret2
  exact ⟨rfl, hb⟩

set_option maxRecDepth 100000 in
set_option maxHeartbeats 2000000 in
theorem Path_ok (g : Nat) (l : List S89) (A : Option Addr) (c : Nat) (t : List Int) (p : Nat) (w : World) (hs : SigC w g l) (hl : GoodL l)
    (ht : Kd.C (Kd.int .i64) w A t.length t) (hp : plc l t p = 0) :
    Calls Try.prog 43 #[.pointer (some ⟨g, 0, none⟩), .slice A t.length c, .int .i64 p] w fun e w' => ∃ v r, e = .returned (.tuple #[v, .int .i64 0]) ∧ PathR l t p 0 r ∧ Kd.R (Kd.int .i64) 3 w' w.heap.size (fun _ => True) v (toI r) ∧ Below w.heap.size w w' := by
  obtain ⟨h1, h2, h3⟩ := plc_ok hp
  have h4 := chk_len h1
  have hT := chk_ter hl h1
  have hpt : p < t.length := by omega
  have hend := endN_of hl (t := t) (s := t) (r := []) (p := 0) (by simp) hT
  have e1 : (plc l t (p : Int) != 0) = false := bne_eq_false_iff_eq.2 hp
  have HS := Aside0.mk hs
  have HT := Aside0.mk ht
  have HV : Aside0 (∀ q, q < t.length → ∀ x ∈ argsL l t q, x ≤ t.length) := ⟨fun q hq x hx => Nat.le_of_lt (argsL_le hl hT hq x hx).2⟩
  have HH : Aside0 (∀ h, h < p → p < endN l t h → kL p (argsL l t h) < (argsL l t h).length ∧ h < (argsL l t h).getD (kL p (argsL l t h)) 0 ∧ (argsL l t h).getD (kL p (argsL l t h)) 0 ≤ p ∧ p < endN l t ((argsL l t h).getD (kL p (argsL l t h)) 0)) := ⟨fun h a b => arg_holds hl hT a b hpt⟩
  clear hp h1 hs ht hT h2 h3
  go_enter Try.func43, Try.ntmps43
  go_wp2_with (go_at_call 76; refine (place_any g l A c t p _ HS.out hl HT.out).mono ?_; rintro e w1 ⟨rfl, hb⟩)
  go_loopw [9, 10] (fun v a wr => ∃ (h : Nat) (done : List Nat), a = .int .i64 h ∧ h ≤ p ∧ Aside0 (p < endN l t h) ∧ Aside0 (∀ r, PathR l t p h r → PathR l t p 0 (done ++ r)) ∧ Aside0 (done.length ≤ h) ∧ Aside0 (Kd.R (Kd.int .i64) 3 wr w.heap.size (fun _ => True) v (toI done)) ∧ Aside0 (Below w.heap.size w wr)) (fun _ a _ => p - (intOf a).toNat)
  case atStart => exact ⟨0, [], rfl, by omega, ⟨by omega⟩, ⟨fun r h => h⟩, ⟨by simp⟩, ⟨Kd.R_nil _ _ _ _ _⟩, ⟨hb⟩⟩
  case round =>
    clear hend
    obtain ⟨h, done, rfl, hhp, HE, HD, HDL, HO, HB⟩ := hrel
    by_cases hq : h = p
    · subst hq
      have e2 : ((h : Int) != (h : Int)) = false := by simp
      go_wp2
      go_ret2
      exact ⟨_, done, rfl, by simpa using HD.out [] .refl, HO.out, HB.out⟩
    · have e2 : ((h : Int) != (p : Int)) = true := bne_iff_ne.2 (by omega)
      have hin := HH.out h (by omega) HE.out
      generalize hK : kL p (argsL l t h) = K at hin
      have hval := HV.out h (by omega)
      have HVL := Aside0.mk hval
      have hB1 := HB.out.size
      obtain ⟨hin1, hin2, hin3, hin4⟩ := hin
      have HK := Aside0.mk hK
      have HI4 := Aside0.mk hin4
      generalize hX : argsL l t h = xs at *
      generalize hN : xs.getD K 0 = N at *
      have HX := Aside0.mk hX
      have HN := Aside0.mk hN
      have hxl : xs.length ≤ 6 := by rw [← hX]; unfold argsL; rw [argsF_length]; have := ar_bd hl (rd t h); omega
      clear hval hin4 hX hK hN
      go_wp2_with (go_at_call 78; refine (args_any g l A c t h _ (HS.out.below HB.out) hl (Kd.C_below HT.out HB.out) h4 (by omega) (by rw [HX.out]; exact HVL.out)).mono ?_; rintro e w2 ⟨v2, rfl, hR2, hb2⟩; rw [HX.out] at hR2; obtain ⟨A2, c2, rfl, hc2, hC2⟩ := Kd.R_reads hR2; have hlen := toI_length xs)
      rw [hlen] at hc2 hC2
      have HC2 := Aside0.mk hC2
      have HR2 := Aside0.mk hR2
      clear hC2 hR2 hlen
      go_loop [12] (fun a => ∃ k : Nat, a = .int .i64 k ∧ k < xs.length ∧ Aside0 (kF p (xs.drop (k + 1)) k = K)) (fun a => xs.length - (intOf a).toNat)
      case atStart => exact ⟨0, rfl, by omega, ⟨by rw [← HK.out]; rfl⟩⟩
      case round =>
        obtain ⟨k, rfl, hk, HKK⟩ := hrel
        by_cases h5 : k + 1 < xs.length
        · obtain ⟨ad, e, hcell⟩ := int_at HC2.out (k + 1) h5
          cases e
          rw [toI_at, add_succ] at hcell
          have e3 : decide ((k : Int) + 1 < (xs.length : Int)) = true := decide_eq_true (by omega)
          have hE := HKK.out
          rw [kF_step h5] at hE
          generalize xs.getD (k + 1) 0 = X at hcell hE
          by_cases h6 : X ≤ p
          · rw [if_pos h6] at hE
            have e4 : decide ((X : Int) ≤ (p : Int)) = true := decide_eq_true (by omega)
            have HE2 := Aside0.mk hE
            clear hE HKK
            go_wp2
            go_round
            case rel => exact ⟨k + 1, by go_num, by omega, HE2⟩
            case measure => simp [intOf]; omega
          · rw [if_neg h6] at hE
            have e4 : decide ((X : Int) ≤ (p : Int)) = false := decide_eq_false (by omega)
            subst hE
            have HNEXT : ∀ r, PathR l t p N r → PathR l t p 0 ((done ++ [k]) ++ r) := fun r hr => by
              rw [List.append_assoc]
              refine HD.out (k :: r) ?_
              have hst := PathR.step (l := l) (t := t) (p := p) (h := h) (r := r) (by omega) (by rw [HX.out, HK.out, HN.out]; exact hr)
              rw [HX.out, HK.out] at hst
              exact hst
            have HB2 := Aside0.mk (below_then HB.out hB1 hb2)
            have HRN : Aside0 (Kd.R (Kd.int .i64) 3 w2 wr.heap.size (fun q => True ∧ some q ≠ u9.ownBlock) _ (toI xs)) := ⟨by obtain ⟨inner, hown⟩ := Kd.R_own HO.out; exact Kd.R_new HR2.out hown⟩
            replace HNEXT := Aside0.mk HNEXT
            clear HKK HX HK HD
            go_wp2_with (at_builtin; refine Kd.R_append (Kd.int .i64) (w0 := w) w.heap.size rfl (.tmp 43) (.tmp 45) 24 3 (.int .i64 0) 8 rfl Try.underlying24 info3 rfl (by decide) (by omega) u9 (toI done) (k : Int) [.int .i64 k] (fun _ => True) (fun _ => False) rfl rfl rfl (fun _ hk => hk.elim) (fun _ _ => trivial) (Kd.R_below HO.out hb2) HB2.out HB2.out.size (by have := HDL.out; rw [toI_length]; omega) ?_; intro v3 w3 ho3 hb3 hg3 hat3; obtain ⟨ad3, e3', hc3⟩ := int_at (Kd.R_reads' (Kd.R_grown (HRN.out) hg3 (fun _ hk => hk.2))).2.2 k (by rw [toI_length]; omega); rw [toI_at, HN.out] at hc3; cases e3')
            go_roundw
            case rel => exact ⟨N, done ++ [k], rfl, hin3, HI4, HNEXT, ⟨by have := HDL.out; simp only [List.length_append, List.length_singleton]; omega⟩, ⟨by rw [toI_append]; exact ho3⟩, ⟨hb3⟩⟩
            case measure => simp [intOf]; omega
        · have e3 : decide ((k : Int) + 1 < (xs.length : Int)) = false := decide_eq_false (by omega)
          have hE := HKK.out
          rw [kF_end (by omega)] at hE
          subst hE
          have HNEXT : ∀ r, PathR l t p N r → PathR l t p 0 ((done ++ [k]) ++ r) := fun r hr => by
            rw [List.append_assoc]
            refine HD.out (k :: r) ?_
            have hst := PathR.step (l := l) (t := t) (p := p) (h := h) (r := r) (by omega) (by rw [HX.out, HK.out, HN.out]; exact hr)
            rw [HX.out, HK.out] at hst
            exact hst
          have HB2 := Aside0.mk (below_then HB.out hB1 hb2)
          have HRN : Aside0 (Kd.R (Kd.int .i64) 3 w2 wr.heap.size (fun q => True ∧ some q ≠ u9.ownBlock) _ (toI xs)) := ⟨by obtain ⟨inner, hown⟩ := Kd.R_own HO.out; exact Kd.R_new HR2.out hown⟩
          replace HNEXT := Aside0.mk HNEXT
          clear HKK HX HK HD
          go_wp2_with (at_builtin; refine Kd.R_append (Kd.int .i64) (w0 := w) w.heap.size rfl (.tmp 43) (.tmp 45) 24 3 (.int .i64 0) 8 rfl Try.underlying24 info3 rfl (by decide) (by omega) u9 (toI done) (k : Int) [.int .i64 k] (fun _ => True) (fun _ => False) rfl rfl rfl (fun _ hk => hk.elim) (fun _ _ => trivial) (Kd.R_below HO.out hb2) HB2.out HB2.out.size (by have := HDL.out; rw [toI_length]; omega) ?_; intro v3 w3 ho3 hb3 hg3 hat3; obtain ⟨ad3, e3', hc3⟩ := int_at (Kd.R_reads' (Kd.R_grown (HRN.out) hg3 (fun _ hk => hk.2))).2.2 k (by rw [toI_length]; omega); rw [toI_at, HN.out] at hc3; cases e3')
          go_roundw
          case rel => exact ⟨N, done ++ [k], rfl, hin3, HI4, HNEXT, ⟨by have := HDL.out; simp only [List.length_append, List.length_singleton]; omega⟩, ⟨by rw [toI_append]; exact ho3⟩, ⟨hb3⟩⟩
          case measure => simp [intOf]; omega
end Go.Proofs.Ytadjoaipmcbieaa
