/- slices.Clone at a term; term.End, Args, Sub, Place, Path, Depth. -/
import Derived.Test.YtadjoaipmcbieaaS3
namespace Go.Proofs.Ytadjoaipmcbieaa
open Go.RowKit Go.Proofs.YtadjoaipmcbieaaW.PrintWords Go.Proofs.YtadjoaipmcbieaaW.PrintLast Go.Proofs.YtadjoaipmcbieaaW.PrintMore A

theorem own_empty (w : World) : Kd.R (Kd.int .i64) 3 (w.alloc (.cells #[] 3)) w.heap.size (fun _ => True) (.slice (some ⟨w.heap.size, 0, none⟩) 0 0) ([] : List Int) :=
  ⟨fun _ _ => trivial, [], ⟨rfl, .inr ⟨w.heap.size, 0, #[], rfl, Nat.le_refl _, heap_alloc_new w _, Nat.le_refl _, Nat.zero_le _, rfl, rfl⟩⟩, by exact Reps.none _ _⟩

set_option maxHeartbeats 1000000 in
theorem clone_any (A : Option Addr) (c : Nat) (t : List Int) (w : World) (ht : Kd.C (Kd.int .i64) w A t.length t) (hl : t.length ≤ 17592186044415) :
    Calls Try.prog 82 #[.slice A t.length c] w fun e w' => ∃ v, e = .returned v ∧ Kd.R (Kd.int .i64) 3 w' w.heap.size (fun _ => True) v t ∧ Below w.heap.size w w' := by
  have q : ∀ (w : World) (a : Option Addr) (n c : Nat), (binOp .eql 25 (.slice a n c) (.slice none 0 0)).run Try.prog w = .ok (.bool a.isNone) w := fun w a n c => Lib.run_eql_slice_nil w _ _ a n c 0 0 Try.underlying25
  have HT := Aside0.mk ht
  cases A with
  | none =>
    have h0 : t = [] := by
      rcases Nat.eq_zero_or_pos t.length with h | h
      · exact List.eq_nil_of_length_eq_zero h
      · obtain ⟨ad, e, _⟩ := ht.2.2 h; cases e
    subst h0
    clear ht hl
    go_enter Try.func82, Try.ntmps82
    go_wp2_with fail
    go_ret
    exact ⟨_, rfl, Kd.R_nil _ _ _ _ _, Below.refl _ _⟩
  | some ad =>
    clear ht
    go_enter Try.func82, Try.ntmps82
    go_wp2_with ((at_builtin; refine Kd.R_append_rows (Kd.int .i64) (Rr := fun x cs => cs = [.int .i64 x]) (w0 := w) w.heap.size rfl (.tmp 5) (.tmp 6) 25 3 (.int .i64 0) 8 rfl Try.underlying25 info3 rfl (by decide) (by omega) (.slice (some ⟨w.heap.size, 0, none⟩) 0 0) [] t (some ad) t.length c (fun _ => True) (fun _ => False) rfl rfl (own_empty w) (Kd.C_below HT.out (below_alloc (Below.refl _ _) _)) (fun _ _ h => h) (fun _ hk => hk.elim) (fun _ _ => trivial) (below_alloc (Below.refl _ _) _) (by simp) (by simp only [List.length_nil]; omega) ?_; intro v1 w1 ho hb hg hat))
    go_ret
    exact ⟨_, rfl, by simpa using ho, hb⟩
theorem clone_n (A : Option Addr) (c n : Nat) (t : List Int) (w : World) (ht : Kd.C (Kd.int .i64) w A n t) (hl : n ≤ 17592186044415) :
    Calls Try.prog 82 #[.slice A n c] w fun e w' => ∃ v, e = .returned v ∧ Kd.R (Kd.int .i64) 3 w' w.heap.size (fun _ => True) v t ∧ Below w.heap.size w w' := by
  obtain rfl : t.length = n := ht.1
  exact clone_any A c t w ht hl

/-- End where the place is wrong. -/
theorem End_bad (g : Nat) (l : List S89) (A : Option Addr) (c : Nat) (t : List Int) (p : Int) (w : World) (hs : SigC w g l) (hl : GoodL l)
    (ht : Kd.C (Kd.int .i64) w A t.length t) (hp : plc l t p ≠ 0) :
    Calls Try.prog 36 #[.pointer (some ⟨g, 0, none⟩), .slice A t.length c, .int .i64 p] w fun e w' => e = .returned (.tuple #[.int .i64 0, .int .i64 (plc l t p)]) ∧ Below w.heap.size w w' := by
  have e1 : (plc l t p != 0) = true := bne_iff_ne.2 hp
  clear hp
  go_enter Try.func36, Try.ntmps36
  go_wp2_with (go_at_call 76; refine (place_any g l A c t p _ hs hl ht).mono ?_; rintro e w1 ⟨rfl, hb⟩)
  go_ret2
  exact ⟨rfl, hb⟩
theorem plc_ok {l : List S89} {t : List Int} {p : Int} (h : plc l t p = 0) : chk l t = 0 ∧ 0 ≤ p ∧ p < t.length := by
  unfold plc at h
  split at h
  · split at h
    · omega
    · split at h <;> omega
  · omega
theorem chk_len {l : List S89} {t : List Int} (h : chk l t = 0) : t.length ≤ 2000 := by
  unfold chk at h; split at h <;> omega
theorem End_ok (g : Nat) (l : List S89) (A : Option Addr) (c : Nat) (t : List Int) (p : Int) (w : World) (hs : SigC w g l) (hl : GoodL l)
    (ht : Kd.C (Kd.int .i64) w A t.length t) (hp : plc l t p = 0) :
    Calls Try.prog 36 #[.pointer (some ⟨g, 0, none⟩), .slice A t.length c, .int .i64 p] w fun e w' => e = .returned (.tuple #[.int .i64 (endN l t p.toNat), .int .i64 0]) ∧ Below w.heap.size w w' := by
  obtain ⟨h1, h2, h3⟩ := plc_ok hp
  have h4 := chk_len h1
  obtain ⟨p, rfl⟩ := Int.eq_ofNat_of_zero_le h2
  have e1 : (plc l t (p : Int) != 0) = false := bne_eq_false_iff_eq.2 hp
  rw [Int.toNat_natCast, endN_cast]
  clear hp h1
  go_enter Try.func36, Try.ntmps36
  go_wp2_with (first | (go_at_call 76; refine (place_any g l A c t p _ hs hl ht).mono ?_; rintro e w1 ⟨rfl, hb⟩) | (go_at_call 77; refine (end_any g l A c t p _ (hs.below hb) hl (Kd.C_below ht hb) h4 (by omega)).mono ?_; rintro e w2 ⟨rfl, hb2⟩))
  go_ret2
  exact ⟨rfl, below_then hb hb.size hb2⟩

theorem Args_bad (g : Nat) (l : List S89) (A : Option Addr) (c : Nat) (t : List Int) (p : Int) (w : World) (hs : SigC w g l) (hl : GoodL l)
    (ht : Kd.C (Kd.int .i64) w A t.length t) (hp : plc l t p ≠ 0) :
    Calls Try.prog 37 #[.pointer (some ⟨g, 0, none⟩), .slice A t.length c, .int .i64 p] w fun e w' => e = .returned (.tuple #[.slice none 0 0, .int .i64 (plc l t p)]) ∧ Below w.heap.size w w' := by
  have e1 : (plc l t p != 0) = true := bne_iff_ne.2 hp
  clear hp
  go_enter Try.func37, Try.ntmps37
  go_wp2_with (go_at_call 76; refine (place_any g l A c t p _ hs hl ht).mono ?_; rintro e w1 ⟨rfl, hb⟩)
  go_ret2
  exact ⟨rfl, hb⟩
theorem Args_ok (g : Nat) (l : List S89) (A : Option Addr) (c : Nat) (t : List Int) (p : Int) (w : World) (hs : SigC w g l) (hl : GoodL l)
    (ht : Kd.C (Kd.int .i64) w A t.length t) (hp : plc l t p = 0) (hv : ∀ x ∈ argsL l t p.toNat, x ≤ t.length) :
    Calls Try.prog 37 #[.pointer (some ⟨g, 0, none⟩), .slice A t.length c, .int .i64 p] w fun e w' => ∃ v, e = .returned (.tuple #[v, .int .i64 0]) ∧ Kd.R (Kd.int .i64) 3 w' w.heap.size (fun _ => True) v (toI (argsL l t p.toNat)) ∧ Below w.heap.size w w' := by
  obtain ⟨h1, h2, h3⟩ := plc_ok hp
  have h4 := chk_len h1
  have e1 : (plc l t p != 0) = false := bne_eq_false_iff_eq.2 hp
  clear hp h1
  go_enter Try.func37, Try.ntmps37
  go_wp2_with (first | (go_at_call 76; refine (place_any g l A c t p _ hs hl ht).mono ?_; rintro e w1 ⟨rfl, hb⟩) | (go_at_call 78; refine (args_any0 g l A c t p _ (hs.below hb) hl (Kd.C_below ht hb) h4 h2 h3 hv).mono ?_; rintro e w2 ⟨v, rfl, hR, hb2⟩))
  go_ret2
  exact ⟨_, rfl, Kd.R_lower hR hb.size, below_then hb hb.size hb2⟩

theorem Sub_bad (g : Nat) (l : List S89) (A : Option Addr) (c : Nat) (t : List Int) (p : Int) (w : World) (hs : SigC w g l) (hl : GoodL l)
    (ht : Kd.C (Kd.int .i64) w A t.length t) (hp : plc l t p ≠ 0) :
    Calls Try.prog 41 #[.pointer (some ⟨g, 0, none⟩), .slice A t.length c, .int .i64 p] w fun e w' => e = .returned (.tuple #[.slice none 0 0, .int .i64 (plc l t p)]) ∧ Below w.heap.size w w' := by
  have e1 : (plc l t p != 0) = true := bne_iff_ne.2 hp
  clear hp
  go_enter Try.func41, Try.ntmps41
  go_wp2_with (go_at_call 76; refine (place_any g l A c t p _ hs hl ht).mono ?_; rintro e w1 ⟨rfl, hb⟩)
  go_ret2
  exact ⟨rfl, hb⟩

/-- The subterm at p. -/
def subL (l : List S89) (t : List Int) (p : Nat) : List Int := (t.take (endN l t p)).drop p
theorem endN_ge {l : List S89} {t : List Int} {p : Nat} : p ≤ endN l t p := by
  have := (fin_ge (a := ar l) (t.drop p) 1 p).1; unfold endN; omega
theorem subL_length {l : List S89} {t : List Int} {p : Nat} (h : endN l t p ≤ t.length) : (subL l t p).length = endN l t p - p := by
  simp [subL]; omega
set_option maxHeartbeats 1000000 in
theorem Sub_ok (g : Nat) (l : List S89) (A : Option Addr) (c : Nat) (t : List Int) (p : Int) (w : World) (hs : SigC w g l) (hl : GoodL l)
    (ht : Kd.C (Kd.int .i64) w A t.length t) (hc : t.length ≤ c) (hp : plc l t p = 0) (hv : endN l t p.toNat ≤ t.length) :
    Calls Try.prog 41 #[.pointer (some ⟨g, 0, none⟩), .slice A t.length c, .int .i64 p] w fun e w' => ∃ v, e = .returned (.tuple #[v, .int .i64 0]) ∧ Kd.R (Kd.int .i64) 3 w' w.heap.size (fun _ => True) v (subL l t p.toNat) ∧ Below w.heap.size w w' := by
  obtain ⟨h1, h2, h3⟩ := plc_ok hp
  have h4 := chk_len h1
  obtain ⟨p, rfl⟩ := Int.eq_ofNat_of_zero_le h2
  have e1 : (plc l t (p : Int) != 0) = false := bne_eq_false_iff_eq.2 hp
  rw [Int.toNat_natCast] at hv ⊢
  have h5 := endN_ge (l := l) (t := t) (p := p)
  obtain ⟨ad, e, _⟩ := int_at ht p (by omega)
  cases e
  have hl1 := subL_length hv
  have hcut : ∀ W, Below w.heap.size w W → Kd.C (Kd.int .i64) W (some (ad.add p)) (subL l t p).length (subL l t p) := by
    intro W hW
    have h6 := Kd.C_take (Kd.C_below ht hW) hv
    have h7 := Kd.C_drop (m := p) (c := c) h6 (by rw [List.length_take]; omega) (by rw [List.length_take]; omega)
    rw [if_neg (by omega)] at h7
    simpa [subL, Kd.int, Kd.scalar] using h7
  have HC := Aside0.mk (endN_cast (l := l) (t := t) (p := p))
  have HL := Aside0.mk hl1
  have HS := Aside0.mk hs
  have HT := Aside0.mk ht
  have HX := Aside0.mk hcut
  clear hp h1 hl1 hs ht hcut
  generalize endN l t p = E at *
  go_enter Try.func41, Try.ntmps41
  go_wp2_with (first | (go_at_call 76; refine (place_any g l _ c t p _ HS.out hl HT.out).mono ?_; rintro e w1 ⟨rfl, hb⟩) | (go_at_call 77; refine (end_any g l _ c t p _ (HS.out.below hb) hl (Kd.C_below HT.out hb) h4 (by omega)).mono ?_; rintro e w2 ⟨rfl, hb2⟩; rw [← HC.out]))
  refine (clone_n _ _ _ (subL l t p) _ (by rw [← HL.out]; exact HX.out _ (below_then hb hb.size hb2)) (by omega)).mono ?_
  rintro e w3 ⟨v, rfl, hR, hb3⟩
  go_wp2
  go_ret2
  exact ⟨_, rfl, Kd.R_lower hR (Nat.le_trans hb.size hb2.size), below_then (below_then hb hb.size hb2) (Nat.le_trans hb.size hb2.size) hb3⟩
end Go.Proofs.Ytadjoaipmcbieaa
