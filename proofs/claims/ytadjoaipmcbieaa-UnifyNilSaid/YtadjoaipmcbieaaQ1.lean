/- ropewalkref02.Put, Check, places, End: their contracts, told as term's own answers. -/
import Derived.Test.YtadjoaipmcbieaaQ0
import Derived.Test.YtadjoaipmcbieaaS6
namespace Go.Proofs.Ytadjoaipmcbieaa
open Go.RowKit Go.Proofs.YtadjoaipmcbieaaW.PrintWords Go.Proofs.YtadjoaipmcbieaaW.PrintLast Go.Proofs.YtadjoaipmcbieaaW.PrintMore A
set_option linter.unusedSimpArgs false

theorem refCheck_any (A : Option Addr) (c : Nat) (l : List S89) (B : Option Addr) (n d : Nat) (t : List Int) (w : World) (hr : Kd.C k89 w A l.length l) (hc : l.length ≤ c) (hl : GoodL l)
    (ht : Kd.C (Kd.int .i64) w B n t) (hd : n ≤ d) :
    Calls Try.prog 29 #[.slice A l.length c, .slice B n d] w fun e w' => e = .returned (.int .i64 (chk l t)) ∧ Drawn0 w w' := by
  obtain rfl : t.length = n := ht.1
  exact ropewalkref02_Check.calls _ A c l B d t _ w hr hc ht hd (rcheck hl t (Nat.lt_succ_self _))
theorem refplaces_any (A : Option Addr) (c : Nat) (l : List S89) (B : Option Addr) (n d : Nat) (t : List Int) (p : Int) (w : World) (hr : Kd.C k89 w A l.length l) (hc : l.length ≤ c) (hl : GoodL l)
    (ht : Kd.C (Kd.int .i64) w B n t) (hd : n ≤ d) :
    Calls Try.prog 28 #[.slice A l.length c, .slice B n d, .int .i64 p] w fun e w' => e = .returned (.int .i64 (plc l t p)) ∧ Drawn0 w w' := by
  obtain rfl : t.length = n := ht.1
  exact ropewalklaw02_places.calls _ A c l B d t p _ w hr hc ht hd (rplaces hl t p (Nat.lt_succ_self _))
theorem refEnd_ok (A : Option Addr) (c : Nat) (l : List S89) (B : Option Addr) (n d : Nat) (t : List Int) (p : Nat) (w : World) (hr : Kd.C k89 w A l.length l) (hc : l.length ≤ c) (hl : GoodL l)
    (ht : Kd.C (Kd.int .i64) w B n t) (hd : n ≤ d) (h2 : t.length ≤ 2000) (hp : p ≤ t.length) (he : endN l t p ≤ t.length) :
    Calls Try.prog 44 #[.slice A l.length c, .slice B n d, .int .i64 p] w fun e w' => e = .returned (.int .i64 (endN l t p)) ∧ Drawn0 w w' := by
  obtain rfl : t.length = n := ht.1
  exact ropewalkref02_End.calls _ A c l B d t p _ w hr hc ht hd (rend_ok hl h2 p hp he (Nat.lt_succ_self _))

set_option maxRecDepth 100000 in
set_option maxHeartbeats 1000000 in
theorem refPut_ok (A : Option Addr) (c : Nat) (l : List S89) (B : Option Addr) (d : Nat) (t : List Int) (p : Nat) (C : Option Addr) (e : Nat) (u : List Int) (w : World) (hr : Kd.C k89 w A l.length l) (hc : l.length ≤ c) (hl : GoodL l)
    (ht : Kd.C (Kd.int .i64) w B t.length t) (hd : t.length ≤ d) (hu : Kd.C (Kd.int .i64) w C u.length u) (h2 : t.length ≤ 2000) (h3 : u.length ≤ 2000) (hp : p < t.length) (hE : endN l t p ≤ t.length) :
    Calls Try.prog 30 #[.slice A l.length c, .slice B t.length d, .int .i64 p, .slice C u.length e] w fun e w' => ∃ v, e = .returned v ∧ Kd.R (Kd.int .i64) 3 w' w.heap.size (fun _ => True) v (putL l t p u) ∧ Below w.heap.size w w' := by
  have e1 : decide ((p : Int) < 0) = false := decide_eq_false (by omega)
  have e2 : decide ((t.length : Int) ≤ (p : Int)) = false := decide_eq_false (by omega)
  have hpd : p ≤ d := by omega
  have hEd : endN l t p ≤ d := by omega
  have HL := Aside0.mk hr
  have HT := Aside0.mk ht
  have HU := Aside0.mk hu
  have HTP : Aside0 (∀ W, Below w.heap.size w W → Kd.C (Kd.int .i64) W B p (t.take p)) := ⟨fun W hW => by
    have h := Kd.C_take (m := p) (Kd.C_below ht hW) (by omega)
    simpa [List.length_take, Nat.min_eq_left (Nat.le_of_lt hp)] using h⟩
  clear hr ht hu
  obtain ⟨ad, rfl, _⟩ := int_at HT.out p hp
  have HTD : Aside0 (∀ W, Below w.heap.size w W → Kd.C (Kd.int .i64) W (if d = endN l t p then some ad else some (ad.add (endN l t p))) (t.length - endN l t p) (t.drop (endN l t p))) := ⟨fun W hW => by
    have h := Kd.C_drop (m := endN l t p) (c := d) (Kd.C_below HT.out hW) hE hd
    have e : (t.drop (endN l t p)).length = t.length - endN l t p := by simp
    have e2 : endN l t p * (Kd.int .i64).sz = endN l t p := Nat.mul_one _
    rw [e, e2] at h
    exact h⟩
  by_cases hde : d = endN l t p
  · rw [if_pos hde] at HTD
    subst hde
    have hz : t.length - endN l t p = 0 := by omega
    have hz2 : t.drop (endN l t p) = [] := List.drop_eq_nil_of_le (by omega)
    have hput : putL l t p u = t.take p ++ (u ++ []) := by unfold putL; rw [hz2]
    rw [hz, hz2] at HTD
    rw [hput]
    go_enter Try.func30, Try.ntmps30
    go_wp2_with (first
      | (at_builtin; refine Kd.R_append_rows (Kd.int .i64) (Rr := fun x cs => cs = [.int .i64 x]) (w0 := w) w.heap.size rfl (.tmp 18) (.tmp 21) 25 3 (.int .i64 0) 8 rfl Try.underlying25 info3 rfl (by decide) (by omega) (.slice (some ⟨w.heap.size, 0, none⟩) 0 0) [] (t.take p) (some ad) p (endN l t p) (fun _ => True) (fun _ => False) rfl rfl (own_empty w) (HTP.out _ (below_alloc (Below.refl _ _) _)) (fun _ _ h => h) (fun _ hk => hk.elim) (fun _ _ => trivial) (below_alloc (Below.refl _ _) _) (by simp) (by simp only [List.length_nil]; omega) ?_; intro v1 w1 ho hb hg hat; rw [List.nil_append] at ho; have HO := Aside0.mk ho; have HB := Aside0.mk hb; clear ho hb hg hat)
      | (at_builtin; refine Kd.R_append_rows (Kd.int .i64) (Rr := fun x cs => cs = [.int .i64 x]) (w0 := w) w.heap.size rfl (.tmp 23) (.tmp 24) 25 3 (.int .i64 0) 8 rfl Try.underlying25 info3 rfl (by decide) (by omega) v1 (t.take p) u C u.length e (fun _ => True) (fun _ => False) rfl rfl HO.out (Kd.C_below HU.out HB.out) (fun _ _ h => h) (fun _ hk => hk.elim) (fun _ _ => trivial) HB.out HB.out.size (by simp only [List.length_take]; omega) ?_; intro v2 w2 ho hb hg hat; have HO2 := Aside0.mk ho; have HB2 := Aside0.mk hb; clear ho hb hg hat)
      | (go_at_call 44; refine (refEnd_ok A c l _ _ _ t p _ (Kd.C_below HL.out HB2.out) hc hl (Kd.C_below HT.out HB2.out) hd h2 (by omega) hE).mono ?_; rintro e w3 ⟨rfl, hd3⟩; have HB3 := Aside0.mk hd3.below; clear hd3)
      | (at_builtin; refine Kd.R_append_rows (Kd.int .i64) (Rr := fun x cs => cs = [.int .i64 x]) (w0 := w) w.heap.size rfl (.tmp 26) (.tmp 32) 25 3 (.int .i64 0) 8 rfl Try.underlying25 info3 rfl (by decide) (by omega) v2 (t.take p ++ u) [] (some ad) 0 0 (fun _ => True) (fun _ => False) rfl rfl (Kd.R_below HO2.out HB3.out) (HTD.out _ (below_then HB2.out HB2.out.size HB3.out)) (fun _ _ h => h) (fun _ hk => hk.elim) (fun _ _ => trivial) (below_then HB2.out HB2.out.size HB3.out) (below_then HB2.out HB2.out.size HB3.out).size (by simp only [List.length_append, List.length_take]; omega) ?_; intro v4 w4 ho hb hg hat; rw [List.append_assoc] at ho; have HO4 := Aside0.mk ho; have HB4 := Aside0.mk hb; clear ho hb hg hat))
    go_ret
    exact ⟨_, rfl, HO4.out, HB4.out⟩
  · rw [if_neg hde] at HTD
    go_enter Try.func30, Try.ntmps30
    go_wp2_with (first
      | (at_builtin; refine Kd.R_append_rows (Kd.int .i64) (Rr := fun x cs => cs = [.int .i64 x]) (w0 := w) w.heap.size rfl (.tmp 18) (.tmp 21) 25 3 (.int .i64 0) 8 rfl Try.underlying25 info3 rfl (by decide) (by omega) (.slice (some ⟨w.heap.size, 0, none⟩) 0 0) [] (t.take p) (some ad) p d (fun _ => True) (fun _ => False) rfl rfl (own_empty w) (HTP.out _ (below_alloc (Below.refl _ _) _)) (fun _ _ h => h) (fun _ hk => hk.elim) (fun _ _ => trivial) (below_alloc (Below.refl _ _) _) (by simp) (by simp only [List.length_nil]; omega) ?_; intro v1 w1 ho hb hg hat; rw [List.nil_append] at ho; have HO := Aside0.mk ho; have HB := Aside0.mk hb; clear ho hb hg hat)
      | (at_builtin; refine Kd.R_append_rows (Kd.int .i64) (Rr := fun x cs => cs = [.int .i64 x]) (w0 := w) w.heap.size rfl (.tmp 23) (.tmp 24) 25 3 (.int .i64 0) 8 rfl Try.underlying25 info3 rfl (by decide) (by omega) v1 (t.take p) u C u.length e (fun _ => True) (fun _ => False) rfl rfl HO.out (Kd.C_below HU.out HB.out) (fun _ _ h => h) (fun _ hk => hk.elim) (fun _ _ => trivial) HB.out HB.out.size (by simp only [List.length_take]; omega) ?_; intro v2 w2 ho hb hg hat; have HO2 := Aside0.mk ho; have HB2 := Aside0.mk hb; clear ho hb hg hat)
      | (go_at_call 44; refine (refEnd_ok A c l _ _ _ t p _ (Kd.C_below HL.out HB2.out) hc hl (Kd.C_below HT.out HB2.out) hd h2 (by omega) hE).mono ?_; rintro e w3 ⟨rfl, hd3⟩; have HB3 := Aside0.mk hd3.below; clear hd3)
      | (at_builtin; refine Kd.R_append_rows (Kd.int .i64) (Rr := fun x cs => cs = [.int .i64 x]) (w0 := w) w.heap.size rfl (.tmp 26) (.tmp 32) 25 3 (.int .i64 0) 8 rfl Try.underlying25 info3 rfl (by decide) (by omega) v2 (t.take p ++ u) (t.drop (endN l t p)) (some (ad.add (endN l t p))) (t.length - endN l t p) (d - endN l t p) (fun _ => True) (fun _ => False) rfl rfl (Kd.R_below HO2.out HB3.out) (HTD.out _ (below_then HB2.out HB2.out.size HB3.out)) (fun _ _ h => h) (fun _ hk => hk.elim) (fun _ _ => trivial) (below_then HB2.out HB2.out.size HB3.out) (below_then HB2.out HB2.out.size HB3.out).size (by simp only [List.length_append, List.length_take]; omega) ?_; intro v4 w4 ho hb hg hat; rw [List.append_assoc] at ho; have HO4 := Aside0.mk ho; have HB4 := Aside0.mk hb; clear ho hb hg hat))
    go_ret
    exact ⟨_, rfl, HO4.out, HB4.out⟩
end Go.Proofs.Ytadjoaipmcbieaa
