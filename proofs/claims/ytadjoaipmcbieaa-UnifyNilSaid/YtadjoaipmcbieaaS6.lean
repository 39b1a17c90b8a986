/- term.Put: a term with another subterm at a place. -/
import Derived.Test.YtadjoaipmcbieaaSS
import Derived.Laws.CopyOwn
import Derived.StillTailTactics
namespace Go.Proofs.Ytadjoaipmcbieaa
open Go.RowKit Go.Proofs.YtadjoaipmcbieaaW.PrintWords Go.Proofs.YtadjoaipmcbieaaW.PrintLast Go.Proofs.YtadjoaipmcbieaaW.PrintMore A

theorem Put_bad (g : Nat) (l : List S89) (A : Option Addr) (c : Nat) (t : List Int) (p : Int) (v : Value) (w : World) (hs : SigC w g l) (hl : GoodL l)
    (ht : Kd.C (Kd.int .i64) w A t.length t) (hp : plc l t p ≠ 0) :
    Calls Try.prog 31 #[.pointer (some ⟨g, 0, none⟩), .slice A t.length c, .int .i64 p, v] w fun e w' => e = .returned (.tuple #[.slice none 0 0, .int .i64 (plc l t p)]) ∧ Below w.heap.size w w' := by
  have e1 : (plc l t p != 0) = true := bne_iff_ne.2 hp
  clear hp
  go_enter Try.func31, Try.ntmps31
  go_wp2_with (go_at_call 76; refine (place_any g l A c t p _ hs hl ht).mono ?_; rintro e w1 ⟨rfl, hb⟩)
  go_ret2
  exact ⟨rfl, hb⟩
theorem Put_bad2 (g : Nat) (l : List S89) (A B : Option Addr) (c d : Nat) (t u : List Int) (p : Int) (w : World) (hs : SigC w g l) (hl : GoodL l)
    (ht : Kd.C (Kd.int .i64) w A t.length t) (hu : Kd.C (Kd.int .i64) w B u.length u) (hp : plc l t p = 0) (hk : chk l u ≠ 0) :
    Calls Try.prog 31 #[.pointer (some ⟨g, 0, none⟩), .slice A t.length c, .int .i64 p, .slice B u.length d] w fun e w' => e = .returned (.tuple #[.slice none 0 0, .int .i64 (chk l u)]) ∧ Below w.heap.size w w' := by
  have e1 : (plc l t p != 0) = false := bne_eq_false_iff_eq.2 hp
  have e2 : (chk l u != 0) = true := bne_iff_ne.2 hk
  clear hp hk
  go_enter Try.func31, Try.ntmps31
  go_wp2_with (first | (go_at_call 76; refine (place_any g l A c t p _ hs hl ht).mono ?_; rintro e w1 ⟨rfl, hb⟩) | (go_at_call 38; refine (check_any g l B d u _ (hs.below hb) hl (Kd.C_below hu hb)).mono ?_; rintro e w2 ⟨rfl, hb2⟩))
  go_ret2
  exact ⟨rfl, below_then hb hb.size hb2⟩

/-- make([]int, n), n being told as a sum. -/
theorem make_ints (x : Int) (N : Nat) (hx : x = N) (hN : N ≤ 17592186044416) : ∃ Z : List Value, Z.length = N ∧ (∀ (i : Nat) (u : Value), Z[i]? = some u → u = Value.int .i64 0) ∧
    ∀ W : World, (Instr.makeSlice 25 (.int .i64 x) (.int .i64 x)).run Try.prog W = .ok (.slice (some ⟨W.heap.size, 0, none⟩) N N) (W.alloc (.cells Z.toArray 3)) := by
  subst hx
  obtain ⟨i0, hi, hz0, hz1, hz2⟩ := info_parts info3
  refine ⟨(madeCells #[.int .i64 0] N).toList, by simp [size_madeCells], fun i u hu => ?_, fun W => ?_⟩
  · simp [madeCells] at hu
    obtain ⟨a, ha, rfl⟩ := hu
    simp [Nat.mod_one]
  · have hr := run_make (P := Try.prog) W 25 3 i0 (.int .i64 0) Try.underlying25 hi hz0 .i64 .i64 N N (by omega) (by omega) (by rw [hz2]; omega) (by omega)
    rw [hz1] at hr
    simpa [Value.cells] using hr

theorem nums_cells {w : World} {A : Option Addr} {n : Nat} {xs : List Int} (h : Kd.C (Kd.int .i64) w A n xs) : 0 < n → ∃ ad, A = some ad ∧ ∀ (j : Nat) (v : Value), (nums .i64 xs)[j]? = some v → w.cell? (ad.add j) = some v := by
  intro hn
  obtain ⟨ad, e, _⟩ := int_at h 0 hn
  refine ⟨ad, e, fun j v hv => ?_⟩
  have hl : xs.length = n := h.1
  have hj : j < xs.length := by have := (List.getElem?_eq_some_iff.1 hv).1; simpa [nums] using this
  obtain ⟨ad', e', hc⟩ := int_at h j (by omega)
  rw [e] at e'
  obtain rfl := Option.some.inj e'
  rw [hc, ← hv]
  simp [nums, List.getElem?_eq_getElem hj, rd, List.getD_eq_getElem?_getD]
theorem nums_one (k : IntKind) (xs : List Int) : ∀ v ∈ nums k xs, v.oneCell' = true := by
  intro v hv
  simp only [nums, List.mem_map] at hv
  obtain ⟨x, _, rfl⟩ := hv
  rfl

/-- A block that holds just numbers, and the slice over all of it. -/
theorem ints_own {W : World} {g N base : Nat} {R : List Int} (h : W.heap[g]? = some (.cells (nums .i64 R).toArray 3 (0, 0))) (hN : R.length = N) (hb : base ≤ g) (hm : N ≤ 17592186044416) : Kd.R (Kd.int .i64) 3 W base (fun _ => True) (.slice (some ⟨g, 0, none⟩) N N) R := by
  subst hN
  exact Kd.R_of_own (enc := Value.int .i64) ⟨by simp [encs], .inr ⟨g, R.length, _, rfl, hb, h, Nat.le_refl _, by unfold maxLen; omega, by simp [nums_length], by rw [List.take_of_length_le (by simp [nums_length])]; rfl⟩⟩ (fun _ _ => trivial)

/-- t with u in the place of the subterm at p. -/
def putL (l : List S89) (t : List Int) (p : Nat) (u : List Int) : List Int := t.take p ++ (u ++ t.drop (endN l t p))

set_option maxHeartbeats 1000000 in
theorem Put_long (g : Nat) (l : List S89) (A B : Option Addr) (c d : Nat) (t u : List Int) (p : Nat) (w : World) (hs : SigC w g l) (hl : GoodL l)
    (ht : Kd.C (Kd.int .i64) w A t.length t) (hu : Kd.C (Kd.int .i64) w B u.length u) (hp : plc l t p = 0) (hk : chk l u = 0) (hlong : 2000 < (putL l t p u).length) :
    Calls Try.prog 31 #[.pointer (some ⟨g, 0, none⟩), .slice A t.length c, .int .i64 p, .slice B u.length d] w fun e w' => e = .returned (.tuple #[.slice none 0 0, .int .i64 20]) ∧ Below w.heap.size w w' := by
  obtain ⟨h1, h2, h3⟩ := plc_ok hp
  have h4 := chk_len h1
  have h5 := chk_len hk
  have h6 := endN_le hl (chk_ter hl h1) (show p < t.length by omega)
  have e1 : (plc l t (p : Int) != 0) = false := bne_eq_false_iff_eq.2 hp
  have e2 : (chk l u != 0) = false := bne_eq_false_iff_eq.2 hk
  have HC := Aside0.mk (endN_cast (l := l) (t := t) (p := p))
  have h7 : (putL l t p u).length = p + u.length + (t.length - endN l t p) := by simp [putL]; omega
  rw [h7] at hlong
  clear h7 hp hk h1
  generalize endN l t p = E at *
  have e3 : decide (2000 < ((p : Int) + u.length + t.length - E)) = true := decide_eq_true (by omega)
  go_enter Try.func31, Try.ntmps31
  go_wp2_with (first | (go_at_call 76; refine (place_any g l A c t p _ hs hl ht).mono ?_; rintro e w1 ⟨rfl, hb⟩) | (go_at_call 38; refine (check_any g l B d u _ (hs.below hb) hl (Kd.C_below hu hb)).mono ?_; rintro e w2 ⟨rfl, hb2⟩; have hb3 := below_then hb hb.size hb2) | (go_at_call 77; refine (end_any g l _ c t p _ (hs.below hb3) hl (Kd.C_below ht hb3) h4 (by omega)).mono ?_; rintro e w4 ⟨rfl, hb4⟩; rw [← HC.out]))
  go_ret2
  exact ⟨rfl, below_then hb3 hb3.size hb4⟩

set_option maxRecDepth 100000 in
set_option maxHeartbeats 2000000 in
theorem Put_ok (g : Nat) (l : List S89) (A B : Option Addr) (c d : Nat) (t u : List Int) (p : Nat) (w : World) (hs : SigC w g l) (hl : GoodL l)
    (ht : Kd.C (Kd.int .i64) w A t.length t) (hc : t.length ≤ c) (hu : Kd.C (Kd.int .i64) w B u.length u) (hp : plc l t p = 0) (hk : chk l u = 0) (hlong : (putL l t p u).length ≤ 2000) :
    Calls Try.prog 31 #[.pointer (some ⟨g, 0, none⟩), .slice A t.length c, .int .i64 p, .slice B u.length d] w fun e w' => ∃ v, e = .returned (.tuple #[v, .int .i64 0]) ∧ Kd.R (Kd.int .i64) 3 w' w.heap.size (fun _ => True) v (putL l t p u) ∧ Below w.heap.size w w' := by
  obtain ⟨h1, h2, h3⟩ := plc_ok hp
  have h4 := chk_len h1
  have h5 := chk_len hk
  have hu1 := (chk_ter hl hk).pos
  have h6 := endN_le hl (chk_ter hl h1) (show p < t.length by omega)
  have e1 : (plc l t (p : Int) != 0) = false := bne_eq_false_iff_eq.2 hp
  have e2 : (chk l u != 0) = false := bne_eq_false_iff_eq.2 hk
  have HC := Aside0.mk (endN_cast (l := l) (t := t) (p := p))
  have h7 : (putL l t p u).length = p + u.length + (t.length - endN l t p) := by simp [putL]; omega
  rw [h7] at hlong
  have HP : Aside0 (putL l t p u = t.take p ++ (u ++ t.drop (endN l t p))) := ⟨rfl⟩
  generalize putL l t p u = R at *
  have HS := Aside0.mk hs
  have HT := Aside0.mk ht
  have HU := Aside0.mk hu
  clear hp hk h1 hs ht hu
  generalize endN l t p = E at *
  obtain ⟨N, hN⟩ : ∃ N : Nat, N = p + u.length + (t.length - E) := ⟨_, rfl⟩
  have hNI : ((p : Int) + u.length + t.length - E) = (N : Int) := by omega
  have HN := Aside0.mk hNI
  clear h7 hNI
  obtain ⟨Z, hZ, -, hmk⟩ := make_ints _ N HN.out (by omega)
  have HZ := Aside0.mk hZ
  obtain ⟨X1, hX1⟩ : ∃ X1, X1 = nums .i64 (t.take p) := ⟨_, rfl⟩
  obtain ⟨X2, hX2⟩ : ∃ X2, X2 = nums .i64 u := ⟨_, rfl⟩
  obtain ⟨X3, hX3⟩ : ∃ X3, X3 = nums .i64 (t.drop E) := ⟨_, rfl⟩
  have L1 : X1.length = Nat.min p N := by rw [hX1, nums_length, List.length_take]; simp only [Nat.min_def]; split <;> split <;> omega
  have L2 : X2.length = Nat.min u.length (N - p) := by rw [hX2, nums_length]; simp only [Nat.min_def]; split <;> omega
  have L3 : X3.length = Nat.min (t.length - E) (N - (p + u.length)) := by rw [hX3, nums_length, List.length_drop]; simp only [Nat.min_def]; split <;> omega
  have P1 : ∀ W, Below w.heap.size w W → 0 < X1.length → ∃ ad, A = some ad ∧ ∀ (j : Nat) (v : Value), X1[j]? = some v → W.cell? (ad.add j) = some v := by
    intro W hW h0
    have h := nums_cells (Kd.C_take (m := p) (Kd.C_below HT.out hW) (by omega))
    rw [← hX1] at h
    exact h (by rw [hX1, nums_length] at h0; exact h0)
  have P2 : ∀ W, Below w.heap.size w W → 0 < X2.length → ∃ ad, B = some ad ∧ ∀ (j : Nat) (v : Value), X2[j]? = some v → W.cell? (ad.add j) = some v := by
    intro W hW h0
    have h := nums_cells (Kd.C_below HU.out hW)
    rw [← hX2] at h
    exact h (by omega)
  have P3 : ∀ W, Below w.heap.size w W → 0 < X3.length → ∃ ad, (if c = E then A else A.map (·.add E)) = some ad ∧ ∀ (j : Nat) (v : Value), X3[j]? = some v → W.cell? (ad.add j) = some v := by
    intro W hW h0
    have h := nums_cells (Kd.C_drop (m := E) (c := c) (Kd.C_below HT.out hW) (by omega) hc)
    rw [← hX3] at h
    rw [hX3, nums_length] at h0
    simpa [Kd.int, Kd.scalar] using h h0
  have O1 : ∀ v ∈ X1, v.oneCell' = true := by rw [hX1]; exact nums_one _ _
  have O2 : ∀ v ∈ X2, v.oneCell' = true := by rw [hX2]; exact nums_one _ _
  have O3 : ∀ v ∈ X3, v.oneCell' = true := by rw [hX3]; exact nums_one _ _
  have l1 : X1.length = p := by rw [hX1, nums_length, List.length_take]; omega
  have l2 : X2.length = u.length := by rw [hX2, nums_length]
  have l3 : X3.length = t.length - E := by rw [hX3, nums_length, List.length_drop]
  have HF : Aside0 (splice (splice (splice Z 0 X1) p X2) (p + u.length) X3 = nums .i64 R) := ⟨by
    rw [splice_splice_splice Z X1 X2 X3 p u.length l1 l2 (by rw [hZ, l3, hN]), HP.out, nums_append, nums_append, hX1, hX2, hX3]⟩
  have F1 : 0 + X1.length ≤ Z.length := by omega
  have F2 : p + X2.length ≤ (splice Z 0 X1).length := by rw [length_splice _ _ _ F1]; omega
  have F3 : (p + u.length) + X3.length ≤ (splice (splice Z 0 X1) p X2).length := by rw [length_splice _ _ _ F2, length_splice _ _ _ F1]; omega
  have HL1 := Aside0.mk L1
  have HL2 := Aside0.mk L2
  have HL3 := Aside0.mk L3
  have HP1 := Aside0.mk P1
  have HP2 := Aside0.mk P2
  have HP3 := Aside0.mk P3
  have HO1 := Aside0.mk O1
  have HO2 := Aside0.mk O2
  have HO3 := Aside0.mk O3
  have HF1 := Aside0.mk F1
  have HF2 := Aside0.mk F2
  have HF3 := Aside0.mk F3
  have HNN := Aside0.mk hN
  clear hZ hX1 hX2 hX3 L1 L2 L3 P1 P2 P3 O1 O2 O3 l1 l2 l3 F1 F2 F3
  have hpN : p + u.length ≤ N := by omega
  clear hN
  go_enter Try.func31, Try.ntmps31
  go_wp2_with (first
    | (go_at_call 76; refine (place_any g l A c t p _ HS.out hl HT.out).mono ?_; rintro e w1 ⟨rfl, hb⟩) | (go_at_call 38; refine (check_any g l B d u _ (HS.out.below hb) hl (Kd.C_below HU.out hb)).mono ?_; rintro e w2 ⟨rfl, hb2⟩; have hb3 := below_then hb hb.size hb2) | (go_at_call 77; refine (end_any g l _ c t p _ (HS.out.below hb3) hl (Kd.C_below HT.out hb3) h4 (by omega)).mono ?_; rintro e w4 ⟨rfl, hb4⟩; rw [← HC.out]; have hb5 := below_then hb3 hb3.size hb4)
    | (refine wpList_copy_splice rfl (.tmp 45) (.tmp 48) 25 25 rfl 3 Try.underlying25 rfl (some ⟨w4.heap.size, 0, none⟩) A N N p c rfl rfl w4.heap.size 0 Z 3 (heap_alloc_new w4 _) X1 HL1.out (fun h0 => ⟨rfl, HP1.out _ (below_alloc hb5 _) h0⟩) HF1.out HO1.out w.heap.size w (below_alloc hb5 _) hb5.size ?_; intro w6 HG6 hb6)
    | (refine wpList_copy_splice rfl (.tmp 52) (.tmp 53) 25 25 rfl 3 Try.underlying25 rfl (some ⟨w4.heap.size, p, none⟩) B (N - p) (N - p) u.length d rfl rfl w4.heap.size p (splice Z 0 X1) 3 HG6.out X2 HL2.out (fun h0 => ⟨rfl, HP2.out _ hb6 h0⟩) HF2.out HO2.out w.heap.size w hb6 hb5.size ?_; intro w7 HG7 hb7))
  obtain ⟨i0, hi0, -, hz1, -⟩ := info_parts info3
  have c1 := cut_from (P := Try.prog) 25 3 .i64 Try.underlying25 hi0 1 hz1 (some ⟨w4.heap.size, 0, none⟩) N N ((p : Int) + u.length) (by omega) (by omega)
  have c2 := cut_from (P := Try.prog) 25 3 .i64 Try.underlying25 hi0 1 hz1 A t.length c (E : Int) (by omega) (by omega)
  have hw : IntKind.i64.wrap ((p : Int) + u.length) = (p : Int) + u.length := IntWalk.i64_in _ (by omega)
  rw [show ((p : Int) + u.length).toNat = p + u.length by omega, Nat.mul_one] at c1
  rw [Int.toNat_natCast, Nat.mul_one] at c2
  have D1 : 0 < X3.length → (if N = p + u.length then some (⟨w4.heap.size, 0, none⟩ : Addr) else (some (⟨w4.heap.size, 0, none⟩ : Addr)).map (·.add (p + u.length))) = some ⟨w4.heap.size, p + u.length, none⟩ := by
    intro h0
    rw [if_neg (by have := HL3.out; have h3 := HNN.out; simp only [Nat.min_def] at this; split at this <;> omega)]
    simp [add_plain]
  generalize (if N = p + u.length then some (⟨w4.heap.size, 0, none⟩ : Addr) else (some (⟨w4.heap.size, 0, none⟩ : Addr)).map (·.add (p + u.length))) = dp at c1 D1
  have HP4 : Aside0 (∀ W, Below w.heap.size w W → 0 < X3.length → ∃ ad, (if c = E then A else A.map (·.add E)) = some ad ∧ ∀ (j : Nat) (v : Value), X3[j]? = some v → W.cell? (ad.add j) = some v) := HP3
  generalize (if c = E then A else A.map (·.add E)) = sp at c2 HP4
  have HD1 := Aside0.mk D1
  clear D1 HP3
  go_still_tail 9, (by kernel_rfl)
  clear c1 c2 hw
  refine wpList_copy_splice rfl (.tmp 60) (.tmp 63) 25 25 rfl 3 Try.underlying25 rfl dp sp (N - (p + u.length)) (N - (p + u.length)) (t.length - E) (c - E) rfl rfl w4.heap.size (p + u.length) (splice (splice Z 0 X1) p X2) 3 HG7.out X3 HL3.out (fun h0 => ⟨HD1.out h0, HP4.out _ (below_drew hb7) h0⟩) HF3.out HO3.out w.heap.size w (below_drew hb7) hb5.size ?_
  intro w8 HG8 hb8
  go_wp2
  go_ret2
  have hG := HG8.out
  rw [HF.out] at hG
  have hRN : R.length = N := by rw [HP.out, HNN.out]; simp only [List.length_append, List.length_take, List.length_drop]; omega
  exact ⟨_, rfl, ints_own hG hRN hb5.size (by have := HNN.out; omega), hb8⟩
end Go.Proofs.Ytadjoaipmcbieaa
