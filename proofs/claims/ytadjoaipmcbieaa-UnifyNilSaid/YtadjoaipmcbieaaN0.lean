/- awake (of ropewalklaw02): the calls whose answers the document fixes are answered so. -/
import Derived.Test.YtadjoaipmcbieaaMM
import Derived.Test.YtadjoaipmcbieaaS5
import Derived.Test.YtadjoaipmcbieaaS6
import Derived.Test.YtadjoaipmcbieaaR0
namespace Go.Proofs.Ytadjoaipmcbieaa
open Go.RowKit Go.Proofs.YtadjoaipmcbieaaW.PrintWords Go.Proofs.YtadjoaipmcbieaaW.PrintLast Go.Proofs.YtadjoaipmcbieaaW.PrintMore A
set_option linter.unusedSimpArgs false

/-- The three symbols of awake. -/
def L3 : List S89 := [⟨⟨#[122]⟩, 0, false⟩, ⟨⟨#[115]⟩, 1, false⟩, ⟨⟨#[97, 100, 100]⟩, 2, true⟩]
theorem made3 : madeL L3 = L3 := by rfl
theorem good3 : GoodL L3 := by rw [← made3]; exact made_good _

/-- A new block of numbers reads as the numbers. -/
theorem C_new (w : World) (e : TypeId) (xs : List Int) (h : xs.length ≤ 9223372036854775807) : Kd.C (Kd.int .i64) (w.alloc (.cells (nums .i64 xs).toArray e)) (some ⟨w.heap.size, 0, none⟩) xs.length xs :=
  ⟨rfl, h, fun _ => ⟨_, rfl, fun j p hj => ⟨[.int .i64 p], rfl, rfl, fun i u hu => by
    cases i with
    | zero =>
      simp at hu
      subst hu
      rw [add_plain, show j * (Kd.int .i64).sz + 0 = j from by show j * 1 + 0 = j; omega, cell_of_row _ _ _ _ _ _ (heap_alloc_new w _)]
      simp [nums, hj]
    | succ i => simp at hu⟩⟩⟩
theorem C_newL (w : World) : Kd.C k89 (w.alloc (.cells #[.string ⟨#[122]⟩, .int .i64 0, .bool false, .string ⟨#[115]⟩, .int .i64 1, .bool false, .string ⟨#[97, 100, 100]⟩, .int .i64 2, .bool true] 89)) (some ⟨w.heap.size, 0, none⟩) L3.length L3 := by
  refine ⟨rfl, by decide, fun _ => ⟨_, rfl, fun j p hj => ?_⟩⟩
  refine ⟨[.string p.f0, .int .i64 p.f1, .bool p.f2], rfl, k89_mk _ _, fun i u hu => ?_⟩
  rw [add_plain, cell_of_row _ _ _ _ _ _ (heap_alloc_new w _)]
  have hi : i < 3 := (List.getElem?_eq_some_iff.1 hu).1
  have hj3 : j < 3 := (List.getElem?_eq_some_iff.1 hj).1
  match j, hj3, i, hi with
  | 0, _, 0, _ | 0, _, 1, _ | 0, _, 2, _ | 1, _, 0, _ | 1, _, 1, _ | 1, _, 2, _ | 2, _, 0, _ | 2, _, 1, _ | 2, _, 2, _ =>
    simp [L3] at hj; subst hj; exact hu

theorem below_alloc' {B : Nat} {a w : World} (h : Below B a w) (o : Obj) (hB : B ≤ w.heap.size) : Below B a (w.alloc o) := h.alloc hB o

set_option maxRecDepth 100000 in
set_option maxHeartbeats 2000000 in
theorem awake02 (w : World) : Calls Try.prog 25 #[] w fun e w' => e = .returned (.bool true) ∧ Below w.heap.size w w' := by
  go_enter Try.func25, Try.ntmps25
  go_wp2_with (go_at_call 26; refine (made_any (some ⟨w.heap.size, 0, none⟩) 3 L3 _ (C_newL w) (by decide)).mono ?_; rintro e w1 ⟨g, v, rfl, hs1, hr1, hb1⟩)
  rw [made3] at hs1
  have HB1 : Aside0 (Below w.heap.size w w1) := ⟨below_then (below_alloc (Below.refl _ _) _) (by simp) hb1⟩
  have HS : Aside0 (∀ W, Below w1.heap.size w1 W → SigC W g L3) := ⟨fun W hW => hs1.below hW⟩
  have HT : Aside0 (∀ W, Below (w1.heap.size + 1) (w1.alloc (.cells (nums .i64 [2, 1, 0, -1]).toArray 3)) W → Kd.C (Kd.int .i64) W (some ⟨w1.heap.size, 0, none⟩) 4 [2, 1, 0, -1]) := ⟨fun W hW => Kd.C_below (C_new w1 3 [2, 1, 0, -1] (by decide)) (by simpa using hW)⟩
  clear hs1 hr1 hb1
  refine (End_ok g L3 (some ⟨w1.heap.size, 0, none⟩) 4 [2, 1, 0, -1] 1 _ (HS.out _ (below_alloc (Below.refl _ _) _)) good3 (HT.out _ (Below.refl _ _)) (by decide)).mono ?_
  rintro e w2 ⟨rfl, hb2⟩
  rw [show endN L3 [2, 1, 0, -1] (1 : Int).toNat = 3 by rfl]
  have HB2 : Aside0 (Below (w1.heap.size + 1) (w1.alloc (.cells (nums .i64 [2, 1, 0, -1]).toArray 3)) w2) := ⟨by simpa using hb2⟩
  have hz2 := HB2.out.size
  simp at hz2
  have HC2 : Aside0 (Below w1.heap.size w1 w2) := ⟨below_then (below_alloc (Below.refl _ _) _) (by simp) hb2⟩
  clear hb2
  go_wp2_with fail
  refine (Put_ok g L3 (some ⟨w1.heap.size, 0, none⟩) (some ⟨w2.heap.size, 0, none⟩) 4 1 [2, 1, 0, -1] [-5] 1 _ (HS.out _ (below_alloc' HC2.out _ (by omega))) good3 (HT.out _ (below_alloc' HB2.out _ (by omega))) (by decide) (C_new w2 3 [-5] (by decide)) (by decide) (by decide) (by decide)).mono ?_
  rintro e w3 ⟨v3, rfl, hr3, hb3⟩
  rw [show putL L3 [2, 1, 0, -1] 1 [-5] = [2, -5, -1] by rfl] at hr3
  have hz3 := hb3.size
  simp at hz3
  have HB3 : Aside0 (Below (w1.heap.size + 1) (w1.alloc (.cells (nums .i64 [2, 1, 0, -1]).toArray 3)) w3) := ⟨below_then (below_alloc' HB2.out _ (by omega)) (by simp; omega) hb3⟩
  have HC3 : Aside0 (Below w1.heap.size w1 w3) := ⟨below_then (below_alloc' HC2.out _ (by omega)) (by simp; omega) hb3⟩
  obtain ⟨A3, c3, rfl, hc3, hC3⟩ := Kd.R_reads hr3
  have HR3 := Aside0.mk hC3
  clear hb3 hr3 hC3
  go_wp2_with fail
  refine (Place_ok g L3 (some ⟨w1.heap.size, 0, none⟩) (some ⟨w3.heap.size, 0, none⟩) 4 2 [2, 1, 0, -1] [0, 0] _ (HS.out _ (below_alloc' HC3.out _ (by omega))) good3 (HT.out _ (below_alloc' HB3.out _ (by omega))) (C_new w3 3 [0, 0] (by decide)) (by decide)).mono ?_
  rintro e w4 ⟨rfl, hb4⟩
  rw [show placeV (fromL L3 [2, 1, 0, -1] [0, 0] 0) = .tuple #[.int .i64 2, .int .i64 0] by rfl]
  have hz4 := hb4.size
  simp at hz4
  have HC4 : Aside0 (Below w1.heap.size w1 w4) := ⟨below_then (below_alloc' HC3.out _ (by omega)) (by simp; omega) hb4⟩
  have HR4 : Aside0 (Kd.C (Kd.int .i64) w4 A3 3 [2, -5, -1]) := ⟨Kd.C_below HR3.out (below_then (below_alloc (Below.refl _ _) _) (by simp) hb4)⟩
  clear hb4
  go_wp2_with fail
  refine (same_n A3 3 c3 [2, -5, -1] (some ⟨w4.heap.size, 0, none⟩) 3 3 [2, -5, -1] _ (Kd.C_below HR4.out (below_alloc (Below.refl _ _) _)) hc3 (C_new w4 3 [2, -5, -1] (by decide)) (by decide)).mono ?_
  rintro e w5 ⟨rfl, hd5⟩
  rw [show decide (([2, -5, -1] : List Int) = [2, -5, -1]) = true by rfl]
  have hb5 := hd5.below
  have hz5 := hb5.size
  simp at hz5
  have HC5 : Aside0 (Below w1.heap.size w1 w5) := ⟨below_then (below_alloc' HC4.out _ (by omega)) (by simp; omega) hb5⟩
  clear hb5 hd5
  go_wp2_with fail
  refine (check_any g L3 (some ⟨w5.heap.size, 0, none⟩) 3 [2, 1, 0] _ (HS.out _ (below_alloc' HC5.out _ (by omega))) good3 (C_new w5 3 [2, 1, 0] (by decide))).mono ?_
  rintro e w6 ⟨rfl, hb6⟩
  rw [show chk L3 [2, 1, 0] = 23 by rfl]
  have HC6 : Aside0 (Below w1.heap.size w1 w6) := ⟨below_then (below_alloc' HC5.out _ (by omega)) (by simp; omega) hb6⟩
  clear hb6
  go_wp2_with fail
  go_ret
  exact ⟨rfl, below_then HB1.out HB1.out.size HC6.out⟩
end Go.Proofs.Ytadjoaipmcbieaa
