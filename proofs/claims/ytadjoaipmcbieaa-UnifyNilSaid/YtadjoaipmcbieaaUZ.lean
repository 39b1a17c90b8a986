/- unify of no signature; solve; Unify, Overlap, Clash; awake of layer 6. -/
import Derived.Test.YtadjoaipmcbieaaN1
import Derived.Test.YtadjoaipmcbieaaU8
import Derived.Laws.Rows
import Derived.Test.YtadjoaipmcbieaaN0

/- unify's functions, of no signature. -/
namespace Go.Proofs.Ytadjoaipmcbieaa
open Go.RowKit Go.Proofs.YtadjoaipmcbieaaW.PrintWords Go.Proofs.YtadjoaipmcbieaaW.PrintLast Go.Proofs.YtadjoaipmcbieaaW.PrintMore A

theorem results_tmp4 {fn : Func} {t u v x : Tmp} (h : fn.results = #[.tmp t, .tmp u, .tmp v, .tmp x]) (tmps : Array Value) (P : Program) (w : World) :
    (results fn tmps).run P w = .ok (.tuple #[tmps.getD t undef, tmps.getD u undef, tmps.getD v undef, tmps.getD x undef]) w := by
  simp [results, h]

set_option maxRecDepth 100000 in
theorem solve_nil (A : Option Addr) (n c : Nat) (B : Option Addr) (m d : Nat) (ap : Bool) (w : World) : Calls Try.prog 89 #[.pointer none, .slice A n c, .slice B m d, .bool ap] w fun e w' => e = .returned (.tuple #[.pointer none, .int .i64 0, .int .i64 0, .int .i64 1]) ∧ Below w.heap.size w w' := by
  have k0 : (w.alloc (.cells #[.slice A n c, .slice B m d] 25)).cell? ⟨w.heap.size, 0, none⟩ = some (.slice A n c) := by rw [cell_of_row _ _ _ _ _ _ (heap_alloc_new w _)]; rfl
  have hb0 : Below w.heap.size w (w.alloc (.cells #[.slice A n c, .slice B m d] 25)) := below_alloc (Below.refl _ _) _
  go_enter Try.func89, Try.ntmps89
  go_wp2_with fail
  go_loopw [27] (fun a wr => a = .int .i64 0 ∧ Aside0 (wr.cell? ⟨w.heap.size, 0, none⟩ = some (.slice A n c)) ∧ Aside0 (Below w.heap.size w wr)) (fun _ _ => 0)
  case atStart => exact ⟨rfl, ⟨k0⟩, ⟨hb0⟩⟩
  case round =>
    clear k0 hb0
    obtain ⟨rfl, HK, HB⟩ := hrel
    have k0 := HK.out
    go_wp2_with fail
    clear k0
    refine (check_nil _ _).mono ?_
    rintro e w1 ⟨rfl, hb⟩
    have HB1 := Aside0.mk (below_then HB.out HB.out.size hb)
    clear hb
    go_wp2_with fail
    (try simp only [Exit.inBlock, Exit.then])
    refine bodyPost_ret (results_tmp4 rfl _ _ _) rfl ?_
    exact ⟨rfl, HB1.out⟩

theorem common_nil (A : Option Addr) (n c : Nat) (B : Option Addr) (m d : Nat) (ap : Bool) (w : World) : Calls Try.prog 86 #[.pointer none, .slice A n c, .slice B m d, .bool ap] w fun e w' => e = .returned (.tuple #[.slice none 0 0, .int .i64 1]) ∧ Below w.heap.size w w' := by
  go_enter Try.func86, Try.ntmps86
  go_wp2_with (go_at_call 89; refine (solve_nil A n c B m d ap _).mono ?_; rintro e w1 ⟨rfl, hb⟩)
  go_ret2
  exact ⟨rfl, hb⟩
theorem Unify_nil (A : Option Addr) (n c : Nat) (B : Option Addr) (m d : Nat) (w : World) : Calls Try.prog 54 #[.pointer none, .slice A n c, .slice B m d] w fun e w' => e = .returned (.tuple #[.slice none 0 0, .int .i64 1]) ∧ Below w.heap.size w w' := by
  go_enter Try.func54, Try.ntmps54
  go_wp2_with (go_at_call 86; refine (common_nil A n c B m d false _).mono ?_; rintro e w1 ⟨rfl, hb⟩)
  go_ret2
  exact ⟨rfl, hb⟩
theorem Overlap_nil (A : Option Addr) (n c : Nat) (B : Option Addr) (m d : Nat) (w : World) : Calls Try.prog 56 #[.pointer none, .slice A n c, .slice B m d] w fun e w' => e = .returned (.tuple #[.slice none 0 0, .int .i64 1]) ∧ Below w.heap.size w w' := by
  go_enter Try.func56, Try.ntmps56
  go_wp2_with (go_at_call 86; refine (common_nil A n c B m d true _).mono ?_; rintro e w1 ⟨rfl, hb⟩)
  go_ret2
  exact ⟨rfl, hb⟩
theorem Clash_nil (A : Option Addr) (n c : Nat) (B : Option Addr) (m d : Nat) (w : World) : Calls Try.prog 59 #[.pointer none, .slice A n c, .slice B m d] w fun e w' => e = .returned (.tuple #[.bool false, .int .i64 1]) ∧ Below w.heap.size w w' := by
  go_enter Try.func59, Try.ntmps59
  go_wp2_with (go_at_call 89; refine (solve_nil A n c B m d true _).mono ?_; rintro e w1 ⟨rfl, hb⟩)
  go_ret2
  exact ⟨rfl, hb⟩
end Go.Proofs.Ytadjoaipmcbieaa

/- unify.solve: two terms made one, and how long that is. -/
namespace Go.Proofs.Ytadjoaipmcbieaa
open Go.RowKit Go.Proofs.YtadjoaipmcbieaaW.PrintWords Go.Proofs.YtadjoaipmcbieaaW.PrintLast Go.Proofs.YtadjoaipmcbieaaW.PrintMore A
set_option linter.unusedSimpArgs false
set_option linter.unusedVariables false

theorem size140 : (Try.prog.info? 140).map (·.size) = some 100 := by kernel_rfl
set_option maxRecDepth 100000
section
variable {ops : Array Oper} {rest : List Oper} {o : Oper} {a : Act} {Q : Exit → Act → World → Prop}
/-- A whole array of a hundred numbers is stored. -/
theorem store_arr {W : World} (hgd : o.guard = none) (hN : o.dst = none) (p x : Operand) (ho : o.op = .store 140 p x) (g : Nat) (V : List Int) (cur : Array Value) (hp : a.eval p = .pointer (some ⟨g, 0, none⟩)) (hx : a.eval x = .agg (nums .i64 V).toArray) (hV : V.length = 100)
    (hh : W.heap[g]? = some (.cells cur 140 (0, 0))) (hc : cur.size = 100) (h : ∀ w1, w1.heap[g]? = some (.cells (nums .i64 V).toArray 140 (0, 0)) → W.grownBy w1 (some g) → w1.heap.size = W.heap.size → wpList Try.prog ops Q rest a w1) : wpList Try.prog ops Q (o :: rest) a W := by
  have hl : (nums .i64 V).length = 100 := by rw [nums_length, hV]
  have hrun := run_store_run (P := Try.prog) (w := W) (g := g) (o := 0) 140 (.agg (nums .i64 V).toArray) (nums .i64 V) hh (by simp [Value.cells]) (by rw [size140, hl]) (by omega) (fun q hq => by
    obtain ⟨z, _, rfl⟩ := List.mem_map.1 hq; rfl)
  refine wpList_plain hgd fun K hK => ?_
  unfold Oper.wp execOp
  simp only [ho, hp, hx, Sem.run_bind, Sem.run_pure, Result.andThen_ok, hrun]
  show K (a.put o.dst undef) _
  rw [hN]
  obtain ⟨cur', h3, h4, h5⟩ := setCells_row (nums .i64 V) 0 W cur hh (by omega)
  obtain ⟨s1, s2, s3, s4⟩ := setCells_same g (nums .i64 V) 0 W
  refine hK a _ (h _ ?_ ⟨s1, s2, s3, by omega, fun i _ hne => setCells_far (nums .i64 V) 0 i (fun e => hne (by rw [e]))⟩ s4)
  rw [h3]
  congr 2
  apply Array.ext'
  rw [h5]
  simp [hl, hc]
end

theorem z140 : Try.zeroCells140 = (nums .i64 (List.replicate 100 0)).toArray := by kernel_rfl
/-- So far filled with -1. -/
def fill (k : Nat) : List Int := List.replicate k (-1) ++ List.replicate (100 - k) 0
theorem fill_zero : fill 0 = List.replicate 100 0 := rfl
theorem fill_all : fill 100 = List.replicate 100 (-1) := rfl
theorem fill_len {k : Nat} (h : k ≤ 100) : (fill k).length = 100 := by simp [fill]; omega
theorem fill_set {k : Nat} (h : k < 100) : (fill k).set k (-1) = fill (k + 1) := by
  unfold fill
  rw [List.set_append_right _ _ (by simp), List.length_replicate, Nat.sub_self, show 100 - k = (100 - (k + 1)) + 1 by omega, List.replicate_succ, List.set_cons_zero, List.replicate_succ', List.append_assoc]
  rfl
theorem fill_at {k : Nat} (h : k < 100) : (nums .i64 (fill k))[k]? = some (.int .i64 0) := by
  have h2 : 0 < 100 - k := by omega
  simp [nums, fill, List.getElem?_append, h, h2]
theorem rd_rep {v : Nat} (h : v < 100) : rd (List.replicate 100 (-1)) v = -1 := by
  simp only [rd, Int.toNat_natCast, List.getD_eq_getElem?_getD, List.getElem?_replicate, if_pos h]; rfl
theorem AddOk.start (l : List S89) (t : List Int) (pl : List Int) (hpl : pl.length = t.length) : AddOk l t 0 t.length [] [] pl (List.replicate 100 (-1)) [] := by
  refine ⟨rfl, rfl, fun k hk => by simp at hk, ⟨fun n hn => an_neg hn, fun x hx => by simp [netP] at hx, fun x hx => by simp [netP] at hx, fun x hx => by simp [netP] at hx, fun x hx => by simp [netP] at hx⟩, fun x y hx => by simp at hx, fun x w hx => by simp at hx, fun v h1 h2 => .inl ⟨rd_rep (by omega), fun x hx => by simp at hx⟩, by simp, hpl, fun p hp hp2 => by omega, fun x hx => by simp at hx, fun x hx => by simp at hx⟩
theorem AddOk.next {l : List S89} {t u : List Int} {i : Nat} {parts : List Pt} {tos pl V : List Int} {tms : List (List Int)} (h : AddOk l t 0 i parts tos pl V tms) (pl' : List Int) (hpl : pl'.length = u.length) : AddOk l u 0 u.length parts tos pl' V tms :=
  ⟨h.tl, h.tol, h.tof, h.net, h.inj, h.nm, h.vr, h.vl, hpl, fun p hp hp2 => by omega, h.arg, h.var⟩
theorem AddOk.next1 {l : List S89} {t u : List Int} {i : Nat} {parts : List Pt} {tos pl V : List Int} {tms : List (List Int)} (h : AddOk l t 0 i parts tos pl V tms) (pl' : List Int) (hpl : pl'.length = u.length) : AddOk l u 1000 u.length parts tos pl' (List.replicate 100 (-1)) tms := by
  have hn : ∀ x w, x < parts.length → tmF tms x = [w] → w < 0 → -99 ≤ w := fun x w hx e hw => by rcases h.nm x w hx e hw with h | ⟨h, _⟩ <;> omega
  exact ⟨h.tl, h.tol, h.tof, h.net, h.inj, fun x w hx e hw => .inl (hn x w hx e hw), fun v h1 h2 => .inl ⟨rd_rep (by omega), fun x hx e => by have := hn x _ hx e (by omega); omega⟩, by simp, hpl, fun p hp hp2 => by omega, h.arg, h.var⟩
section
variable {l : List S89} {t : List Int} {d : Int} {i : Nat} {parts : List Pt} {tos pl V : List Int} {tms : List (List Int)}
theorem AddOk.roots (h : AddOk l t d i parts tos pl V tms) : RootOk tos (fun x => x) := by
  intro x hx
  rw [h.tol] at hx
  have e := h.tof x hx
  rw [h.tol]
  exact ⟨by omega, by omega, 0, .here (by unfold toF; omega)⟩
theorem AddOk.uni (h : AddOk l t d i parts tos pl V tms) {x y : Nat} (hx : x < parts.length) (hy : y < parts.length) : Uni (an l) (netP parts (tmF tms)) x y (fun x => x) (repP parts) [(x, y)] := by
  refine ⟨h.net, fun _ h => h, fun _ _ => rfl, fun z hz sz => ?_, fun c hc _ hp => ?_, fun p hp => ?_, fun z u hz hu sz su e => h.inj z u hz hu sz su e, fun s _ he => ⟨fun _ _ => rfl, fun p hp => ?_⟩, fun g _ hp => ⟨hp (x, y) (by simp), fun z u _ _ _ _ e => ?_⟩⟩
  · have : repP parts z = z := if_neg (by simp only [netP] at sz; omega)
    rw [this]; omega
  · have hs : ¬ (ptA parts c).1 < 0 := by intro hs; unfold repP at hp; rw [if_pos hs] at hp; omega
    have e : repP parts c = c := if_neg hs
    rw [e, Int.toNat_natCast]
    exact ⟨hc, by simp only [netP]; omega, rfl⟩
  · obtain rfl : p = (x, y) := by simpa using hp
    exact ⟨hx, hy⟩
  · obtain rfl : p = (x, y) := by simpa using hp
    exact he
  · have e' : z = u := e
    subst e'; exact ⟨rfl, rfl⟩
theorem AddOk.small (h : AddOk l t d i parts tos pl V tms) : ∀ x, (ptA parts x).2.length ≤ 6 ∧ ∀ a ∈ (ptA parts x).2, 0 ≤ a := by
  intro x
  by_cases hx : x < parts.length
  · exact ⟨(h.arg x hx).1, fun a ha => ((h.arg x hx).2 a ha).1⟩
  · have e : ptA parts x = (0, []) := by unfold ptA; rw [List.getD_eq_getElem?_getD, List.getElem?_eq_none (by omega)]; rfl
    rw [e]; simp
end
theorem szOk_zero (G : Net) (R : Nat → Nat) (rep : Nat → Int) : SzOk G R rep (List.replicate G.n 0) := by
  refine ⟨by simp, fun c hc _ => .inr (.inl ?_)⟩
  simp [rd, List.getD_eq_getElem?_getD, hc]
theorem small_zero (n : Nat) : Small (List.replicate n 0) := by
  intro i
  have : rd (List.replicate n 0) (i : Int) = 0 := by
    simp only [rd, Int.toNat_natCast, List.getD_eq_getElem?_getD, List.getElem?_replicate]; split <;> rfl
  omega
/-- The graph of two terms that have become one, and what its root unfolds to. -/
structure Joined (w0 W : World) (l : List S89) (ta tb : List Int) (ap : Bool) (g x : Nat) (n : Int) : Prop where
  r : ∃ (gq cq ga N c : Nat) (parts : List Pt) (R : Nat → Nat) (ys : List Int) (tms : List (List Int)) (y : Nat) (T : List Int), FSt W W w0.heap.size g (.slice (some ⟨gq, 0, none⟩) N cq) ga N c parts R ys ∧ GrOk W w0.heap.size g gq cq ga N c parts R ∧
    Uni (an l) (netP parts (tmF tms)) x y R (repP parts) [] ∧ x < N ∧ N ≤ 4000 ∧ Unf (netP parts (tmF tms)) R (repP parts) [x] T ∧ Mgi (an l) ta (tg ap tb) T ∧ n = min (T.length : Int) 2001
/-- What solve answers of two terms. -/
def SolP (w0 W : World) (l : List S89) (ta tb : List Int) (ap : Bool) (g x : Nat) (n : Int) : Prop := (n = 0 ∧ ∀ s, Gd (an l) s → sb s ta ≠ sb s (tg ap tb)) ∨ Joined w0 W l ta tb ap g x n

set_option maxHeartbeats 8000000 in
theorem solve_ok {sg : Nat} {l : List S89} {ta tb : List Int} {A B : Option Addr} {ca cb : Nat} {ap : Bool} (w : World) (hs : SigC w sg l) (hl : GoodL l) (hta : Kd.C (Kd.int .i64) w A ta.length ta) (htb : Kd.C (Kd.int .i64) w B tb.length tb) (hca : chk l ta = 0) (hcb : chk l tb = 0) :
    Calls Try.prog 89 #[.pointer (some ⟨sg, 0, none⟩), .slice A ta.length ca, .slice B tb.length cb, .bool ap] w fun e w' => ∃ (g x : Nat) (n : Int), e = .returned (.tuple #[.pointer (some ⟨g, 0, none⟩), .int .i64 x, .int .i64 n, .int .i64 0]) ∧ SolP w w' l ta tb ap g x n ∧ Below w.heap.size w w' := by
  have HS := Aside0.mk hs
  have HL := Aside0.mk hl
  have HTA := Aside0.mk hta
  have HTB := Aside0.mk htb
  have HCA := Aside0.mk hca
  have HCB := Aside0.mk hcb
  have k0 : (w.alloc (.cells #[.slice A ta.length ca, .slice B tb.length cb] 25)).heap[w.heap.size]? = _ := heap_alloc_new w _
  have hb0 : Below w.heap.size w (w.alloc (.cells #[.slice A ta.length ca, .slice B tb.length cb] 25)) := below_alloc (Below.refl _ _) _
  have HK0 := Aside0.mk k0
  have HB0 := Aside0.mk hb0
  clear hs hl hta htb hca hcb k0 hb0
  go_enter Try.func89, Try.ntmps89
  go_wp2_with fail
  go_loopg [27] 2 (fun m a wr => ∃ k : Nat, a = .int .i64 k ∧ k ≤ 2 ∧ Aside0 (m = 2 - k) ∧ Aside0 (wr.heap[w.heap.size]? = some (.cells #[.slice A ta.length ca, .slice B tb.length cb] 25 (0, 0))) ∧ Aside0 (Below w.heap.size w wr))
  case atStart => exact ⟨0, rfl, by omega, ⟨rfl⟩, HK0, HB0⟩
  case round =>
    clear HK0 HB0
    obtain ⟨k, rfl, hk, HM, HK, HB⟩ := hrel
    have k0 := cell_of_row wr w.heap.size 0 _ _ _ HK.out
    have k1 := cell_of_row wr w.heap.size 1 _ _ _ HK.out
    simp at k0 k1
    have hcase : k = 0 ∨ k = 1 ∨ k = 2 := by omega
    rcases hcase with rfl | rfl | rfl
    · go_wp2_with fail
      clear k0 k1
      refine (check_any sg l A ca ta _ (HS.out.below HB.out) HL.out (Kd.C_below HTA.out HB.out)).mono ?_
      rintro e w1 ⟨rfl, hb⟩
      rw [HCA.out]
      have HK1 := Aside0.mk ((hb.block _ (blk_lt HK.out)).trans HK.out)
      have HB1 := Aside0.mk (below_then HB.out HB.out.size hb)
      clear hb
      go_wp2_with fail
      go_roundg 1
      case measure => have := HM.out; omega
      case rel => exact ⟨1, rfl, by omega, ⟨rfl⟩, HK1, HB1⟩
    · go_wp2_with fail
      clear k0 k1
      refine (check_any sg l B cb tb _ (HS.out.below HB.out) HL.out (Kd.C_below HTB.out HB.out)).mono ?_
      rintro e w1 ⟨rfl, hb⟩
      rw [HCB.out]
      have HK1 := Aside0.mk ((hb.block _ (blk_lt HK.out)).trans HK.out)
      have HB1 := Aside0.mk (below_then HB.out HB.out.size hb)
      clear hb
      go_wp2_with fail
      go_roundg 0
      case measure => have := HM.out; omega
      case rel => exact ⟨2, rfl, by omega, ⟨rfl⟩, HK1, HB1⟩
    · clear k0 k1
      go_wp2_with fail
      have HVB : Aside0 ((wr.alloc (.cells Try.zeroCells140 140)).heap[wr.heap.size]? = some (.cells (nums .i64 (fill 0)).toArray 140 (0, 0))) := ⟨by rw [heap_alloc_new, z140]; rfl⟩
      have HB1 : Aside0 (Below w.heap.size w (wr.alloc (.cells Try.zeroCells140 140))) := ⟨HB.out.alloc HB.out.size _⟩
      have hvb0 : w.heap.size ≤ wr.heap.size := HB.out.size
      clear HB HK
      generalize wr.alloc (.cells Try.zeroCells140 140) = w2 at *
      generalize wr.heap.size = vb at *
      go_loopg [38] 100 (fun m a wr => ∃ k : Nat, a = .int .i64 k ∧ k ≤ 100 ∧ Aside0 (m = 100 - k) ∧ Aside0 (wr.heap[vb]? = some (.cells (nums .i64 (fill k)).toArray 140 (0, 0))) ∧ Aside0 (Below w.heap.size w wr))
      case atStart => exact ⟨0, rfl, by omega, ⟨rfl⟩, HVB, HB1⟩
      case round =>
        clear HVB HB1
        obtain ⟨k, rfl, hk2, HM2, HV, HB⟩ := hrel
        by_cases hlt : k < 100
        · have k0 := cell_of_row wr vb k _ _ _ HV.out
          have f0 := frozen_of_row HV.out k
          rw [List.getElem?_toArray, fill_at hlt] at k0
          have HV2 : Aside0 ((wr.setCell ⟨vb, k, none⟩ (.int .i64 (-1))).heap[vb]? = some (.cells (nums .i64 (fill (k + 1))).toArray 140 (0, 0))) := ⟨by rw [← fill_set hlt, ← nums_set]; exact blk_set HV.out k _⟩
          have HB2 : Aside0 (Below w.heap.size w (wr.setCell ⟨vb, k, none⟩ (.int .i64 (-1)))) := ⟨HB.out.setCell (p := ⟨vb, k, none⟩) hvb0 _⟩
          have hki : (k : Int) < 100 := by omega
          go_wp2_with fail
          go_roundg (100 - (k + 1))
          case measure => have := HM2.out; omega
          case rel => exact ⟨k + 1, by go_num, by omega, ⟨rfl⟩, HV2, HB2⟩
        · obtain rfl : k = 100 := by omega
          rw [fill_all] at HV
          go_upto_region 14 with fail
          have hvs : vb < wr.heap.size := blk_lt HV.out
          go_wp2_with (first | (refine wpList_load_row rfl 140 (.tmp 15) rfl vb rfl 140 (nums .i64 (List.replicate 100 (-1))).toArray (0, 0) (.array 100 3) HV.out Try.underlying140 rfl (by rw [size140]; rfl) ?_) | (refine store_arr rfl rfl (.tmp 17) (.tmp 44) rfl wr.heap.size (List.replicate 100 (-1)) Try.zeroCells140 rfl rfl (by simp) (heap_alloc_new wr _) (by rw [z140]; rfl) ?_; intro w4 hv4 hg4 hz4))
          have hzw : (wr.alloc (.cells Try.zeroCells140 140)).heap.size = wr.heap.size + 1 := by simp
          have HV4 : Aside0 (w4.heap[vb]? = some (.cells (nums .i64 (List.replicate 100 (-1))).toArray 140 (0, 0))) := ⟨(hg4.block vb (by omega) (fun e => by injection e; omega)).trans ((Below.heap_alloc _ _ _ hvs).trans HV.out)⟩
          have HB4 : Aside0 (Below w.heap.size w w4) := ⟨pw_below_grown (HB.out.alloc HB.out.size _) _ (by have := HB.out.size; omega) hg4 (fun k e => by injection e with e; have := HB.out.size; omega)⟩
          have HW4 := Aside0.mk hv4
          have hne : wr.heap.size ≠ vb := by omega
          have hv20 : w.heap.size ≤ wr.heap.size := HB.out.size
          have HZ4 : Aside0 (w4.heap.size = wr.heap.size + 1) := ⟨by rw [hz4, hzw]⟩
          clear hzw hv4 hg4 hz4 HV HB hvs
          generalize wr.heap.size = v2 at *
          have HGR : Aside0 (Gr (w4.alloc (.cells #[.slice none 0 0, .slice none 0 0] 143)) w.heap.size w4.heap.size (.slice none 0 0) (.slice none 0 0) [] []) := ⟨⟨heap_alloc_new w4 _, HB4.out.size, Kd.R_nil _ _ _ _ _, Kd.R_nil _ _ _ _ _⟩⟩
          have HV5 : Aside0 ((w4.alloc (.cells #[.slice none 0 0, .slice none 0 0] 143)).heap[vb]? = _) := ⟨(Below.heap_alloc _ _ _ (blk_lt HV4.out)).trans HV4.out⟩
          have HW5 : Aside0 ((w4.alloc (.cells #[.slice none 0 0, .slice none 0 0] 143)).heap[v2]? = _) := ⟨(Below.heap_alloc _ _ _ (blk_lt HW4.out)).trans HW4.out⟩
          have HB5 : Aside0 (Below w.heap.size w (w4.alloc (.cells #[.slice none 0 0, .slice none 0 0] 143))) := ⟨HB4.out.alloc HB4.out.size _⟩
          clear HV4 HW4 HB4
          have hcall := add_any (g := w4.heap.size) (vb := vb) (v2 := v2) (sg := sg) (P0 := 0) (l := l) (t := ta) (A := A) (c := ca) (d := 0) (vp0 := .slice none 0 0) (vt0 := .slice none 0 0) (parts0 := []) (tos0 := []) (V0 := List.replicate 100 (-1)) (tms0 := []) w.heap.size w _ rfl HB5.out HS.out HL.out HTA.out HCA.out HGR.out HV5.out hvb0 HW5.out hne (.inl rfl) rfl (by omega) (fun pl hpl => AddOk.start l ta pl hpl)
          rw [HZ4.out] at hcall
          refine hcall.mono ?_
          clear hcall
          rintro e w6 ⟨x, vp, vt, parts, tos, pl, V, tms, rfl, hg6, hv6, hw6, hb6, hpl6, hk6, hx6, htx6, -, -⟩
          have HG6 := Aside0.mk hg6
          have HV6 := Aside0.mk hv6
          have HW6 := Aside0.mk hw6
          have HB6 := Aside0.mk hb6
          have HP6 := Aside0.mk (And.intro hpl6 hx6)
          have HK6 := Aside0.mk hk6
          have HTX := Aside0.mk htx6
          have HLA := Aside0.mk (chk_len HCA.out)
          have HLB := Aside0.mk (chk_len HCB.out)
          clear hg6 hv6 hw6 hb6 hpl6 hk6 hx6 htx6 HGR HV5 HW5 HB5
          clear HZ4
          generalize v2 + 1 = g at *
          cases ap
          · skip
            go_wp2_with (first | (refine wpList_load_row rfl 140 (.tmp 15) rfl vb rfl 140 (nums .i64 V).toArray (0, 0) (.array 100 3) HV6.out Try.underlying140 rfl (by rw [size140, ← HK6.out.vl]; simp [nums]) ?_) | (refine store_arr rfl rfl (.tmp 17) (.tmp 53) rfl v2 V (nums .i64 (List.replicate 100 (-1))).toArray rfl rfl HK6.out.vl HW6.out (by simp [nums]) ?_; intro w7 hv7 hg7 hz7))
            have hv2lt := blk_lt HW6.out
            have HG7 : Aside0 (Gr w7 w.heap.size g vp vt parts tos) := ⟨blk_grown HG6.out.blk hg7 (fun e => by injection e with e; exact blk_ne HG6.out.blk HW6.out (by decide) e), HG6.out.hb, Kd.R_mono (Kd.R_grown (Kd.R_types HG6.out.p HW6.out (by decide)) hg7 (fun k hk e => by injection e with e; exact hk.2 e)) (fun _ hk => hk.1), Kd.R_mono (Kd.R_grown (Kd.R_types HG6.out.t HW6.out (by decide)) hg7 (fun k hk e => by injection e with e; exact hk.2 e)) (fun _ hk => hk.1)⟩
            have HV7 : Aside0 (w7.heap[vb]? = some (.cells (nums .i64 V).toArray 140 (0, 0))) := ⟨blk_grown HV6.out hg7 (fun e => by injection e with e; exact hne e.symm)⟩
            have HB7 : Aside0 (Below w.heap.size w w7) := ⟨pw_below_grown HB6.out _ HB6.out.size hg7 (fun k e => by injection e with e; omega)⟩
            have HW7 := Aside0.mk hv7
            have H7 : Aside0 (∀ pl' : List Int, pl'.length = tb.length → AddOk l tb 0 tb.length parts tos pl' V tms) := ⟨fun pl' hpl => HK6.out.next pl' hpl⟩
            clear hv7 hg7 hz7 hv2lt
            refine (add_any (g := g) (vb := v2) (v2 := vb) (P0 := parts.length) (d := 0) (c := cb) w.heap.size w _ rfl HB7.out HS.out HL.out HTB.out HCB.out HG7.out HW7.out hv20 HV7.out hne.symm (.inl rfl) rfl (by have := HP6.out; have := HLA.out; omega) H7.out).mono ?_
            rintro e w8 ⟨y, vp8, vt8, parts8, tos8, pl8, V8, tms8, rfl, hg8, hv8, hw8, hb8, hpl8, hk8, hy8, hty8, hpp8, hpre8⟩
            have htx : tmF tms8 x = ta := by rw [hpre8 x HP6.out.2, HTX.out, tgD_zero]
            have hty : tmF tms8 y = tg false tb := by rw [hty8, tg_tgD]; rfl
            have hN4 : parts8.length ≤ 4000 := by have := HP6.out; have := HLA.out; have := HLB.out; omega
            have hx8 : x < parts8.length := by have := HP6.out; omega
            obtain ⟨gq, cq, e1, -⟩ := Kd.R_form hg8.p (by omega)
            subst e1
            obtain ⟨ga, cg, e2, -⟩ := Kd.R_form hg8.t (by rw [hk8.tol]; omega)
            subst e2
            rw [hk8.tol] at hg8
            have hF8 : FSt w8 w8 w.heap.size g (.slice (some ⟨gq, 0, none⟩) parts8.length cq) ga parts8.length cg parts8 (fun x => x) tos8 := ⟨hg8, hk8.tol, hk8.roots, Below.refl _ _, Kept.refl _ _⟩
            have HF8 := Aside0.mk hF8
            have HB8 := Aside0.mk hb8
            have HK8 := Aside0.mk hk8
            have HT8 := Aside0.mk (And.intro htx hty)
            have HU8 := Aside0.mk (hk8.uni hx8 hy8)
            have HXY := Aside0.mk (And.intro hx8 hy8)
            clear hg8 hv8 hw8 hb8 hpl8 hk8 hy8 hty8 hpp8 hpre8 hF8 htx hty HG6 HV6 HW6 HB6 HP6 HK6 HTX H7 hx8 HG7 HV7 HB7 HW7
            go_wp2_with fail
            refine (unify_any w.heap.size g ga parts8.length cg gq cq parts8 (an l) (tmF tms8) (fun x => x) tos8 x y w8 HF8.out rfl (by omega) HU8.out HK8.out.small).mono ?_
            rintro e w9 ⟨okb, R, ys, rfl, hF9, hres⟩
            have HF9 := Aside0.mk hF9
            have HB9 : Aside0 (Below w.heap.size w w9) := ⟨HB8.out.trans hF9.b⟩
            clear hF9
            rcases hres with ⟨rfl, hU⟩ | ⟨rfl, hnone⟩
            · have HU := Aside0.mk hU
              clear hU
              have hwg : w.heap.size ≤ w9.heap.size := HB9.out.size
              obtain ⟨c0, _⟩ := HF9.out.cells
              have mk := make_zero2 parts8.length (by omega)
              have HG9 : Aside0 (GrOk w9 w.heap.size g gq cq ga parts8.length cg parts8 R) := ⟨⟨ys, HF9.out.g⟩, rfl, HU.out.lt, HK8.out.arg, HK8.out.var⟩
              go_wp2_with fail
              clear c0 mk
              have HSZ : Aside0 (SzSt w9 (w9.alloc (.cells (nums .i64 (List.replicate parts8.length 0)).toArray 3)) w.heap.size g (.slice (some ⟨gq, 0, none⟩) parts8.length cq) ga parts8.length cg parts8 R w9.heap.size parts8.length (List.replicate parts8.length 0)) :=
                ⟨⟨ys, FSt.below ⟨HF9.out.g, HF9.out.len, HF9.out.root, Below.refl _ _, Kept.refl _ _⟩ (below_alloc (Below.refl _ _) _)⟩, Kd.R_mono (own_zeros w9 parts8.length (Nat.le_refl _) (by omega)) (fun _ _ => trivial)⟩
              obtain ⟨K', r, hz, hpost⟩ := sz_law HU.out (parts8.length + 1) (List.replicate parts8.length 0) x (by have := zc_le (List.replicate parts8.length 0); simp at this; omega) (szOk_zero (netP parts8 (tmF tms8)) R (repP parts8)) HXY.out.1
              have HZ := Aside0.mk hz
              have HPO := Aside0.mk hpost
              clear hz hpost
              refine (size_any w.heap.size g gq cq ga parts8.length cg w9.heap.size parts8.length parts8 (tmF tms8) R w9 HG9.out (parts8.length + 1) (List.replicate parts8.length 0) x K' r _ HZ.out (small_zero _) HXY.out.1 HSZ.out).mono ?_
              rintro e w10 ⟨rfl, hS10⟩
              obtain ⟨ys10, hF10⟩ := hS10.f
              have HF10 := Aside0.mk hF10
              have HB10 : Aside0 (Below w.heap.size w w10) := ⟨HB9.out.trans hF10.b⟩
              clear hS10 hF10 HSZ
              rcases HPO.out.2 with ⟨m, T, rfl, hrest⟩ | ⟨rfl, hrest⟩
              · have HR := Aside0.mk hrest
                clear hrest
                simp only [szV, Option.getD_some, Option.isSome_some]
                go_wp2_with fail
                refine bodyPost_ret (results_tmp4 rfl _ _ _) rfl ?_
                refine ⟨g, x, m, rfl, .inr ⟨gq, cq, ga, parts8.length, cg, parts8, R, ys10, tms8, y, T, ⟨HF10.out.g, HF10.out.len, HF10.out.root, Below.refl _ _, Kept.refl _ _⟩, ⟨⟨ys10, HF10.out.g⟩, rfl, HU.out.lt, HK8.out.arg, HK8.out.var⟩, HU.out, HXY.out.1, hN4, HR.out.2.2.2.1, ?_, ?_⟩, HB10.out⟩
                · have h := HU.out.mgi HXY.out.1 HXY.out.2 HR.out.2.2.2.1
                  simp only [netP] at h
                  rw [HT8.out.1, HT8.out.2] at h
                  exact h
                · have := HR.out.2.2.2.2; omega
              · have HR := Aside0.mk hrest
                clear hrest
                simp only [szV, Option.getD_none, Option.isSome_none]
                go_wp2_with fail
                refine bodyPost_ret (results_tmp4 rfl _ _ _) rfl ?_
                refine ⟨g, x, 0, rfl, .inl ⟨rfl, fun s hs he => ?_⟩, HB10.out⟩
                refine HR.out s hs ?_ (fun z hz => ?_)
                · simp only [netP]; rw [HT8.out.1, HT8.out.2]; exact he
                · intro c hc _ ho
                  have : rd (List.replicate parts8.length 0) (c : Int) = 0 := by
                    simp only [rd, Int.toNat_natCast, List.getD_eq_getElem?_getD, List.getElem?_replicate]; split <;> rfl
                  omega
            · have HN := Aside0.mk hnone
              clear hnone
              go_wp2_with fail
              refine bodyPost_ret (results_tmp4 rfl _ _ _) rfl ?_
              refine ⟨g, x, 0, rfl, .inl ⟨rfl, ?_⟩, HB9.out⟩
              have h := HN.out
              rw [HT8.out.1, HT8.out.2] at h
              exact h
          · skip
            go_wp2_with fail
            have H7 : Aside0 (∀ pl' : List Int, pl'.length = tb.length → AddOk l tb 1000 tb.length parts tos pl' (List.replicate 100 (-1)) tms) := ⟨fun pl' hpl => HK6.out.next1 pl' hpl⟩
            refine (add_any (g := g) (vb := v2) (v2 := vb) (P0 := parts.length) (d := 1000) (c := cb) w.heap.size w _ rfl HB6.out HS.out HL.out HTB.out HCB.out HG6.out HW6.out hv20 HV6.out hne.symm (.inr rfl) rfl (by have := HP6.out; have := HLA.out; omega) H7.out).mono ?_
            rintro e w8 ⟨y, vp8, vt8, parts8, tos8, pl8, V8, tms8, rfl, hg8, hv8, hw8, hb8, hpl8, hk8, hy8, hty8, hpp8, hpre8⟩
            have htx : tmF tms8 x = ta := by rw [hpre8 x HP6.out.2, HTX.out, tgD_zero]
            have hty : tmF tms8 y = tg true tb := by rw [hty8, tg_tgD]; rfl
            have hN4 : parts8.length ≤ 4000 := by have := HP6.out; have := HLA.out; have := HLB.out; omega
            have hx8 : x < parts8.length := by have := HP6.out; omega
            obtain ⟨gq, cq, e1, -⟩ := Kd.R_form hg8.p (by omega)
            subst e1
            obtain ⟨ga, cg, e2, -⟩ := Kd.R_form hg8.t (by rw [hk8.tol]; omega)
            subst e2
            rw [hk8.tol] at hg8
            have hF8 : FSt w8 w8 w.heap.size g (.slice (some ⟨gq, 0, none⟩) parts8.length cq) ga parts8.length cg parts8 (fun x => x) tos8 := ⟨hg8, hk8.tol, hk8.roots, Below.refl _ _, Kept.refl _ _⟩
            have HF8 := Aside0.mk hF8
            have HB8 := Aside0.mk hb8
            have HK8 := Aside0.mk hk8
            have HT8 := Aside0.mk (And.intro htx hty)
            have HU8 := Aside0.mk (hk8.uni hx8 hy8)
            have HXY := Aside0.mk (And.intro hx8 hy8)
            clear hg8 hv8 hw8 hb8 hpl8 hk8 hy8 hty8 hpp8 hpre8 hF8 htx hty HG6 HV6 HW6 HB6 HP6 HK6 HTX H7 hx8
            go_wp2_with fail
            refine (unify_any w.heap.size g ga parts8.length cg gq cq parts8 (an l) (tmF tms8) (fun x => x) tos8 x y w8 HF8.out rfl (by omega) HU8.out HK8.out.small).mono ?_
            rintro e w9 ⟨okb, R, ys, rfl, hF9, hres⟩
            have HF9 := Aside0.mk hF9
            have HB9 : Aside0 (Below w.heap.size w w9) := ⟨HB8.out.trans hF9.b⟩
            clear hF9
            rcases hres with ⟨rfl, hU⟩ | ⟨rfl, hnone⟩
            · have HU := Aside0.mk hU
              clear hU
              have hwg : w.heap.size ≤ w9.heap.size := HB9.out.size
              obtain ⟨c0, _⟩ := HF9.out.cells
              have mk := make_zero2 parts8.length (by omega)
              have HG9 : Aside0 (GrOk w9 w.heap.size g gq cq ga parts8.length cg parts8 R) := ⟨⟨ys, HF9.out.g⟩, rfl, HU.out.lt, HK8.out.arg, HK8.out.var⟩
              go_wp2_with fail
              clear c0 mk
              have HSZ : Aside0 (SzSt w9 (w9.alloc (.cells (nums .i64 (List.replicate parts8.length 0)).toArray 3)) w.heap.size g (.slice (some ⟨gq, 0, none⟩) parts8.length cq) ga parts8.length cg parts8 R w9.heap.size parts8.length (List.replicate parts8.length 0)) :=
                ⟨⟨ys, FSt.below ⟨HF9.out.g, HF9.out.len, HF9.out.root, Below.refl _ _, Kept.refl _ _⟩ (below_alloc (Below.refl _ _) _)⟩, Kd.R_mono (own_zeros w9 parts8.length (Nat.le_refl _) (by omega)) (fun _ _ => trivial)⟩
              obtain ⟨K', r, hz, hpost⟩ := sz_law HU.out (parts8.length + 1) (List.replicate parts8.length 0) x (by have := zc_le (List.replicate parts8.length 0); simp at this; omega) (szOk_zero (netP parts8 (tmF tms8)) R (repP parts8)) HXY.out.1
              have HZ := Aside0.mk hz
              have HPO := Aside0.mk hpost
              clear hz hpost
              refine (size_any w.heap.size g gq cq ga parts8.length cg w9.heap.size parts8.length parts8 (tmF tms8) R w9 HG9.out (parts8.length + 1) (List.replicate parts8.length 0) x K' r _ HZ.out (small_zero _) HXY.out.1 HSZ.out).mono ?_
              rintro e w10 ⟨rfl, hS10⟩
              obtain ⟨ys10, hF10⟩ := hS10.f
              have HF10 := Aside0.mk hF10
              have HB10 : Aside0 (Below w.heap.size w w10) := ⟨HB9.out.trans hF10.b⟩
              clear hS10 hF10 HSZ
              rcases HPO.out.2 with ⟨m, T, rfl, hrest⟩ | ⟨rfl, hrest⟩
              · have HR := Aside0.mk hrest
                clear hrest
                simp only [szV, Option.getD_some, Option.isSome_some]
                go_wp2_with fail
                refine bodyPost_ret (results_tmp4 rfl _ _ _) rfl ?_
                refine ⟨g, x, m, rfl, .inr ⟨gq, cq, ga, parts8.length, cg, parts8, R, ys10, tms8, y, T, ⟨HF10.out.g, HF10.out.len, HF10.out.root, Below.refl _ _, Kept.refl _ _⟩, ⟨⟨ys10, HF10.out.g⟩, rfl, HU.out.lt, HK8.out.arg, HK8.out.var⟩, HU.out, HXY.out.1, hN4, HR.out.2.2.2.1, ?_, ?_⟩, HB10.out⟩
                · have h := HU.out.mgi HXY.out.1 HXY.out.2 HR.out.2.2.2.1
                  simp only [netP] at h
                  rw [HT8.out.1, HT8.out.2] at h
                  exact h
                · have := HR.out.2.2.2.2; omega
              · have HR := Aside0.mk hrest
                clear hrest
                simp only [szV, Option.getD_none, Option.isSome_none]
                go_wp2_with fail
                refine bodyPost_ret (results_tmp4 rfl _ _ _) rfl ?_
                refine ⟨g, x, 0, rfl, .inl ⟨rfl, fun s hs he => ?_⟩, HB10.out⟩
                refine HR.out s hs ?_ (fun z hz => ?_)
                · simp only [netP]; rw [HT8.out.1, HT8.out.2]; exact he
                · intro c hc _ ho
                  have : rd (List.replicate parts8.length 0) (c : Int) = 0 := by
                    simp only [rd, Int.toNat_natCast, List.getD_eq_getElem?_getD, List.getElem?_replicate]; split <;> rfl
                  omega
            · have HN := Aside0.mk hnone
              clear hnone
              go_wp2_with fail
              refine bodyPost_ret (results_tmp4 rfl _ _ _) rfl ?_
              refine ⟨g, x, 0, rfl, .inl ⟨rfl, ?_⟩, HB9.out⟩
              have h := HN.out
              rw [HT8.out.1, HT8.out.2] at h
              exact h
end Go.Proofs.Ytadjoaipmcbieaa

/- unify.Unify, Overlap, Clash: what each call answers. -/
namespace Go.Proofs.Ytadjoaipmcbieaa
open Go.RowKit Go.Proofs.YtadjoaipmcbieaaW.PrintWords Go.Proofs.YtadjoaipmcbieaaW.PrintLast Go.Proofs.YtadjoaipmcbieaaW.PrintMore A
open Go.Maps
set_option linter.unusedSimpArgs false
set_option linter.unusedVariables false

/-- What is told of two lists: an error's number, a term. -/
def ComR (l : List S89) (a b : List Int) (ap : Bool) (e : Int) (t : List Int) : Prop := if chk l a ≠ 0 then e = chk l a ∧ t = [] else if chk l b ≠ 0 then e = chk l b ∧ t = [] else UniR (an l) a (tg ap b) e t
theorem ComR.det {l : List S89} {a b : List Int} {ap : Bool} {e e' : Int} {t t' : List Int} (h : ComR l a b ap e t) (h' : ComR l a b ap e' t') : e = e' ∧ t = t' := by
  unfold ComR at h h'
  split at h
  · rename_i h0; rw [if_pos h0] at h'; exact ⟨by rw [h.1, h'.1], by rw [h.2, h'.2]⟩
  · rename_i h0
    rw [if_neg h0] at h'
    split at h
    · rename_i h1; rw [if_pos h1] at h'; exact ⟨by rw [h.1, h'.1], by rw [h.2, h'.2]⟩
    · rename_i h1; rw [if_neg h1] at h'; exact h.det h'
/-- Whether two lists have nothing in common: an error's number, the answer. -/
def ClaR (l : List S89) (a b : List Int) (e : Int) (c : Bool) : Prop := if chk l a ≠ 0 then e = chk l a ∧ c = false else if chk l b ≠ 0 then e = chk l b ∧ c = false else e = 0 ∧ (c = true ↔ ∀ s, Gd (an l) s → sb s a ≠ sb s (tg true b))
theorem ClaR.det {l : List S89} {a b : List Int} {e e' : Int} {c c' : Bool} (h : ClaR l a b e c) (h' : ClaR l a b e' c') : e = e' ∧ c = c' := by
  unfold ClaR at h h'
  split at h
  · rename_i h0; rw [if_pos h0] at h'; exact ⟨by rw [h.1, h'.1], by rw [h.2, h'.2]⟩
  · rename_i h0
    rw [if_neg h0] at h'
    split at h
    · rename_i h1; rw [if_pos h1] at h'; exact ⟨by rw [h.1, h'.1], by rw [h.2, h'.2]⟩
    · rename_i h1; rw [if_neg h1] at h'; exact ⟨by rw [h.1, h'.1], by rw [Bool.eq_iff_iff, h.2, h'.2]⟩

section
variable {sg : Nat} {l : List S89} {ta tb : List Int} {A B : Option Addr} {ca cb : Nat} {ap : Bool}
set_option maxRecDepth 100000 in
set_option maxHeartbeats 4000000 in
theorem solve_bad (w : World) (hs : SigC w sg l) (hl : GoodL l) (hta : Kd.C (Kd.int .i64) w A ta.length ta) (htb : Kd.C (Kd.int .i64) w B tb.length tb) (ea eb : Int) (hea : ea = chk l ta) (heb : eb = chk l tb) (hbad : ea ≠ 0 ∨ eb ≠ 0) :
    Calls Try.prog 89 #[.pointer (some ⟨sg, 0, none⟩), .slice A ta.length ca, .slice B tb.length cb, .bool ap] w fun e w' => e = .returned (.tuple #[.pointer none, .int .i64 0, .int .i64 0, .int .i64 (if ea ≠ 0 then ea else eb)]) ∧ Below w.heap.size w w' := by
  have HS := Aside0.mk hs
  have HL := Aside0.mk hl
  have HTA := Aside0.mk hta
  have HTB := Aside0.mk htb
  have HCA := Aside0.mk hea
  have HCB := Aside0.mk heb
  have HBAD := Aside0.mk hbad
  have k0 : (w.alloc (.cells #[.slice A ta.length ca, .slice B tb.length cb] 25)).heap[w.heap.size]? = _ := heap_alloc_new w _
  have hb0 : Below w.heap.size w (w.alloc (.cells #[.slice A ta.length ca, .slice B tb.length cb] 25)) := below_alloc (Below.refl _ _) _
  have HK0 := Aside0.mk k0
  have HB0 := Aside0.mk hb0
  obtain ⟨er, her⟩ : ∃ er, er = if ea ≠ 0 then ea else eb := ⟨_, rfl⟩
  rw [← her]
  have HER := Aside0.mk her
  clear hs hl hta htb hea heb k0 hb0 hbad her
  go_enter Try.func89, Try.ntmps89
  go_wp2_with fail
  go_loopg [27] 2 (fun m a wr => ∃ k : Nat, a = .int .i64 k ∧ k ≤ 1 ∧ Aside0 (m = 2 - k) ∧ Aside0 (k = 1 → ea = 0) ∧ Aside0 (wr.heap[w.heap.size]? = some (.cells #[.slice A ta.length ca, .slice B tb.length cb] 25 (0, 0))) ∧ Aside0 (Below w.heap.size w wr))
  case atStart => exact ⟨0, rfl, by omega, ⟨rfl⟩, ⟨by omega⟩, HK0, HB0⟩
  case round =>
    clear HK0 HB0
    obtain ⟨k, rfl, hk, HM, HE, HK, HB⟩ := hrel
    have k0 := cell_of_row wr w.heap.size 0 _ _ _ HK.out
    have k1 := cell_of_row wr w.heap.size 1 _ _ _ HK.out
    simp at k0 k1
    have hcase : k = 0 ∨ k = 1 := by omega
    rcases hcase with rfl | rfl
    · go_wp2_with fail
      clear k0 k1
      refine (check_any sg l A ca ta _ (HS.out.below HB.out) HL.out (Kd.C_below HTA.out HB.out)).mono ?_
      rintro e w1 ⟨rfl, hb⟩
      rw [← HCA.out]
      have HK1 := Aside0.mk ((hb.block _ (blk_lt HK.out)).trans HK.out)
      have HB1 := Aside0.mk (below_then HB.out HB.out.size hb)
      clear hb
      by_cases h0 : ea = 0
      · have e1 : (ea != 0) = false := bne_eq_false_iff_eq.2 h0
        have H0 := Aside0.mk h0
        clear h0
        go_wp2_with fail
        go_roundg 1
        case measure => have := HM.out; omega
        case rel => exact ⟨1, rfl, by omega, ⟨rfl⟩, ⟨fun _ => H0.out⟩, HK1, HB1⟩
      · have e1 : (ea != 0) = true := bne_iff_ne.2 h0
        have H0 := Aside0.mk h0
        clear h0
        go_wp2_with fail
        (try simp only [Exit.inBlock, Exit.then])
        refine bodyPost_ret (results_tmp4 rfl _ _ _) rfl ?_
        have her := HER.out
        rw [if_pos H0.out] at her
        subst her
        exact ⟨rfl, HB1.out⟩
    · go_wp2_with fail
      clear k0 k1
      refine (check_any sg l B cb tb _ (HS.out.below HB.out) HL.out (Kd.C_below HTB.out HB.out)).mono ?_
      rintro e w1 ⟨rfl, hb⟩
      rw [← HCB.out]
      have HB1 := Aside0.mk (below_then HB.out HB.out.size hb)
      clear hb
      have HE0 : Aside0 (ea = 0) := ⟨by have := HE.out; simpa using this⟩
      have h0 : eb ≠ 0 := by rcases HBAD.out with h | h; exact absurd HE0.out h; exact h
      have e1 : (eb != 0) = true := bne_iff_ne.2 h0
      clear h0
      go_wp2_with fail
      (try simp only [Exit.inBlock, Exit.then])
      refine bodyPost_ret (results_tmp4 rfl _ _ _) rfl ?_
      have her := HER.out
      rw [if_neg (fun h => h HE0.out)] at her
      subst her
      exact ⟨rfl, HB1.out⟩

theorem num_new (w : World) : NumM (w.alloc (.map #[] 0)) w.heap.size [] := by
  have h0 := World.ownsMap_made w Try.prog 3 (plainElem (H := Unit) Try.prog 3)
  exact ⟨_, h0, rfl, fun c => ⟨rfl, rfl⟩⟩
set_option maxRecDepth 100000 in
set_option maxHeartbeats 4000000 in
theorem common_any (w : World) (hs : SigC w sg l) (hl : GoodL l) (hta : Kd.C (Kd.int .i64) w A ta.length ta) (htb : Kd.C (Kd.int .i64) w B tb.length tb) :
    Calls Try.prog 86 #[.pointer (some ⟨sg, 0, none⟩), .slice A ta.length ca, .slice B tb.length cb, .bool ap] w fun e w' => ∃ (v : Value) (er : Int) (t : List Int), e = .returned (.tuple #[v, .int .i64 er]) ∧ ComR l ta tb ap er t ∧ Kd.R (Kd.int .i64) 3 w' w.heap.size (fun _ => True) v t ∧ Below w.heap.size w w' := by
  by_cases hbad : chk l ta ≠ 0 ∨ chk l tb ≠ 0
  · obtain ⟨er, her⟩ : ∃ er, er = if chk l ta ≠ 0 then chk l ta else chk l tb := ⟨_, rfl⟩
    have hne : er ≠ 0 := by
      rw [her]; split
      · assumption
      · rename_i h; rcases hbad with h' | h'
        · exact absurd h' h
        · exact h'
    have hcr : ComR l ta tb ap er [] := by
      unfold ComR
      by_cases h : chk l ta ≠ 0
      · rw [if_pos h] at her ⊢; exact ⟨her, rfl⟩
      · rw [if_neg h] at her ⊢
        rw [if_pos (by rcases hbad with h' | h'; exact absurd h' h; exact h')]; exact ⟨her, rfl⟩
    have HCR := Aside0.mk hcr
    have e1 : (er != 0) = true := bne_iff_ne.2 hne
    have hsb := solve_bad (sg := sg) (A := A) (B := B) (ca := ca) (cb := cb) (ap := ap) w hs hl hta htb _ _ rfl rfl hbad
    rw [← her] at hsb
    have HSB := Aside0.mk hsb
    clear hsb her hne hbad hcr hs hl hta htb
    have hmm := @run_makeMap Try.prog
    go_enter Try.func86, Try.ntmps86
    go_wp2_with fail
    refine HSB.out.mono ?_
    rintro e w1 ⟨rfl, hb⟩
    go_wp2_with fail
    go_ret2
    exact ⟨_, er, [], rfl, HCR.out, Kd.R_nil _ _ _ _ _, hb⟩
  · have hca : chk l ta = 0 := by
      rcases Decidable.em (chk l ta = 0) with h | h
      · exact h
      · exact absurd (.inl h) hbad
    have hcb : chk l tb = 0 := by
      rcases Decidable.em (chk l tb = 0) with h | h
      · exact h
      · exact absurd (.inr h) hbad
    have hcr : ∀ er t, UniR (an l) ta (tg ap tb) er t → ComR l ta tb ap er t := fun er t h => by unfold ComR; rw [if_neg (fun h => h hca), if_neg (fun h => h hcb)]; exact h
    have HCR := Aside0.mk hcr
    have HSO := Aside0.mk (solve_ok (sg := sg) (A := A) (B := B) (ca := ca) (cb := cb) (ap := ap) w hs hl hta htb hca hcb)
    clear hbad hcr hs hl hta htb hca hcb
    have hmm := @run_makeMap Try.prog
    go_enter Try.func86, Try.ntmps86
    go_wp2_with fail
    refine HSO.out.mono ?_
    rintro e w1 ⟨g, x, n, rfl, hP, hb⟩
    have HB := Aside0.mk hb
    clear hb
    rcases hP with ⟨rfl, hnone⟩ | hJ
    · have HN := Aside0.mk hnone
      clear hnone
      go_wp2_with fail
      go_ret2
      exact ⟨_, 60, [], rfl, HCR.out _ _ (.none HN.out), Kd.R_nil _ _ _ _ _, HB.out⟩
    · obtain ⟨gq, cq, ga, N, c, parts, R, ys, tms, y, T, hF, hG, hU, hx, hN, hT, hM, hn⟩ := hJ
      have hTp : 1 ≤ T.length := by have := hT.len; simpa using this
      have HF := Aside0.mk hF
      have HG := Aside0.mk hG
      have HU := Aside0.mk hU
      have HT := Aside0.mk hT
      have HM := Aside0.mk hM
      have HNN := Aside0.mk hn
      clear hF hG hU hT hM
      by_cases hlong : 2000 < T.length
      · obtain rfl : n = 2001 := by omega
        clear hn
        go_wp2_with fail
        go_ret2
        exact ⟨_, 20, [], rfl, HCR.out _ _ (.long HM.out hlong), Kd.R_nil _ _ _ _ _, HB.out⟩
      · obtain ⟨k, hk⟩ : ∃ k : Nat, n = (k : Int) ∧ 1 ≤ k ∧ k ≤ 2000 := ⟨T.length, by omega, by omega, by omega⟩
        obtain ⟨rfl, hk1, hk2⟩ := hk
        have e1 : ((k : Int) == 0) = false := beq_eq_false_iff_ne.2 (by omega)
        have e2 : decide (2000 < (k : Int)) = false := decide_eq_false (by omega)
        have hTl : T.length ≤ 2000 := by omega
        have HLY := Aside0.mk (ly_law HU.out T.length x T [] [] (show x < (netP parts (tmF tms)).n by rw [show (netP parts (tmF tms)).n = parts.length from rfl, HG.out.pn]; exact hx) HT.out (Nat.le_refl _))
        have HTL := Aside0.mk hTl
        clear hn hlong hTl
        go_wp2_with fail
        have hL : LySt w1 (w1.alloc (.map #[] 0)) w.heap.size g (.slice (some ⟨gq, 0, none⟩) N cq) ga N c parts R (.slice none 0 0) [] w1.heap.size [] :=
          ⟨⟨ys, HF.out.below (below_alloc (Below.refl _ _) _)⟩, Kd.R_nil _ _ _ _ _, num_new w1, Nat.le_refl _⟩
        refine (lay_any w.heap.size g gq cq ga N c w1.heap.size parts (tmF tms) R w1 HG.out (by omega) T.length [] x [] (rn [] T) (rns [] T) (.slice none 0 0) _ HLY.out hx (by rw [rn_length]; have := HTL.out; omega) (by simp) hL).mono ?_
        rintro e w2 ⟨v, rfl, hL2⟩
        obtain ⟨ys2, hF2⟩ := hL2.f
        have HL2 := Aside0.mk hL2
        have HF2 := Aside0.mk hF2
        clear hL2 hF2 hL
        go_wp2_with fail
        go_ret2
        exact ⟨v, 0, rn [] T, rfl, HCR.out _ _ (.ok HM.out HTL.out), Kd.R_lower HL2.out.o HB.out.size, HB.out.trans HF2.out.b⟩
theorem Unify_any (w : World) (hs : SigC w sg l) (hl : GoodL l) (hta : Kd.C (Kd.int .i64) w A ta.length ta) (htb : Kd.C (Kd.int .i64) w B tb.length tb) :
    Calls Try.prog 54 #[.pointer (some ⟨sg, 0, none⟩), .slice A ta.length ca, .slice B tb.length cb] w fun e w' => ∃ (v : Value) (er : Int) (t : List Int), e = .returned (.tuple #[v, .int .i64 er]) ∧ ComR l ta tb false er t ∧ Kd.R (Kd.int .i64) 3 w' w.heap.size (fun _ => True) v t ∧ Below w.heap.size w w' := by
  have HC := Aside0.mk (common_any (ca := ca) (cb := cb) (ap := false) w hs hl hta htb)
  clear hs hl hta htb
  go_enter Try.func54, Try.ntmps54
  go_wp2_with fail
  refine HC.out.mono ?_
  rintro e w1 ⟨v, er, t, rfl, hR, hr, hb⟩
  have H := Aside0.mk (And.intro hR (And.intro hr hb))
  clear hR hr hb
  go_wp2_with fail
  go_ret2
  exact ⟨v, er, t, rfl, H.out⟩
theorem Overlap_any (w : World) (hs : SigC w sg l) (hl : GoodL l) (hta : Kd.C (Kd.int .i64) w A ta.length ta) (htb : Kd.C (Kd.int .i64) w B tb.length tb) :
    Calls Try.prog 56 #[.pointer (some ⟨sg, 0, none⟩), .slice A ta.length ca, .slice B tb.length cb] w fun e w' => ∃ (v : Value) (er : Int) (t : List Int), e = .returned (.tuple #[v, .int .i64 er]) ∧ ComR l ta tb true er t ∧ Kd.R (Kd.int .i64) 3 w' w.heap.size (fun _ => True) v t ∧ Below w.heap.size w w' := by
  have HC := Aside0.mk (common_any (ca := ca) (cb := cb) (ap := true) w hs hl hta htb)
  clear hs hl hta htb
  go_enter Try.func56, Try.ntmps56
  go_wp2_with fail
  refine HC.out.mono ?_
  rintro e w1 ⟨v, er, t, rfl, hR, hr, hb⟩
  have H := Aside0.mk (And.intro hR (And.intro hr hb))
  clear hR hr hb
  go_wp2_with fail
  go_ret2
  exact ⟨v, er, t, rfl, H.out⟩
theorem Clash_any (w : World) (hs : SigC w sg l) (hl : GoodL l) (hta : Kd.C (Kd.int .i64) w A ta.length ta) (htb : Kd.C (Kd.int .i64) w B tb.length tb) :
    Calls Try.prog 59 #[.pointer (some ⟨sg, 0, none⟩), .slice A ta.length ca, .slice B tb.length cb] w fun e w' => ∃ (er : Int) (cl : Bool), e = .returned (.tuple #[.bool cl, .int .i64 er]) ∧ ClaR l ta tb er cl ∧ Below w.heap.size w w' := by
  by_cases hbad : chk l ta ≠ 0 ∨ chk l tb ≠ 0
  · obtain ⟨er, her⟩ : ∃ er, er = if chk l ta ≠ 0 then chk l ta else chk l tb := ⟨_, rfl⟩
    have hne : er ≠ 0 := by
      rw [her]; split
      · assumption
      · rename_i h; rcases hbad with h' | h'
        · exact absurd h' h
        · exact h'
    have hcr : ClaR l ta tb er false := by
      unfold ClaR
      by_cases h : chk l ta ≠ 0
      · rw [if_pos h] at her ⊢; exact ⟨her, rfl⟩
      · rw [if_neg h] at her ⊢
        rw [if_pos (by rcases hbad with h' | h'; exact absurd h' h; exact h')]; exact ⟨her, rfl⟩
    have HCR := Aside0.mk hcr
    have e1 : (er == 0) = false := beq_eq_false_iff_ne.2 hne
    have hsb := solve_bad (sg := sg) (A := A) (B := B) (ca := ca) (cb := cb) (ap := true) w hs hl hta htb _ _ rfl rfl hbad
    rw [← her] at hsb
    have HSB := Aside0.mk hsb
    clear hsb her hne hbad hcr hs hl hta htb
    go_enter Try.func59, Try.ntmps59
    go_wp2_with fail
    refine HSB.out.mono ?_
    rintro e w1 ⟨rfl, hb⟩
    go_wp2_with fail
    go_ret2
    exact ⟨er, false, rfl, HCR.out, hb⟩
  · have hca : chk l ta = 0 := by
      rcases Decidable.em (chk l ta = 0) with h | h
      · exact h
      · exact absurd (.inl h) hbad
    have hcb : chk l tb = 0 := by
      rcases Decidable.em (chk l tb = 0) with h | h
      · exact h
      · exact absurd (.inr h) hbad
    have hcr : ∀ c, (c = true ↔ ∀ s, Gd (an l) s → sb s ta ≠ sb s (tg true tb)) → ClaR l ta tb 0 c := fun c h => by unfold ClaR; rw [if_neg (fun h => h hca), if_neg (fun h => h hcb)]; exact ⟨rfl, h⟩
    have HCR := Aside0.mk hcr
    have HSO := Aside0.mk (solve_ok (sg := sg) (A := A) (B := B) (ca := ca) (cb := cb) (ap := true) w hs hl hta htb hca hcb)
    clear hbad hcr hs hl hta htb hca hcb
    go_enter Try.func59, Try.ntmps59
    go_wp2_with fail
    refine HSO.out.mono ?_
    rintro e w1 ⟨g, x, n, rfl, hP, hb⟩
    rcases hP with ⟨rfl, hnone⟩ | hJ
    · have HN := Aside0.mk (And.intro hnone hb)
      clear hnone hb
      go_wp2_with fail
      go_ret2
      exact ⟨0, true, rfl, HCR.out true ⟨fun _ => HN.out.1, fun _ => rfl⟩, HN.out.2⟩
    · obtain ⟨gq, cq, ga, N, c, parts, R, ys, tms, y, T, hF, hG, hU, hx, hN, hT, hM, hn⟩ := hJ
      have hTp : 1 ≤ T.length := by have := hT.len; simpa using this
      have e1 : (n == 0) = false := beq_eq_false_iff_ne.2 (by omega)
      have HM := Aside0.mk (And.intro hM hb)
      clear hF hG hU hT hM hb hn hTp
      go_wp2_with fail
      go_ret2
      exact ⟨0, false, rfl, HCR.out false ⟨fun h => by simp at h, fun h => absurd h HM.out.1.some⟩, HM.out.2⟩
end
end Go.Proofs.Ytadjoaipmcbieaa

/- awake (of ropewalklaw06): the calls whose answers the document fixes are answered so. -/
namespace Go.Proofs.Ytadjoaipmcbieaa
open Go.RowKit Go.Proofs.YtadjoaipmcbieaaW.PrintWords Go.Proofs.YtadjoaipmcbieaaW.PrintLast Go.Proofs.YtadjoaipmcbieaaW.PrintMore A
set_option linter.unusedSimpArgs false
set_option linter.unusedVariables false

theorem an3 : an L3 0 = 0 ∧ an L3 1 = 1 ∧ an L3 2 = 2 := ⟨rfl, rfl, rfl⟩
theorem t_var {n : Int} (h : n < 0) : IsT (an L3) 1 [n] := .cons (by rw [an_neg h]; exact .nil)
theorem t_zero : IsT (an L3) 1 [0] := .cons .nil
theorem t_suc {xs : List Int} (h : IsT (an L3) 1 xs) : IsT (an L3) 1 (1 :: xs) := .cons h
theorem sb_two (s : Int → List Int) (n m : Int) (hn : n < 0) (r : List Int) (h : 0 ≤ m) : sb s (m :: n :: r) = m :: (s n ++ sb s r) := by rw [sb_sym h, sb_cons, if_pos hn]
theorem C_new2 (w : World) (o : Obj) (e : TypeId) (xs : List Int) (h : xs.length ≤ 9223372036854775807) : Kd.C (Kd.int .i64) ((w.alloc o).alloc (.cells (nums .i64 xs).toArray e)) (some ⟨w.heap.size + 1, 0, none⟩) xs.length xs := by
  have h2 := C_new (w.alloc o) e xs h
  rw [show (w.alloc o).heap.size = w.heap.size + 1 by simp] at h2
  exact h2
/-- add(x, z) and add(s(y), u), apart. -/
theorem over3 : ComR L3 [2, -1, 0] [2, 1, -1, -2] true 0 [2, 1, -1, 0] := by
  have hM : Mgi (an L3) [2, -1, 0] (tg true [2, 1, -1, -2]) [2, 1, -1, 0] := by
    have e2 : tg true [2, 1, -1, -2] = [2, 1, -1001, -1002] := rfl
    rw [e2]
    refine ⟨⟨fun n => if n = -1 then [1, -1] else if n = -1001 then [-1] else if n = -1002 then [0] else [n], fun n hn => ?_, rfl, rfl⟩, fun s hs he => ?_⟩
    · simp only
      split
      · exact t_suc (t_var (by omega))
      · split
        · exact t_var (by omega)
        · split
          · exact t_zero
          · exact t_var hn
    · have h1 := hs (-1) (by omega)
      have h2 := hs (-1001) (by omega)
      have h3 := hs (-1002) (by omega)
      rw [sb_two s _ _ (by omega) _ (by omega), sb_sym (by omega), sb_nil, sb_sym (by omega), sb_two s _ _ (by omega) _ (by omega), sb_var (by omega)] at he
      have he2 := (List.cons.inj he).2
      have key := flat_eq (b := an L3) (xs := [s (-1), [0]]) (ys := [1 :: s (-1001), s (-1002)]) rfl (by intro x hx; simp at hx; rcases hx with rfl | rfl; exact h1; exact t_zero) (by intro x hx; simp at hx; rcases hx with rfl | rfl; exact t_suc h2; exact h3) (by simpa using he2)
      simp only [List.cons.injEq, and_true] at key
      refine ⟨fun n => if n = -1 then s (-1001) else [n], fun n hn => ?_, ?_⟩
      · simp only; split
        · exact h2
        · exact t_var hn
      · rw [sb_sym (by omega), sb_two _ _ _ (by omega) _ (by omega), sb_sym (by omega), sb_nil, sb_two s _ _ (by omega) _ (by omega), sb_sym (by omega), sb_nil, key.1]; rfl
  have h := UniR.ok hM (by decide)
  unfold ComR
  rw [if_neg (by decide), if_neg (by decide)]
  exact h
/-- add(x, z) and add(s(x), y): x would lie in itself. -/
theorem none3 : ComR L3 [2, -1, 0] [2, 1, -1, -2] false 60 [] := by
  unfold ComR
  rw [if_neg (by decide), if_neg (by decide)]
  refine .none (fun s hs he => ?_)
  rw [show tg false [2, 1, -1, -2] = [2, 1, -1, -2] from rfl] at he
  have h1 := hs (-1) (by omega)
  have h2 := hs (-2) (by omega)
  rw [sb_two s _ _ (by omega) _ (by omega), sb_sym (by omega), sb_nil, sb_sym (by omega), sb_two s _ _ (by omega) _ (by omega), sb_var (by omega)] at he
  have he2 := (List.cons.inj he).2
  have key := flat_eq (b := an L3) (xs := [s (-1), [0]]) (ys := [1 :: s (-1), s (-2)]) rfl (by intro x hx; simp at hx; rcases hx with rfl | rfl; exact h1; exact t_zero) (by intro x hx; simp at hx; rcases hx with rfl | rfl; exact t_suc h1; exact h2) (by simpa using he2)
  simp only [List.cons.injEq, and_true] at key
  have := congrArg List.length key.1
  simp at this
theorem clash3 : ClaR L3 [1, -1] [0] 0 true := by
  unfold ClaR
  rw [if_neg (by decide), if_neg (by decide)]
  refine ⟨rfl, fun _ s hs he => ?_, fun _ => rfl⟩
  rw [show tg true [0] = [0] from rfl, sb_two s _ _ (by omega) _ (by omega), sb_sym (by omega)] at he
  have := (List.cons.inj he).1
  omega

set_option maxRecDepth 100000 in
set_option maxHeartbeats 2000000 in
theorem awake06 (w : World) : Calls Try.prog 53 #[] w fun e w' => e = .returned (.bool true) ∧ Below w.heap.size w w' := by
  go_enter Try.func53, Try.ntmps53
  go_wp2_with (go_at_call 26; refine (made_any (some ⟨w.heap.size, 0, none⟩) 3 L3 _ (C_newL w) (by decide)).mono ?_; rintro e w1 ⟨g, v, rfl, hs1, hr1, hb1⟩)
  rw [made3] at hs1
  have HB1 : Aside0 (Below w.heap.size w w1) := ⟨below_then (below_alloc (Below.refl _ _) _) (by simp) hb1⟩
  have HS : Aside0 (∀ W, Below w1.heap.size w1 W → SigC W g L3) := ⟨fun W hW => hs1.below hW⟩
  clear hs1 hr1 hb1
  refine (Overlap_any (sg := g) (l := L3) (ta := [2, -1, 0]) (tb := [2, 1, -1, -2]) (A := some ⟨w1.heap.size, 0, none⟩) (B := some ⟨w1.heap.size + 1, 0, none⟩) (ca := 3) (cb := 4) _ (HS.out _ (below_alloc (below_alloc (Below.refl _ _) _) _)) good3 (Kd.C_below (C_new w1 3 [2, -1, 0] (by decide)) (below_alloc (Below.refl _ _) _)) (C_new2 w1 _ 3 [2, 1, -1, -2] (by decide))).mono ?_
  rintro e w2 ⟨v2, er, t, rfl, hc, hr, hb⟩
  obtain ⟨rfl, rfl⟩ := over3.det hc
  obtain ⟨A2, c2, rfl, hc2, hC2⟩ := Kd.R_reads hr
  have HC2 := Aside0.mk hC2
  have HB2 : Aside0 (Below w1.heap.size w1 w2) := ⟨below_then (below_alloc (below_alloc (Below.refl _ _) _) _) (by simp; omega) hb⟩
  have HCC := Aside0.mk hc2
  have hz2 := HB2.out.size
  clear hc hr hb hC2 hc2
  go_wp2_with fail
  refine (Unify_any (sg := g) (l := L3) (ta := [2, -1, 0]) (tb := [2, 1, -1, -2]) (A := some ⟨w2.heap.size, 0, none⟩) (B := some ⟨w2.heap.size + 1, 0, none⟩) (ca := 3) (cb := 4) _ (HS.out _ ((HB2.out.alloc hz2 _).alloc (by simp; omega) _)) good3 (Kd.C_below (C_new w2 3 [2, -1, 0] (by decide)) (below_alloc (Below.refl _ _) _)) (C_new2 w2 _ 3 [2, 1, -1, -2] (by decide))).mono ?_
  rintro e w3 ⟨v3, er3, t3, rfl, hc, hr, hb⟩
  obtain ⟨rfl, rfl⟩ := none3.det hc
  have HB23 : Aside0 (Below w2.heap.size w2 w3) := ⟨below_then (below_alloc (below_alloc (Below.refl _ _) _) _) (by simp; omega) hb⟩
  have HB3 : Aside0 (Below w1.heap.size w1 w3) := ⟨below_then HB2.out HB2.out.size HB23.out⟩
  have HC3 := Aside0.mk (Kd.C_below HC2.out HB23.out)
  have hz3 := HB3.out.size
  obtain ⟨A3, c3, e3⟩ := Kd.R_slice hr
  subst e3
  clear hc hr hb HC2
  go_wp2_with fail
  refine (Clash_any (sg := g) (l := L3) (ta := [1, -1]) (tb := [0]) (A := some ⟨w3.heap.size, 0, none⟩) (B := some ⟨w3.heap.size + 1, 0, none⟩) (ca := 2) (cb := 1) _ (HS.out _ ((HB3.out.alloc hz3 _).alloc (by simp; omega) _)) good3 (Kd.C_below (C_new w3 3 [1, -1] (by decide)) (below_alloc (Below.refl _ _) _)) (C_new2 w3 _ 3 [0] (by decide))).mono ?_
  rintro e w4 ⟨er4, cl, rfl, hc, hb⟩
  obtain ⟨rfl, rfl⟩ := clash3.det hc
  have HB34 : Aside0 (Below w3.heap.size w3 w4) := ⟨below_then (below_alloc (below_alloc (Below.refl _ _) _) _) (by simp; omega) hb⟩
  have HB4 : Aside0 (Below w1.heap.size w1 w4) := ⟨below_then HB3.out HB3.out.size HB34.out⟩
  have HC4 := Aside0.mk (Kd.C_below HC3.out HB34.out)
  have hz4 := HB4.out.size
  clear hc hb HC3
  go_wp2_with fail
  refine (same_n A2 4 c2 [2, 1, -1, 0] (some ⟨w4.heap.size, 0, none⟩) 4 4 [2, 1, -1, 0] _ (Kd.C_below HC4.out (below_alloc (Below.refl _ _) _)) HCC.out (C_new w4 3 [2, 1, -1, 0] (by decide)) (by decide)).mono ?_
  rintro e w5 ⟨rfl, hd5⟩
  rw [show decide (([2, 1, -1, 0] : List Int) = [2, 1, -1, 0]) = true by rfl]
  have hb5 := hd5.below
  have HB5 : Aside0 (Below w1.heap.size w1 w5) := ⟨below_then (HB4.out.alloc hz4 _) (by simp; omega) hb5⟩
  clear hb5 hd5
  go_wp2_with fail
  go_ret
  exact ⟨rfl, below_then HB1.out HB1.out.size HB5.out⟩
end Go.Proofs.Ytadjoaipmcbieaa
