/- graph.add: a term laid into the graph. Printed by wip/print_add.py. -/
import Derived.Test.YtadjoaipmcbieaaUW
namespace Go.Proofs.Ytadjoaipmcbieaa
open Go.RowKit Go.Proofs.YtadjoaipmcbieaaW.PrintWords Go.Proofs.YtadjoaipmcbieaaW.PrintLast Go.Proofs.YtadjoaipmcbieaaW.PrintMore A
set_option linter.unusedSimpArgs false
set_option linter.unusedVariables false

theorem make_zero2 (N : Nat) (hN : N ≤ 17592186044416) (W : World) : (Instr.makeSlice 24 (.int .i64 N) (.int .i64 N)).run Try.prog W = .ok (.slice (some ⟨W.heap.size, 0, none⟩) N N) (W.alloc (.cells (nums .i64 (List.replicate N 0)).toArray 3)) := by
  obtain ⟨i0, hi, hz0, hz1, hz2⟩ := info_parts info3
  have hr := run_make (P := Try.prog) W 24 3 i0 (.int .i64 0) Try.underlying24 hi hz0 .i64 .i64 N N (by omega) (by omega) (by rw [hz2]; omega) (by omega)
  rw [hz1] at hr
  have e : (madeCells #[.int .i64 0] N) = (nums .i64 (List.replicate N 0)).toArray := by
    apply Array.ext
    · simp [size_madeCells, nums]
    · intro i h1 h2
      simp [madeCells, nums, Nat.mod_one]
  rw [← e]
  simpa [Value.cells] using hr
theorem chk_num {l : List S89} {t : List Int} (h : chk l t = 0) {p : Nat} (hp : p < t.length) : -99 ≤ rd t p ∧ rd t p < l.length := by
  unfold chk at h
  split at h
  · omega
  · have key : ∀ (r : List Int) (z : Int), bads l.length r z = 0 → ∀ n ∈ r, -99 ≤ n ∧ n < l.length := by
      intro r
      induction r with
      | nil => intro z _ n hn; simp at hn
      | cons m r ih =>
        intro z hz n hn
        rw [bads] at hz
        split at hz
        · rename_i h0
          rcases List.mem_cons.1 hn with rfl | hn
          · unfold badN at h0; split at h0
            · omega
            · split at h0 <;> omega
          · exact ih z hz n hn
        · contradiction
    exact key t _ h _ (rd_mem hp)
/-- The pointed-to list of a call's own zeroes. -/
theorem own_zeros {base : Nat} (W : World) (N : Nat) (hb : base ≤ W.heap.size) (hN : N ≤ 100000) : Kd.R (Kd.int .i64) 3 (W.alloc (.cells (nums .i64 (List.replicate N 0)).toArray 3)) base (fun k => k = W.heap.size) (.slice (some ⟨W.heap.size, 0, none⟩) N N) (List.replicate N 0) := by
  have h := ints_own (heap_alloc_new W (.cells (nums .i64 (List.replicate N 0)).toArray 3)) (show (List.replicate N (0 : Int)).length = N by simp) hb (by omega)
  exact ⟨fun k hk => by simpa [Value.ownBlock] using hk.symm, h.2⟩

set_option maxRecDepth 100000 in
set_option maxHeartbeats 8000000 in
theorem add_any {g vb v2 sg P0 : Nat} {l : List S89} {t : List Int} {A : Option Addr} {c : Nat} {d : Int} {vp0 vt0 : Value} {parts0 : List Pt} {tos0 V0 : List Int} {tms0 : List (List Int)} {cs2 : Array Value} (b0 : Nat) (w00 w : World)
    (hb0 : b0 = w00.heap.size) (hB : Below b0 w00 w) (hs : SigC w00 sg l) (hl : GoodL l) (ht : Kd.C (Kd.int .i64) w00 A t.length t) (hc : chk l t = 0)
    (hg : Gr w b0 g vp0 vt0 parts0 tos0) (hvb : w.heap[vb]? = some (.cells (nums .i64 V0).toArray 140 (0, 0))) (hvb0 : b0 ≤ vb) (hv2 : w.heap[v2]? = some (.cells cs2 140 (0, 0))) (hne : v2 ≠ vb) (hd : d = 0 ∨ d = 1000)
    (hP : parts0.length = P0) (hP2 : P0 ≤ 2000) (hA : ∀ pl : List Int, pl.length = t.length → AddOk l t d t.length parts0 tos0 pl V0 tms0) :
    Calls Try.prog 112 #[.pointer (some ⟨g, 0, none⟩), .pointer (some ⟨sg, 0, none⟩), .slice A t.length c, .pointer (some ⟨vb, 0, none⟩)] w fun e w' => ∃ (x : Nat) (vp vt : Value) (parts : List Pt) (tos pl V : List Int) (tms : List (List Int)), e = .returned (.int .i64 x) ∧
      Gr w' b0 g vp vt parts tos ∧ w'.heap[vb]? = some (.cells (nums .i64 V).toArray 140 (0, 0)) ∧ w'.heap[v2]? = some (.cells cs2 140 (0, 0)) ∧ Below b0 w00 w' ∧ parts.length ≤ P0 + t.length ∧ AddOk l t d 0 parts tos pl V tms ∧ x < parts.length ∧ tmF tms x = tgD d t ∧
      P0 ≤ parts.length ∧ ∀ z, z < P0 → tmF tms z = tmF tms0 z := by
  have HT := Aside0.mk (chk_ter hl hc)
  have HN := Aside0.mk (fun p hp => chk_num (p := p) hc hp)
  have h2000 := chk_len hc
  have hpos : 0 < t.length := HT.out.pos
  have mk := make_zero2 t.length (by omega)
  have HB := Aside0.mk hB
  have HS := Aside0.mk hs
  have HL := Aside0.mk hl
  have HTC := Aside0.mk ht
  have HC := Aside0.mk hc
  have HG := Aside0.mk hg
  have HVB := Aside0.mk hvb
  have HV2 := Aside0.mk hv2
  have HA := Aside0.mk hA
  have HB0 := Aside0.mk hb0
  have HD := Aside0.mk hd
  have HP0 := Aside0.mk hP
  have hgs : b0 ≤ w.heap.size := by rw [hb0]; exact hB.size
  clear hB hs hl ht hc hg hvb hv2 hA hb0 hd hP
  go_enter Try.func112, Try.ntmps112
  go_wp2_with fail
  clear mk
  have H1 : Aside0 (AdSt (w.alloc (.cells (nums .i64 (List.replicate t.length 0)).toArray 3)) b0 g vb w.heap.size v2 vp0 vt0 t.length t.length parts0 tos0 (List.replicate t.length 0) V0 cs2) :=
    ⟨(Below.heap_alloc _ _ _ (blk_lt HG.out.blk)).trans HG.out.blk, HG.out.hb, Kd.R_below (Kd.R_mono (Kd.R_bound HG.out.p) (fun k hk => ⟨by have := hk.2.2.1; omega, hk.1⟩)) (below_alloc (Below.refl _ _) _), Kd.R_below (Kd.R_mono (Kd.R_bound HG.out.t) (fun k hk => by have := hk.2.2.1; omega)) (below_alloc (Below.refl _ _) _),
     own_zeros w t.length hgs (by omega), (Below.heap_alloc _ _ _ (blk_lt HVB.out)).trans HVB.out, hvb0, (Below.heap_alloc _ _ _ (blk_lt HV2.out)).trans HV2.out, hne⟩
  have HB1 : Aside0 (Below b0 w00 (w.alloc (.cells (nums .i64 (List.replicate t.length 0)).toArray 3))) := ⟨HB.out.alloc hgs _⟩
  have HAK := Aside0.mk (HA.out (List.replicate t.length 0) (by simp))
  clear HG HVB HV2 HB HA
  generalize w.alloc (.cells (nums .i64 (List.replicate t.length 0)).toArray 3) = w1 at *
  generalize w.heap.size = gp at *
  go_loopg [10] t.length (fun m a wr => ∃ (z : Int) (vp vt : Value) (parts : List Pt) (tos pl V : List Int) (tms : List (List Int)), a = .int .i64 z ∧ Aside0 (z = (m : Int) - 1) ∧ Aside0 (m ≤ t.length) ∧ Aside0 (AdSt wr b0 g vb gp v2 vp vt t.length t.length parts tos pl V cs2) ∧ Aside0 (AddOk l t d m parts tos pl V tms) ∧ Aside0 (Below b0 w00 wr) ∧
    Aside0 (parts.length + m ≤ P0 + t.length ∧ P0 ≤ parts.length) ∧ Aside0 (∀ z, z < P0 → tmF tms z = tmF tms0 z))
  case atStart => exact ⟨_, vp0, vt0, parts0, tos0, _, V0, tms0, rfl, ⟨rfl⟩, ⟨Nat.le_refl _⟩, H1, HAK, HB1, ⟨by have := HP0.out; omega, by have := HP0.out; omega⟩, ⟨fun _ _ => rfl⟩⟩
  case round =>
    clear H1 HAK HB1
    obtain ⟨z, vp, vt, parts, tos, pl, V, tms, rfl, HZ, HM, HA, HK, HB, HP, HPRE⟩ := hrel
    obtain ⟨Ap, cp, e⟩ := Kd.R_slice HA.out.p
    subst e
    obtain ⟨At, ct, e⟩ := Kd.R_slice HA.out.t
    subst e
    rcases Nat.eq_zero_or_pos gk with rfl | hgk
    · obtain rfl : z = -1 := by have := HZ.out; omega
      obtain ⟨x, hx0, hx1, hx2⟩ := HK.out.plc 0 (Nat.le_refl _) hpos
      obtain ⟨p0, _⟩ := HA.out.plCell hpos hx0
      have HX := Aside0.mk (And.intro hx1 hx2)
      clear hx0 hx1 hx2
      go_wp2_with fail
      go_ret
      exact ⟨x, _, _, parts, tos, pl, V, tms, rfl, ⟨HA.out.blk, HA.out.hb, Kd.R_mono HA.out.p (fun _ hk => hk.2), Kd.R_mono HA.out.t (fun _ _ => trivial)⟩, HA.out.vbk, HA.out.o, HB.out, by have := HP.out; omega, HK.out, HX.out.1, by rw [HX.out.2, subL_whole HL.out HT.out], HP.out.2, HPRE.out⟩
    · obtain ⟨j, rfl⟩ : ∃ j, gk = j + 1 := ⟨gk - 1, by omega⟩
      obtain rfl : z = (j : Int) := by have := HZ.out; omega
      have hj : j < t.length := by have := HM.out; omega
      obtain ⟨ad, e, hx⟩ := int_at (Kd.C_below HTC.out (by rw [← HB0.out]; exact HB.out)) j hj
      cases e
      have hnum := HN.out j hj
      clear hgk
      by_cases hneg : rd t j < 0
      · obtain ⟨v, hv⟩ : ∃ v : Nat, rd t j = -(v : Int) := ⟨(-(rd t j)).toNat, by omega⟩
        rw [hv] at hx
        have hv1 : 1 ≤ v := by omega
        have hv2' : v ≤ 99 := by omega
        have HV := Aside0.mk hv
        obtain ⟨xv, hxv⟩ : ∃ xv, rd V v = xv := ⟨_, rfl⟩
        have HXV := Aside0.mk hxv
        obtain ⟨c0, f0⟩ := HA.out.vCell (v := v) (by rw [HK.out.vl]; omega) hxv
        clear hneg hnum hv hxv
        by_cases h0 : 0 ≤ xv
        · obtain ⟨p0, p1⟩ := HA.out.plCell hj rfl
          have HA2 := Aside0.mk (HA.out.putPl j xv)
          have HK2 := Aside0.mk (HK.out.old HL.out HT.out hj HV.out hv1 hv2' (by rw [HXV.out]; exact h0))
          go_wp2_with fail
          go_roundg j
          case measure => omega
          case rel => exact ⟨_, _, _, parts, tos, _, V, tms, rfl, ⟨by omega⟩, ⟨by omega⟩, ⟨by have := HA2.out; exact this⟩, ⟨by have := HK2.out; rw [HXV.out] at this; exact this⟩, ⟨HB.out.setCell (p := ⟨gp, j, none⟩) (by have := Kd.R_base HA.out.plr gp rfl; exact this) _⟩, ⟨by have := HP.out; omega, HP.out.2⟩, HPRE⟩
        · have hxm : xv = -1 := by
            rcases HK.out.vr v hv1 hv2' with ⟨e, _⟩ | ⟨y, e, _⟩
            · rw [← HXV.out]; exact e
            · rw [HXV.out] at e; omega
          subst hxm
          clear h0
          go_upto_region 9 with fail
          have HA0 := HA
          have HLT := Aside0.mk (HA.out.lts (Nat.le_refl _))
          have HGP : Aside0 (gp < wr.heap.size ∧ vb < wr.heap.size ∧ g < wr.heap.size) := ⟨(by obtain ⟨cells, hc⟩ := HA.out.plBlk; exact blk_lt hc), blk_lt HA.out.vbk, blk_lt HA.out.blk⟩
          replace HA := Aside0.mk (HA.out.below (below_alloc (Below.refl _ _) (.cells #[.int .i64 (-(v : Int)), .slice none 0 0] 155)))
          have HX := Aside0.mk (heap_alloc_new wr (.cells #[.int .i64 (-(v : Int)), .slice none 0 0] 155))
          have HZS : Aside0 ((wr.alloc (.cells #[.int .i64 (-(v : Int)), .slice none 0 0] 155)).heap.size = wr.heap.size + 1) := ⟨by simp⟩
          replace HB : Aside0 (Below b0 w00 (wr.alloc (.cells #[.int .i64 (-(v : Int)), .slice none 0 0] 155))) := ⟨HB.out.alloc (Nat.le_trans HA.out.hb (Nat.le_of_lt HGP.out.2.2)) _⟩
          obtain ⟨w5, hw5⟩ : ∃ w5, w5 = wr.alloc (.cells #[.int .i64 (-(v : Int)), .slice none 0 0] 155) := ⟨_, rfl⟩
          rw [← hw5] at HA HX HB HZS ⊢
          have HKW : Aside0 (∀ i, i < wr.heap.size → w5.heap[i]? = wr.heap[i]?) := ⟨fun i hi => by rw [hw5]; exact Below.heap_alloc _ _ _ hi⟩
          clear hw5
          generalize hbx : wr.heap.size = bx at *
          have HBX0 := Aside0.mk hbx
          clear hbx
          obtain ⟨va, hva⟩ : ∃ va : Value, va = .slice none 0 0 := ⟨_, rfl⟩
          obtain ⟨ar, har⟩ : ∃ ar : List Int, ar = [] := ⟨_, rfl⟩
          have HR : Aside0 (Kd.R (Kd.int .i64) 3 w5 (bx + 1) (fun k => bx + 1 ≤ k) va ar) := ⟨by rw [hva, har]; exact Kd.R_nil _ _ _ _ _⟩
          rw [← hva] at HX
          have HAR := Aside0.mk har
          have HBX : Aside0 (bx ≤ bx + 1 ∧ b0 ≤ bx) := ⟨by omega, by have := HA.out.hb; have := HGP.out; omega⟩
          clear hva har c0 f0
          obtain ⟨p0, p1⟩ := HA.out.plCell hj rfl
          obtain ⟨q0, q1⟩ := HA.out.cells
          have HBP : Aside0 (b0 ≤ gp) := ⟨Kd.R_base HA.out.plr gp rfl⟩
          have HA6 := Aside0.mk (HA.out.putPl j (parts.length : Int))
          have HX6 := Aside0.mk (blk_far HX.out (p := ⟨gp, j, none⟩) (by have := HGP.out; show bx ≠ gp; omega) (.int .i64 (parts.length : Int)))
          have HR6 := Aside0.mk (Kd.R_far HR.out (p := ⟨gp, j, none⟩) (fun k hk => by have := HGP.out; have := HBX.out; show k ≠ gp; omega) (.int .i64 (parts.length : Int)))
          have HB6 : Aside0 (Below b0 w00 (w5.setCell ⟨gp, j, none⟩ (.int .i64 (parts.length : Int)))) := ⟨HB.out.setCell (p := ⟨gp, j, none⟩) HBP.out _⟩
          have hpl5 : parts.length ≤ 4000 := by have := HP.out; omega
          go_upto_region 18 with fail
          clear p0 p1 q0 q1
          obtain ⟨w6, hw6⟩ : ∃ w6, w6 = w5.setCell ⟨gp, j, none⟩ (.int .i64 (parts.length : Int)) := ⟨_, rfl⟩
          rw [← hw6] at HA6 HX6 HR6 HB6 ⊢
          clear hw6
          obtain ⟨p0, _⟩ := HA6.out.plCell hj (x := (parts.length : Int)) (by rw [rd_set _ _ _ _ (by rw [HK.out.pll]; exact hj), if_pos rfl])
          obtain ⟨c0, f0⟩ := HA6.out.vCell (v := v) (by rw [HK.out.vl]; omega) rfl
          have HA7 := Aside0.mk (HA6.out.putV v (parts.length : Int))
          have HX7 := Aside0.mk (blk_far HX6.out (p := ⟨vb, v, none⟩) (by have := HGP.out; show bx ≠ vb; omega) (.int .i64 (parts.length : Int)))
          have HR7 := Aside0.mk (Kd.R_far HR6.out (p := ⟨vb, v, none⟩) (fun k hk => by have := HGP.out; have := HBX.out; show k ≠ vb; omega) (.int .i64 (parts.length : Int)))
          have HB7 : Aside0 (Below b0 w00 (w6.setCell ⟨vb, v, none⟩ (.int .i64 (parts.length : Int)))) := ⟨HB6.out.setCell (p := ⟨vb, v, none⟩) HA6.out.hvb _⟩
          have hvl : v < 100 := by omega
          have hvi : (v : Int) < 100 := by omega
          have hvj : (0 : Int) ≤ (v : Int) := by omega
          have hji : (j : Int) < (t.length : Int) := by omega
          have hwv : IntKind.i64.wrap (v : Int) = v := by rw [i64_w]; exact wrap_id (by omega) (by omega)
          go_still_tail 9, (by kernel_rfl)
          change wpList _ _ _ _ _ w6.drew
          replace c0 : w6.drew.cell? ⟨vb, v, none⟩ = _ := c0
          replace f0 : w6.drew.frozen? ⟨vb, v, none⟩ = false := f0
          go_upto_region 19 with fail
          clear c0 f0 p0
          obtain ⟨w7, hw7⟩ : ∃ w7, w7 = (w6.setCell ⟨vb, v, none⟩ (.int .i64 (parts.length : Int))).drew := ⟨_, rfl⟩
          replace HA7 : Aside0 (AdSt w7 b0 g vb gp v2 (.slice Ap parts.length cp) (.slice At tos.length ct) t.length t.length parts tos (pl.set j (parts.length : Int)) (V.set v (parts.length : Int)) cs2) := ⟨by rw [hw7]; exact HA7.out.below (below_drew (Below.refl _ _))⟩
          replace HX7 : Aside0 (w7.heap[bx]? = some (.cells #[.int .i64 (-(v : Int)), va] 155 (0, 0))) := ⟨by rw [hw7]; exact HX7.out⟩
          replace HR7 : Aside0 (Kd.R (Kd.int .i64) 3 w7 (bx + 1) (fun k => (bx + 1) ≤ k) va ar) := ⟨by rw [hw7]; exact HR7.out⟩
          replace HB7 : Aside0 (Below b0 w00 w7) := ⟨by rw [hw7]; exact HB7.out.drew⟩
          rw [← hw7]
          clear hw7
          clear HA6 HX6 HR6 HB6
          clear HA HX HR HB
          obtain ⟨c0, _⟩ := HA7.out.cells
          have c1 := cell_of_row w7 bx 0 _ _ _ HX7.out
          have c2 := cell_of_row w7 bx 1 _ _ _ HX7.out
          simp at c1 c2
          have hb8 : b0 ≤ w7.drew.heap.size := by have := blk_lt HA7.out.blk; have := HA7.out.hb; show b0 ≤ w7.heap.size; omega
          refine start_ (n := 11) (S := fun w' => w'.cell? ⟨g, 0, none⟩ = some (.slice Ap parts.length cp) ∧ w'.cell? ⟨bx, 0, none⟩ = some (.int .i64 (-(v : Int))) ∧ w'.cell? ⟨bx, 1, none⟩ = some va) (ds := [10]) #[false, false, false, false, false, false, false, false, false, false, false] (by kernel_rfl) rfl rfl ⟨c0, c1, c2⟩ (fun hHeld => ?_)
          replace HA7 : Aside0 (AdSt w7.drew b0 g vb gp v2 (.slice Ap parts.length cp) (.slice At tos.length ct) t.length t.length parts tos (pl.set j (parts.length : Int)) (V.set v (parts.length : Int)) cs2) := ⟨HA7.out.below (below_drew (Below.refl _ _))⟩
          replace HX7 : Aside0 (w7.drew.heap[bx]? = some (.cells #[.int .i64 (-(v : Int)), va] 155 (0, 0))) := ⟨HX7.out⟩
          replace HR7 : Aside0 (Kd.R (Kd.int .i64) 3 w7.drew (bx + 1) (fun k => (bx + 1) ≤ k) va ar) := ⟨HR7.out⟩
          replace HB7 : Aside0 (Below b0 w00 w7.drew) := ⟨HB7.out.drew⟩
          generalize w7.drew = w8 at *
          clear c0 c1 c2
          refine pure_ (i := 0) (N := some 97) (v := ?_) (a' := ?_) #[true, false, false, false, false, false, false, false, false, false, false] rfl rfl (by kernel_rfl) (fun _ _ _ h => h) (Or.inl ⟨by rfl, ?_⟩) ?_ ?_
          rotate_left
          · intro w'
            go_simp
            with_reducible rfl
          rotate_left
          · simp only [Act.put, List.setIfInBounds_toArray, List.set_cons_zero, List.set_cons_succ, i64_w, i32_w]
            rfl
          refine pure_ (i := 1) (N := some 98) (v := ?_) (a' := ?_) #[true, true, false, false, false, false, false, false, false, false, false] rfl rfl (by kernel_rfl) (fun _ _ _ h => h) (Or.inl ⟨by rfl, ?_⟩) ?_ ?_
          rotate_left
          · intro w'
            go_simp
            with_reducible rfl
          rotate_left
          · simp only [Act.put, List.setIfInBounds_toArray, List.set_cons_zero, List.set_cons_succ, i64_w, i32_w]
            rfl
          refine pure_ (i := 2) (N := some 99) (v := ?_) (a' := ?_) #[true, true, true, false, false, false, false, false, false, false, false] rfl rfl (by kernel_rfl) (fun _ _ _ h => h) (Or.inl ⟨by rfl, ?_⟩) ?_ ?_
          rotate_left
          · intro w'
            go_simp
            with_reducible rfl
          rotate_left
          · simp only [Act.put, List.setIfInBounds_toArray, List.set_cons_zero, List.set_cons_succ, i64_w, i32_w]
            rfl
          refine pure_ (i := 3) (N := some 100) (v := ?_) (a' := ?_) #[true, true, true, true, false, false, false, false, false, false, false] rfl rfl (by kernel_rfl) (fun _ _ _ h => h) (Or.inl ⟨by rfl, ?_⟩) ?_ ?_
          rotate_left
          · intro w'
            go_simp
            with_reducible rfl
          rotate_left
          · simp only [Act.put, List.setIfInBounds_toArray, List.set_cons_zero, List.set_cons_succ, i64_w, i32_w]
            rfl
          refine take_ (i := 4) (N := some 101) (v := ?_) (a' := ?_) #[true, true, true, true, true, false, false, false, false, false, false] rfl rfl (by kernel_rfl) (fun _ _ _ h => h) (Or.inl ⟨by rfl, ?_⟩) hHeld ?_ ?_
          rotate_left
          · rintro w' ⟨s0, s1, s2⟩
            go_simp
            with_reducible rfl
          rotate_left
          · simp only [Act.put, List.setIfInBounds_toArray, List.set_cons_zero, List.set_cons_succ, i64_w, i32_w]
            rfl
          refine take_ (i := 5) (N := some 102) (v := ?_) (a' := ?_) #[true, true, true, true, true, true, false, false, false, false, false] rfl rfl (by kernel_rfl) (fun _ _ _ h => h) (Or.inl ⟨by rfl, ?_⟩) hHeld ?_ ?_
          rotate_left
          · rintro w' ⟨s0, s1, s2⟩
            go_simp
            with_reducible rfl
          rotate_left
          · simp only [Act.put, List.setIfInBounds_toArray, List.set_cons_zero, List.set_cons_succ, i64_w, i32_w]
            rfl
          refine one_ (i := 6) (N := some 103) #[true, true, true, true, true, true, true, false, false, false, false] rfl rfl (by kernel_rfl) (by decide) (fun K hK => ?_)
          refine value_ (w1 := ?_) (v := ?_) (by rfl) rfl ?_ ?_
          rotate_left 2
          · go_simp
            constructor
            · rfl
            · rfl
          refine hK.out _ _ ⟨(cell_alloc hHeld.1 _), (cell_alloc hHeld.2.1 _), (cell_alloc hHeld.2.2 _)⟩ (fun hHeld => ?_)
          clear hK K
          refine norm_ (a' := ?_) ?_ ?_
          rotate_left
          · show Act.put _ (some 103) _ = _
            simp only [Act.put, List.setIfInBounds_toArray, List.set_cons_zero, List.set_cons_succ, i64_w, i32_w]
            rfl
          refine one_ (i := 7) (N := some 104) #[true, true, true, true, true, true, true, true, false, false, false] rfl rfl (by kernel_rfl) (by decide) (fun K hK => ?_)
          refine Kd.R_append_step (W := w8) kpt (w0 := w8) b0 (by rfl) (.tmp 101) (.tmp 103) 141 155 (.agg #[.int .i64 0, .slice none 0 0]) 32 (by rfl) Try.underlying141 info155 rfl (by decide) (by omega) (.slice Ap parts.length cp) parts ((-(v : Int)), ar) [.int .i64 (-(v : Int)), va] (fun k => k ≠ gp ∧ some k ≠ (Value.slice At tos.length ct).ownBlock) (fun k => (bx + 1) ≤ k) (by rfl) (by rfl) (kpt_M HR7.out (by have := HB7.out.size; have := HGP.out; have := HBX.out; omega)) (fun k hk => HLT.out k (by have := HBX.out; omega)) (fun k hk => (HA7.out.lts (Nat.le_refl _) k hk).1) HA7.out.p (Below.refl _ _) hb8 (by omega) ?_
          intro v3 w3 ho3 hb3 hg3 hat3
          have hG3 := blk_grown HA7.out.blk hg3 (Kd.R_ne HA7.out.p HA7.out.blk (by decide))
          have hX3 := blk_grown HX7.out hg3 (fun e => (HLT.out bx (Nat.le_refl _)).2 e)
          have c03 := cell_of_row w3 g 0 _ _ _ hG3
          have f03 := frozen_of_row hG3 0
          have HA9 := Aside0.mk (HA7.out.appP ho3 hg3)
          have HB9 : Aside0 (Below b0 w00 (w3.setCell ⟨g, 0, none⟩ v3)) := ⟨(HB7.out.trans hb3).setCell (p := ⟨g, 0, none⟩) HA7.out.hb _⟩
          obtain ⟨A3, c3, e3⟩ := Kd.R_slice ho3
          subst e3
          rw [List.length_append, List.length_singleton] at ho3 hat3 HA9 HB9 ⊢
          simp at c03
          refine hK.out _ _ ⟨c03, (cell_of_row w3 bx 0 _ _ _ hX3), (cell_of_row w3 bx 1 _ _ _ hX3)⟩ (fun hHeld => ?_)
          clear hK K
          refine norm_ (a' := ?_) ?_ ?_
          rotate_left
          · show Act.put _ (some 104) _ = _
            simp only [Act.put, List.setIfInBounds_toArray, List.set_cons_zero, List.set_cons_succ, i64_w, i32_w]
            rfl
          refine pure_ (i := 8) (N := some 105) (v := ?_) (a' := ?_) #[true, true, true, true, true, true, true, true, true, false, false] rfl rfl (by kernel_rfl) (fun _ _ _ h => h) (Or.inl ⟨by rfl, ?_⟩) ?_ ?_
          rotate_left
          · intro w'
            go_simp
            with_reducible rfl
          rotate_left
          · simp only [Act.put, List.setIfInBounds_toArray, List.set_cons_zero, List.set_cons_succ, i64_w, i32_w]
            rfl
          refine pure_ (i := 9) (N := some 106) (v := ?_) (a' := ?_) #[true, true, true, true, true, true, true, true, true, true, false] rfl rfl (by kernel_rfl) (fun _ _ _ h => h) (Or.inl ⟨by rfl, ?_⟩) ?_ ?_
          rotate_left
          · intro w'
            go_simp
            with_reducible rfl
          rotate_left
          · simp only [Act.put, List.setIfInBounds_toArray, List.set_cons_zero, List.set_cons_succ, i64_w, i32_w]
            rfl
          refine last_ (i := 10) (N := none) #[true, true, true, true, true, true, true, true, true, true, true] rfl rfl (by kernel_rfl) (by decide) (fun K hK => ?_)
          refine skip_ (w1 := ?_) (by rfl) rfl ?_ ?_
          rotate_left
          · go_simp
            rfl
          refine hK.out _ _ ?_
          clear hK K
          refine done_ (by kernel_rfl) ?_
          go_upto_region 20 with fail
          obtain ⟨w9, hw9⟩ : ∃ w9, w9 = w3.setCell ⟨g, 0, none⟩ (.slice A3 (parts.length + 1) c3) := ⟨_, rfl⟩
          rw [← hw9] at HA9 HB9 ⊢
          clear hw9 f03
          obtain ⟨_, c0⟩ := HA9.out.cells
          obtain ⟨p0, _⟩ := HA9.out.plCell hj (x := (parts.length : Int)) (by rw [rd_set _ _ _ _ (by rw [HK.out.pll]; exact hj), if_pos rfl])
          have hb9 : b0 ≤ w9.drew.heap.size := by have := blk_lt HA9.out.blk; have := HA9.out.hb; show b0 ≤ w9.heap.size; omega
          have htl : tos.length ≤ 4000 := by rw [HK.out.tol]; exact hpl5
          refine start_ (n := 14) (S := fun w' => w'.cell? ⟨g, 1, none⟩ = some (.slice At tos.length ct) ∧ w'.cell? ⟨gp, j, none⟩ = some (.int .i64 (parts.length : Int))) (ds := [13]) #[false, false, false, false, false, false, false, false, false, false, false, false, false, false] (by kernel_rfl) rfl rfl ⟨c0, p0⟩ (fun hHeld => ?_)
          replace HA9 : Aside0 (AdSt w9.drew b0 g vb gp v2 (.slice A3 (parts.length + 1) c3) (.slice At tos.length ct) t.length t.length (parts ++ [((-(v : Int)), ar)]) tos (pl.set j (parts.length : Int)) (V.set v (parts.length : Int)) cs2) := ⟨HA9.out.below (below_drew (Below.refl _ _))⟩
          replace HB9 : Aside0 (Below b0 w00 w9.drew) := ⟨HB9.out.drew⟩
          generalize w9.drew = w10 at *
          clear c0 p0
          refine pure_ (i := 0) (N := some 107) (v := ?_) (a' := ?_) #[true, false, false, false, false, false, false, false, false, false, false, false, false, false] rfl rfl (by kernel_rfl) (fun _ _ _ h => h) (Or.inl ⟨by rfl, ?_⟩) ?_ ?_
          rotate_left
          · intro w'
            go_simp
            with_reducible rfl
          rotate_left
          · simp only [Act.put, List.setIfInBounds_toArray, List.set_cons_zero, List.set_cons_succ, i64_w, i32_w]
            rfl
          refine pure_ (i := 1) (N := some 108) (v := ?_) (a' := ?_) #[true, true, false, false, false, false, false, false, false, false, false, false, false, false] rfl rfl (by kernel_rfl) (fun _ _ _ h => h) (Or.inl ⟨by rfl, ?_⟩) ?_ ?_
          rotate_left
          · intro w'
            go_simp
            with_reducible rfl
          rotate_left
          · simp only [Act.put, List.setIfInBounds_toArray, List.set_cons_zero, List.set_cons_succ, i64_w, i32_w]
            rfl
          refine pure_ (i := 2) (N := some 109) (v := ?_) (a' := ?_) #[true, true, true, false, false, false, false, false, false, false, false, false, false, false] rfl rfl (by kernel_rfl) (fun _ _ _ h => h) (Or.inl ⟨by rfl, ?_⟩) ?_ ?_
          rotate_left
          · intro w'
            go_simp
            with_reducible rfl
          rotate_left
          · simp only [Act.put, List.setIfInBounds_toArray, List.set_cons_zero, List.set_cons_succ, i64_w, i32_w]
            rfl
          refine pure_ (i := 3) (N := some 110) (v := ?_) (a' := ?_) #[true, true, true, true, false, false, false, false, false, false, false, false, false, false] rfl rfl (by kernel_rfl) (fun _ _ _ h => h) (Or.inl ⟨by rfl, ?_⟩) ?_ ?_
          rotate_left
          · intro w'
            go_simp
            with_reducible rfl
          rotate_left
          · simp only [Act.put, List.setIfInBounds_toArray, List.set_cons_zero, List.set_cons_succ, i64_w, i32_w]
            rfl
          refine pure_ (i := 5) (N := some 112) (v := ?_) (a' := ?_) #[true, true, true, true, false, true, false, false, false, false, false, false, false, false] rfl rfl (by kernel_rfl) (fun _ _ _ h => h) (Or.inl ⟨by rfl, ?_⟩) ?_ ?_
          rotate_left
          · intro w'
            go_simp
            with_reducible rfl
          rotate_left
          · simp only [Act.put, List.setIfInBounds_toArray, List.set_cons_zero, List.set_cons_succ, i64_w, i32_w]
            rfl
          refine pure_ (i := 6) (N := some 113) (v := ?_) (a' := ?_) #[true, true, true, true, false, true, true, false, false, false, false, false, false, false] rfl rfl (by kernel_rfl) (fun _ _ _ h => h) (Or.inl ⟨by rfl, ?_⟩) ?_ ?_
          rotate_left
          · intro w'
            go_simp
            with_reducible rfl
          rotate_left
          · simp only [Act.put, List.setIfInBounds_toArray, List.set_cons_zero, List.set_cons_succ, i64_w, i32_w]
            rfl
          refine pure_ (i := 7) (N := some 114) (v := ?_) (a' := ?_) #[true, true, true, true, false, true, true, true, false, false, false, false, false, false] rfl rfl (by kernel_rfl) (fun _ _ _ h => h) (Or.inl ⟨by rfl, ?_⟩) ?_ ?_
          rotate_left
          · intro w'
            go_simp
            with_reducible rfl
          rotate_left
          · simp only [Act.put, List.setIfInBounds_toArray, List.set_cons_zero, List.set_cons_succ, i64_w, i32_w]
            rfl
          refine take_ (i := 4) (N := some 111) (v := ?_) (a' := ?_) #[true, true, true, true, true, true, true, true, false, false, false, false, false, false] rfl rfl (by kernel_rfl) (fun _ _ _ h => h) (Or.inl ⟨by rfl, ?_⟩) hHeld ?_ ?_
          rotate_left
          · rintro w' ⟨s0, s1⟩
            go_simp
            with_reducible rfl
          rotate_left
          · simp only [Act.put, List.setIfInBounds_toArray, List.set_cons_zero, List.set_cons_succ, i64_w, i32_w]
            rfl
          refine take_ (i := 8) (N := some 115) (v := ?_) (a' := ?_) #[true, true, true, true, true, true, true, true, true, false, false, false, false, false] rfl rfl (by kernel_rfl) (fun _ _ _ h => h) (Or.inl ⟨by rfl, ?_⟩) hHeld ?_ ?_
          rotate_left
          · rintro w' ⟨s0, s1⟩
            go_simp
            with_reducible rfl
          rotate_left
          · simp only [Act.put, List.setIfInBounds_toArray, List.set_cons_zero, List.set_cons_succ, i64_w, i32_w]
            rfl
          refine one_ (i := 9) (N := some 116) #[true, true, true, true, true, true, true, true, true, true, false, false, false, false] rfl rfl (by kernel_rfl) (by decide) (fun K hK => ?_)
          refine value_ (w1 := ?_) (v := ?_) (by rfl) rfl ?_ ?_
          rotate_left 2
          · go_simp
            constructor
            · rfl
            · rfl
          refine hK.out _ _ ⟨(cell_alloc hHeld.1 _), (cell_alloc hHeld.2 _)⟩ (fun hHeld => ?_)
          clear hK K
          refine norm_ (a' := ?_) ?_ ?_
          rotate_left
          · show Act.put _ (some 116) _ = _
            simp only [Act.put, List.setIfInBounds_toArray, List.set_cons_zero, List.set_cons_succ, i64_w, i32_w]
            rfl
          refine one_ (i := 10) (N := some 117) #[true, true, true, true, true, true, true, true, true, true, true, false, false, false] rfl rfl (by kernel_rfl) (by decide) (fun K hK => ?_)
          refine Kd.R_append_step (W := w10) (Kd.int .i64) (w0 := w10) b0 (by rfl) (.tmp 111) (.tmp 116) 24 3 (.int .i64 0) 8 (by rfl) Try.underlying24 info3 rfl (by decide) (by omega) (.slice At tos.length ct) tos (parts.length : Int) [.int .i64 (parts.length : Int)] (fun k => k ≠ gp) (fun _ => False) (by rfl) (by rfl) rfl (fun _ hk => hk.elim) (fun k hk => (HA9.out.lts (Nat.le_refl _) k hk).1.1) HA9.out.t (Below.refl _ _) hb9 (by omega) ?_
          intro v4 w4 ho4 hb4 hg4 hat4
          have hG4 := blk_grown HA9.out.blk hg4 (Kd.R_ne HA9.out.t HA9.out.blk (by decide))
          have c04 := cell_of_row w4 g 1 _ _ _ hG4
          have f04 := frozen_of_row hG4 1
          have HA11 := Aside0.mk (HA9.out.appT ho4 hg4 hat4)
          have HPL4 := Aside0.mk (Kd.R_celln 0 (Kd.R_grown HA9.out.plr hg4 (fun k hk e => HA9.out.t.1 k e.symm hk)) (j : Int) (by omega) (by omega)).1
          rw [Int.toNat_natCast, show rdOf (0 : Int) (pl.set j (parts.length : Int)) (j : Int) = (parts.length : Int) from (by have h := rd_set pl j j (parts.length : Int) (by rw [HK.out.pll]; exact hj); rw [if_pos rfl] at h; exact h)] at HPL4
          have HB11 : Aside0 (Below b0 w00 (w4.setCell ⟨g, 1, none⟩ v4)) := ⟨(HB9.out.trans hb4).setCell (p := ⟨g, 1, none⟩) HA9.out.hb _⟩
          obtain ⟨A4, c4, e4⟩ := Kd.R_slice ho4
          subst e4
          rw [List.length_append, List.length_singleton] at ho4 hat4 HA11 HB11 ⊢
          simp at c04
          refine hK.out _ _ ⟨c04, HPL4.out⟩ (fun hHeld => ?_)
          clear hK K
          refine norm_ (a' := ?_) ?_ ?_
          rotate_left
          · show Act.put _ (some 117) _ = _
            simp only [Act.put, List.setIfInBounds_toArray, List.set_cons_zero, List.set_cons_succ, i64_w, i32_w]
            rfl
          refine pure_ (i := 11) (N := some 118) (v := ?_) (a' := ?_) #[true, true, true, true, true, true, true, true, true, true, true, true, false, false] rfl rfl (by kernel_rfl) (fun _ _ _ h => h) (Or.inl ⟨by rfl, ?_⟩) ?_ ?_
          rotate_left
          · intro w'
            go_simp
            with_reducible rfl
          rotate_left
          · simp only [Act.put, List.setIfInBounds_toArray, List.set_cons_zero, List.set_cons_succ, i64_w, i32_w]
            rfl
          refine pure_ (i := 12) (N := some 119) (v := ?_) (a' := ?_) #[true, true, true, true, true, true, true, true, true, true, true, true, true, false] rfl rfl (by kernel_rfl) (fun _ _ _ h => h) (Or.inl ⟨by rfl, ?_⟩) ?_ ?_
          rotate_left
          · intro w'
            go_simp
            with_reducible rfl
          rotate_left
          · simp only [Act.put, List.setIfInBounds_toArray, List.set_cons_zero, List.set_cons_succ, i64_w, i32_w]
            rfl
          refine last_ (i := 13) (N := none) #[true, true, true, true, true, true, true, true, true, true, true, true, true, true] rfl rfl (by kernel_rfl) (by decide) (fun K hK => ?_)
          refine skip_ (w1 := ?_) (by rfl) rfl ?_ ?_
          rotate_left
          · go_simp
            rfl
          refine hK.out _ _ ?_
          clear hK K
          refine done_ (by kernel_rfl) ?_
          go_wp2_with fail
          go_roundg j
          case measure => omega
          case rel =>
            have HK3 := HK.out.newVar HD.out HL.out HT.out hj HV.out hv1 hv2' HXV.out
            rw [HV.out] at HK3
            have har := HAR.out
            subst har
            exact ⟨_, _, _, _, _, _, _, _, rfl, ⟨by omega⟩, ⟨by omega⟩, ⟨by have h := HA11.out; exact h⟩, ⟨HK3⟩, HB11, ⟨by rw [List.length_append, List.length_singleton]; have := HP.out; omega, by rw [List.length_append, List.length_singleton]; have := HP.out; omega⟩, ⟨fun z hz => (tmF_old (by rw [HK.out.tl]; have := HP.out; omega)).trans (HPRE.out z hz)⟩⟩
      · have hsy : 0 ≤ rd t j := by omega
        clear hneg hnum
        have HPLC : Aside0 (plc l t (j : Int) = 0) := ⟨by have := HC.out; unfold plc; rw [if_pos this, if_neg (by omega), if_neg (by omega)]⟩
        go_upto_region 9 with fail
        have HA0 := HA
        have HLT := Aside0.mk (HA.out.lts (Nat.le_refl _))
        have HGP : Aside0 (gp < wr.heap.size ∧ vb < wr.heap.size ∧ g < wr.heap.size) := ⟨(by obtain ⟨cells, hc⟩ := HA.out.plBlk; exact blk_lt hc), blk_lt HA.out.vbk, blk_lt HA.out.blk⟩
        replace HA := Aside0.mk (HA.out.below (below_alloc (Below.refl _ _) (.cells #[.int .i64 (rd t j), .slice none 0 0] 155)))
        have HX := Aside0.mk (heap_alloc_new wr (.cells #[.int .i64 (rd t j), .slice none 0 0] 155))
        have HZS : Aside0 ((wr.alloc (.cells #[.int .i64 (rd t j), .slice none 0 0] 155)).heap.size = wr.heap.size + 1) := ⟨by simp⟩
        replace HB : Aside0 (Below b0 w00 (wr.alloc (.cells #[.int .i64 (rd t j), .slice none 0 0] 155))) := ⟨HB.out.alloc (Nat.le_trans HA.out.hb (Nat.le_of_lt HGP.out.2.2)) _⟩
        obtain ⟨w5, hw5⟩ : ∃ w5, w5 = wr.alloc (.cells #[.int .i64 (rd t j), .slice none 0 0] 155) := ⟨_, rfl⟩
        rw [← hw5] at HA HX HB HZS ⊢
        have HKW : Aside0 (∀ i, i < wr.heap.size → w5.heap[i]? = wr.heap[i]?) := ⟨fun i hi => by rw [hw5]; exact Below.heap_alloc _ _ _ hi⟩
        clear hw5
        generalize hbx : wr.heap.size = bx at *
        have HBX0 := Aside0.mk hbx
        clear hbx
        go_wp2_with fail
        clear hx
        refine (Args_okN sg l (some ad) c t j _ (HS.out.below (by rw [← HB0.out]; exact HB.out)) HL.out (Kd.C_below HTC.out (by rw [← HB0.out]; exact HB.out)) HPLC.out).mono ?_
        rintro e w6 ⟨v1, rfl, hr1, hb6⟩
        have HZ6 : Aside0 (bx + 1 ≤ w5.heap.size ∧ w5.heap.size ≤ w6.heap.size) := ⟨by have := HZS.out; omega, hb6.size⟩
        have RW : Aside0 (Rw w6 w5.heap.size w6.heap.size v1 (toI (argsL l t j))) := ⟨Rw.mk hr1⟩
        obtain ⟨A1, c1, e, hcl1, _⟩ := RW.out.reads
        subst e
        replace HX := Aside0.mk ((hb6.block bx (blk_lt HX.out)).trans HX.out)
        replace HB := Aside0.mk (HB.out.trans (hb6.mono (by have := HZ6.out; have := HGP.out; have := HA.out.hb; omega)))
        replace HKW : Aside0 (∀ i, i < bx → w6.heap[i]? = wr.heap[i]?) := ⟨fun i hi => (hb6.block i (by have := HZ6.out; omega)).trans (HKW.out i hi)⟩
        have HNA : Aside0 ((argsL l t j).length ≤ 6) := ⟨by unfold argsL; rw [argsF_length]; have := ar_bd HL.out (rd t j); omega⟩
        clear hr1 hb6 HA hcl1
        generalize w5.heap.size = s5 at *
        generalize hs6 : w6.heap.size = s6 at *
        have HS6 : Aside0 (s6 ≤ w6.heap.size) := ⟨by omega⟩
        clear hs6
        have htl1 := toI_length (argsL l t j)
        rw [htl1]
        have HTL := Aside0.mk htl1
        clear htl1
        obtain ⟨wo, hwo⟩ : ∃ wo : World, wo = wr := ⟨_, rfl⟩
        rw [← hwo] at HA0 HKW HBX0
        clear hwo
        go_wp2_with fail
        go_loopg [64] (argsL l t j).length (fun m i wi => ∃ (k : Nat) (vk : Value), i = .int .i64 k ∧ k ≤ (argsL l t j).length ∧ Aside0 (m = (argsL l t j).length - k) ∧ Aside0 (wi.heap[bx]? = some (.cells #[.int .i64 (rd t j), vk] 155 (0, 0))) ∧
          Aside0 (Kd.R (Kd.int .i64) 3 wi s6 (fun z => s6 ≤ z) vk (((argsL l t j).take k).map fun x : Nat => rd pl (x : Int))) ∧ Aside0 (Rw wi s5 s6 (.slice A1 (toI (argsL l t j)).length c1) (toI (argsL l t j))) ∧ Aside0 (Below b0 w00 wi) ∧ Aside0 (∀ i, i < bx → wi.heap[i]? = wo.heap[i]?) ∧ Aside0 (s6 ≤ wi.heap.size))
        case atStart => exact ⟨0, _, rfl, by omega, ⟨by omega⟩, HX, ⟨Kd.R_nil _ _ _ _ _⟩, RW, HB, HKW, HS6⟩
        case round =>
          clear HX RW HB HKW HS6
          obtain ⟨k, vk, rfl, hk, HM2, HX, HR, RW, HB, HKW, HS6⟩ := hrel
          obtain ⟨Ak, ck, e⟩ := Kd.R_slice HR.out
          subst e
          have HA := Aside0.mk (HA0.out.of_old (W' := wr) (fun i hi => HKW.out i (by have := HBX0.out; omega)))
          have hlk : (((argsL l t j).take k).map fun x : Nat => rd pl (x : Int)).length = k := by rw [List.length_map, List.length_take]; omega
          rw [hlk] at HX HR
          clear hlk
          by_cases hlt : k < (argsL l t j).length
          · have hk' : k < (toI (argsL l t j)).length := by rw [HTL.out]; exact hlt
            obtain ⟨d1, e, hx1⟩ := int_at (Kd.R_reads' RW.out).2.2 k hk'
            cases e
            rw [toI_at] at hx1
            obtain ⟨a, ha⟩ : ∃ a : Nat, a = (argsL l t j).getD k 0 := ⟨_, rfl⟩
            rw [← ha] at hx1
            have hal := argsL_le HL.out HT.out hj a (by rw [ha]; exact getD_mem hlt)
            obtain ⟨p0, _⟩ := HA.out.plCell hal.2 (x := rd pl a) rfl
            have c0 := cell_of_row wr bx 1 _ _ _ HX.out
            simp at c0
            have HAA := Aside0.mk ha
            have hal2 := hal.2
            have hk6 : k < 6 := by have := HNA.out; omega
            have hsl := HS6.out
            clear hal ha hk'
            go_upto_region 14 with fail
            clear hx1
            have hsl10 : s6 ≤ wr.drew.heap.size := hsl
            refine start_ (n := 10) (S := fun w' => w'.cell? ⟨bx, 1, none⟩ = some (.slice Ak k ck) ∧ w'.cell? ⟨gp, a, none⟩ = some (.int .i64 (rd pl a))) (ds := [9]) #[false, false, false, false, false, false, false, false, false, false] (by kernel_rfl) rfl rfl ⟨c0, p0⟩ (fun hHeld => ?_)
            replace HX : Aside0 (wr.drew.heap[bx]? = some (.cells #[.int .i64 (rd t j), (.slice Ak k ck)] 155 (0, 0))) := ⟨HX.out⟩
            replace HR : Aside0 (Kd.R (Kd.int .i64) 3 wr.drew s6 (fun z => s6 ≤ z) (.slice Ak k ck) (((argsL l t j).take k).map fun x : Nat => rd pl (x : Int))) := ⟨HR.out⟩
            replace RW : Aside0 (Rw wr.drew s5 s6 (.slice (some d1) (toI (argsL l t j)).length c1) (toI (argsL l t j))) := ⟨RW.out⟩
            replace HB : Aside0 (Below b0 w00 wr.drew) := ⟨HB.out.drew⟩
            replace HKW : Aside0 (∀ i, i < bx → (wr.drew).heap[i]? = wo.heap[i]?) := ⟨HKW.out⟩
            replace HA : Aside0 (AdSt wr.drew b0 g vb gp v2 (.slice Ap parts.length cp) (.slice At tos.length ct) t.length t.length parts tos pl V cs2) := ⟨HA.out.below (below_drew (Below.refl _ _))⟩
            generalize wr.drew = w10 at *
            clear c0 p0
            refine pure_ (i := 0) (N := some 68) (v := ?_) (a' := ?_) #[true, false, false, false, false, false, false, false, false, false] rfl rfl (by kernel_rfl) (fun _ _ _ h => h) (Or.inl ⟨by rfl, ?_⟩) ?_ ?_
            rotate_left
            · intro w'
              go_simp
              with_reducible rfl
            rotate_left
            · simp only [Act.put, List.setIfInBounds_toArray, List.set_cons_zero, List.set_cons_succ, i64_w, i32_w]
              rfl
            refine pure_ (i := 2) (N := some 70) (v := ?_) (a' := ?_) #[true, false, true, false, false, false, false, false, false, false] rfl rfl (by kernel_rfl) (fun _ _ _ h => h) (Or.inl ⟨by rfl, ?_⟩) ?_ ?_
            rotate_left
            · intro w'
              go_simp
              with_reducible rfl
            rotate_left
            · simp only [Act.put, List.setIfInBounds_toArray, List.set_cons_zero, List.set_cons_succ, i64_w, i32_w]
              rfl
            refine pure_ (i := 3) (N := some 71) (v := ?_) (a' := ?_) #[true, false, true, true, false, false, false, false, false, false] rfl rfl (by kernel_rfl) (fun _ _ _ h => h) (Or.inl ⟨by rfl, ?_⟩) ?_ ?_
            rotate_left
            · intro w'
              go_simp
              with_reducible rfl
            rotate_left
            · simp only [Act.put, List.setIfInBounds_toArray, List.set_cons_zero, List.set_cons_succ, i64_w, i32_w]
              rfl
            refine pure_ (i := 4) (N := some 72) (v := ?_) (a' := ?_) #[true, false, true, true, true, false, false, false, false, false] rfl rfl (by kernel_rfl) (fun _ _ _ h => h) (Or.inl ⟨by rfl, ?_⟩) ?_ ?_
            rotate_left
            · intro w'
              go_simp
              with_reducible rfl
            rotate_left
            · simp only [Act.put, List.setIfInBounds_toArray, List.set_cons_zero, List.set_cons_succ, i64_w, i32_w]
              rfl
            refine take_ (i := 1) (N := some 69) (v := ?_) (a' := ?_) #[true, true, true, true, true, false, false, false, false, false] rfl rfl (by kernel_rfl) (fun _ _ _ h => h) (Or.inl ⟨by rfl, ?_⟩) hHeld ?_ ?_
            rotate_left
            · rintro w' ⟨s0, s1⟩
              go_simp
              with_reducible rfl
            rotate_left
            · simp only [Act.put, List.setIfInBounds_toArray, List.set_cons_zero, List.set_cons_succ, i64_w, i32_w]
              rfl
            refine take_ (i := 5) (N := some 73) (v := ?_) (a' := ?_) #[true, true, true, true, true, true, false, false, false, false] rfl rfl (by kernel_rfl) (fun _ _ _ h => h) (Or.inl ⟨by rfl, ?_⟩) hHeld ?_ ?_
            rotate_left
            · rintro w' ⟨s0, s1⟩
              go_simp
              with_reducible rfl
            rotate_left
            · simp only [Act.put, List.setIfInBounds_toArray, List.set_cons_zero, List.set_cons_succ, i64_w, i32_w]
              rfl
            refine one_ (i := 6) (N := some 74) #[true, true, true, true, true, true, true, false, false, false] rfl rfl (by kernel_rfl) (by decide) (fun K hK => ?_)
            refine value_ (w1 := ?_) (v := ?_) (by rfl) rfl ?_ ?_
            rotate_left 2
            · go_simp
              constructor
              · rfl
              · rfl
            refine hK.out _ _ ⟨(cell_alloc hHeld.1 _), (cell_alloc hHeld.2 _)⟩ (fun hHeld => ?_)
            clear hK K
            refine norm_ (a' := ?_) ?_ ?_
            rotate_left
            · show Act.put _ (some 74) _ = _
              simp only [Act.put, List.setIfInBounds_toArray, List.set_cons_zero, List.set_cons_succ, i64_w, i32_w]
              rfl
            refine one_ (i := 7) (N := some 75) #[true, true, true, true, true, true, true, true, false, false] rfl rfl (by kernel_rfl) (by decide) (fun K hK => ?_)
            refine Kd.R_append_step (W := w10) (Kd.int .i64) (w0 := w10) s6 (by rfl) (.tmp 69) (.tmp 74) 24 3 (.int .i64 0) 8 (by rfl) Try.underlying24 info3 rfl (by decide) (by omega) (.slice Ak k ck) (((argsL l t j).take k).map fun x : Nat => rd pl (x : Int)) (rd pl a) [.int .i64 (rd pl a)] (fun z => s6 ≤ z) (fun _ => False) (by rfl) (by rfl) rfl (fun _ hk => hk.elim) (fun z hz => Nat.le_trans hsl10 hz) HR.out (Below.refl _ _) hsl10 (by have := HNA.out; rw [List.length_map, List.length_take]; omega) ?_
            intro v3 w3 ho3 hb3 hg3 hat3
            obtain ⟨A3, c3, e3⟩ := Kd.R_slice ho3
            obtain ⟨n3, hn3⟩ : ∃ n3, n3 = ((((argsL l t j).take k).map fun x : Nat => rd pl (x : Int)) ++ [rd pl a]).length := ⟨_, rfl⟩
            rw [← hn3] at e3
            subst e3
            clear hn3
            have hX3 := blk_grown HX.out hg3 (fun e => by have := HR.out.1 bx e.symm; have := HZ6.out; omega)
            have c03 := cell_of_row w3 bx 1 _ _ _ hX3
            have f03 := frozen_of_row hX3 1
            have HK3 : Aside0 (∀ i, i < bx → w3.heap[i]? = wo.heap[i]?) := ⟨fun i hi => (hg3.block i (by have := HZ6.out; omega) (fun e => by have := HR.out.1 i e.symm; have := HZ6.out; omega)).trans (HKW.out i hi)⟩
            have HA3 := Aside0.mk (HA0.out.of_old (W' := w3) (fun i hi => HK3.out i (by have := HBX0.out; omega)))
            have p03 := (HA3.out.plCell hal2 (x := rd pl a) rfl).1
            have HB3 : Aside0 (Below b0 w00 (w3.setCell ⟨bx, 1, none⟩ (.slice A3 n3 c3))) := ⟨(HB.out.trans (hb3.mono (by have := HZ6.out; have := HGP.out; have := HA0.out.hb; omega))).setCell (p := ⟨bx, 1, none⟩) (by have := HGP.out; have := HA0.out.hb; show b0 ≤ bx; omega) _⟩
            have HX3 := Aside0.mk (blk_set2 hX3 (.slice A3 n3 c3))
            have HR3 := Aside0.mk (Kd.R_far ho3 (p := ⟨bx, 1, none⟩) (fun z hz => by have := HZ6.out; show z ≠ bx; omega) (.slice A3 n3 c3))
            have RW3 : Aside0 (Rw (w3.setCell ⟨bx, 1, none⟩ (.slice A3 n3 c3)) s5 s6 (.slice (some d1) (toI (argsL l t j)).length c1) (toI (argsL l t j))) := ⟨Kd.R_far (Kd.R_grown RW.out hg3 (fun z hz e => by have := HR.out.1 z e.symm; omega)) (p := ⟨bx, 1, none⟩) (fun z hz => by have := HZ6.out; show z ≠ bx; omega) _⟩
            have HK4 : Aside0 (∀ i, i < bx → (w3.setCell ⟨bx, 1, none⟩ (.slice A3 n3 c3)).heap[i]? = wo.heap[i]?) := ⟨fun i hi => (Below.heap_setCell w3 ⟨bx, 1, none⟩ _ i (by show i ≠ bx; omega)).trans (HK3.out i hi)⟩
            have HS7 : Aside0 (s6 ≤ (w3.setCell ⟨bx, 1, none⟩ (.slice A3 n3 c3)).heap.size) := ⟨by have := hb3.size; simp [World.setCell]; omega⟩
            simp at c03
            clear ho3 hb3 hg3 hat3 hX3
            refine hK.out _ _ ⟨c03, p03⟩ (fun hHeld => ?_)
            clear hK K
            refine norm_ (a' := ?_) ?_ ?_
            rotate_left
            · show Act.put _ (some 75) _ = _
              simp only [Act.put, List.setIfInBounds_toArray, List.set_cons_zero, List.set_cons_succ, i64_w, i32_w]
              rfl
            refine pure_ (i := 8) (N := some 76) (v := ?_) (a' := ?_) #[true, true, true, true, true, true, true, true, true, false] rfl rfl (by kernel_rfl) (fun _ _ _ h => h) (Or.inl ⟨by rfl, ?_⟩) ?_ ?_
            rotate_left
            · intro w'
              go_simp
              with_reducible rfl
            rotate_left
            · simp only [Act.put, List.setIfInBounds_toArray, List.set_cons_zero, List.set_cons_succ, i64_w, i32_w]
              rfl
            refine last_ (i := 9) (N := none) #[true, true, true, true, true, true, true, true, true, true] rfl rfl (by kernel_rfl) (by decide) (fun K hK => ?_)
            refine skip_ (w1 := ?_) (by rfl) rfl ?_ ?_
            rotate_left
            · go_simp
              rfl
            refine hK.out _ _ ?_
            clear hK K
            refine done_ (by kernel_rfl) ?_
            go_wp2_with fail
            go_roundg ((argsL l t j).length - (k + 1))
            case measure => have := HM2.out; omega
            case rel =>
              refine ⟨k + 1, _, by go_num, by omega, ⟨rfl⟩, HX3, ⟨?_⟩, RW3, HB3, HK4, HS7⟩
              have h := HR3.out
              rw [List.take_succ_eq_append_getElem hlt, List.map_append]
              have e : (argsL l t j)[k] = a := by rw [HAA.out, List.getD_eq_getElem?_getD, List.getElem?_eq_getElem hlt]; rfl
              rw [List.map_cons, List.map_nil, e]
              exact h
          · obtain rfl : k = (argsL l t j).length := by omega
            rw [List.take_length] at HR
            obtain ⟨va, hva⟩ : ∃ va : Value, va = .slice Ak (argsL l t j).length ck := ⟨_, rfl⟩
            rw [← hva] at HX HR
            clear hva
            obtain ⟨ar, har⟩ : ∃ ar : List Int, ar = (argsL l t j).map fun x : Nat => rd pl (x : Int) := ⟨_, rfl⟩
            rw [← har] at HR
            have HAR := Aside0.mk har
            have HBX : Aside0 (bx ≤ s6 ∧ b0 ≤ bx) := ⟨by have := HZ6.out; omega, by have := HA.out.hb; have := HGP.out; omega⟩
            obtain ⟨w5', hw5'⟩ : ∃ w5' : World, w5' = wr := ⟨_, rfl⟩
            rw [← hw5'] at HX HR HB HA ⊢
            clear har hw5' HKW RW HS6
            obtain ⟨p0, p1⟩ := HA.out.plCell hj rfl
            obtain ⟨q0, q1⟩ := HA.out.cells
            have HBP : Aside0 (b0 ≤ gp) := ⟨Kd.R_base HA.out.plr gp rfl⟩
            have HA6 := Aside0.mk (HA.out.putPl j (parts.length : Int))
            have HX6 := Aside0.mk (blk_far HX.out (p := ⟨gp, j, none⟩) (by have := HGP.out; show bx ≠ gp; omega) (.int .i64 (parts.length : Int)))
            have HR6 := Aside0.mk (Kd.R_far HR.out (p := ⟨gp, j, none⟩) (fun k hk => by have := HGP.out; have := HBX.out; show k ≠ gp; omega) (.int .i64 (parts.length : Int)))
            have HB6 : Aside0 (Below b0 w00 (w5'.setCell ⟨gp, j, none⟩ (.int .i64 (parts.length : Int)))) := ⟨HB.out.setCell (p := ⟨gp, j, none⟩) HBP.out _⟩
            have hpl5 : parts.length ≤ 4000 := by have := HP.out; omega
            go_upto_region 19 with fail
            clear p0 p1 q0 q1
            obtain ⟨w6, hw6⟩ : ∃ w6, w6 = w5'.setCell ⟨gp, j, none⟩ (.int .i64 (parts.length : Int)) := ⟨_, rfl⟩
            rw [← hw6] at HA6 HX6 HR6 HB6 ⊢
            clear hw6
            have HA7 := HA6
            have HX7 := HX6
            have HR7 := HR6
            have HB7 := HB6
            obtain ⟨w7, rfl⟩ : ∃ w7 : World, w7 = w6 := ⟨_, rfl⟩
            clear HA6 HX6 HR6 HB6
            clear HA HX HR HB
            obtain ⟨c0, _⟩ := HA7.out.cells
            have c1 := cell_of_row w7 bx 0 _ _ _ HX7.out
            have c2 := cell_of_row w7 bx 1 _ _ _ HX7.out
            simp at c1 c2
            have hb8 : b0 ≤ w7.drew.heap.size := by have := blk_lt HA7.out.blk; have := HA7.out.hb; show b0 ≤ w7.heap.size; omega
            refine start_ (n := 11) (S := fun w' => w'.cell? ⟨g, 0, none⟩ = some (.slice Ap parts.length cp) ∧ w'.cell? ⟨bx, 0, none⟩ = some (.int .i64 (rd t j)) ∧ w'.cell? ⟨bx, 1, none⟩ = some va) (ds := [10]) #[false, false, false, false, false, false, false, false, false, false, false] (by kernel_rfl) rfl rfl ⟨c0, c1, c2⟩ (fun hHeld => ?_)
            replace HA7 : Aside0 (AdSt w7.drew b0 g vb gp v2 (.slice Ap parts.length cp) (.slice At tos.length ct) t.length t.length parts tos (pl.set j (parts.length : Int)) V cs2) := ⟨HA7.out.below (below_drew (Below.refl _ _))⟩
            replace HX7 : Aside0 (w7.drew.heap[bx]? = some (.cells #[.int .i64 (rd t j), va] 155 (0, 0))) := ⟨HX7.out⟩
            replace HR7 : Aside0 (Kd.R (Kd.int .i64) 3 w7.drew s6 (fun k => s6 ≤ k) va ar) := ⟨HR7.out⟩
            replace HB7 : Aside0 (Below b0 w00 w7.drew) := ⟨HB7.out.drew⟩
            generalize w7.drew = w8 at *
            clear c0 c1 c2
            refine pure_ (i := 0) (N := some 97) (v := ?_) (a' := ?_) #[true, false, false, false, false, false, false, false, false, false, false] rfl rfl (by kernel_rfl) (fun _ _ _ h => h) (Or.inl ⟨by rfl, ?_⟩) ?_ ?_
            rotate_left
            · intro w'
              go_simp
              with_reducible rfl
            rotate_left
            · simp only [Act.put, List.setIfInBounds_toArray, List.set_cons_zero, List.set_cons_succ, i64_w, i32_w]
              rfl
            refine pure_ (i := 1) (N := some 98) (v := ?_) (a' := ?_) #[true, true, false, false, false, false, false, false, false, false, false] rfl rfl (by kernel_rfl) (fun _ _ _ h => h) (Or.inl ⟨by rfl, ?_⟩) ?_ ?_
            rotate_left
            · intro w'
              go_simp
              with_reducible rfl
            rotate_left
            · simp only [Act.put, List.setIfInBounds_toArray, List.set_cons_zero, List.set_cons_succ, i64_w, i32_w]
              rfl
            refine pure_ (i := 2) (N := some 99) (v := ?_) (a' := ?_) #[true, true, true, false, false, false, false, false, false, false, false] rfl rfl (by kernel_rfl) (fun _ _ _ h => h) (Or.inl ⟨by rfl, ?_⟩) ?_ ?_
            rotate_left
            · intro w'
              go_simp
              with_reducible rfl
            rotate_left
            · simp only [Act.put, List.setIfInBounds_toArray, List.set_cons_zero, List.set_cons_succ, i64_w, i32_w]
              rfl
            refine pure_ (i := 3) (N := some 100) (v := ?_) (a' := ?_) #[true, true, true, true, false, false, false, false, false, false, false] rfl rfl (by kernel_rfl) (fun _ _ _ h => h) (Or.inl ⟨by rfl, ?_⟩) ?_ ?_
            rotate_left
            · intro w'
              go_simp
              with_reducible rfl
            rotate_left
            · simp only [Act.put, List.setIfInBounds_toArray, List.set_cons_zero, List.set_cons_succ, i64_w, i32_w]
              rfl
            refine take_ (i := 4) (N := some 101) (v := ?_) (a' := ?_) #[true, true, true, true, true, false, false, false, false, false, false] rfl rfl (by kernel_rfl) (fun _ _ _ h => h) (Or.inl ⟨by rfl, ?_⟩) hHeld ?_ ?_
            rotate_left
            · rintro w' ⟨s0, s1, s2⟩
              go_simp
              with_reducible rfl
            rotate_left
            · simp only [Act.put, List.setIfInBounds_toArray, List.set_cons_zero, List.set_cons_succ, i64_w, i32_w]
              rfl
            refine take_ (i := 5) (N := some 102) (v := ?_) (a' := ?_) #[true, true, true, true, true, true, false, false, false, false, false] rfl rfl (by kernel_rfl) (fun _ _ _ h => h) (Or.inl ⟨by rfl, ?_⟩) hHeld ?_ ?_
            rotate_left
            · rintro w' ⟨s0, s1, s2⟩
              go_simp
              with_reducible rfl
            rotate_left
            · simp only [Act.put, List.setIfInBounds_toArray, List.set_cons_zero, List.set_cons_succ, i64_w, i32_w]
              rfl
            refine one_ (i := 6) (N := some 103) #[true, true, true, true, true, true, true, false, false, false, false] rfl rfl (by kernel_rfl) (by decide) (fun K hK => ?_)
            refine value_ (w1 := ?_) (v := ?_) (by rfl) rfl ?_ ?_
            rotate_left 2
            · go_simp
              constructor
              · rfl
              · rfl
            refine hK.out _ _ ⟨(cell_alloc hHeld.1 _), (cell_alloc hHeld.2.1 _), (cell_alloc hHeld.2.2 _)⟩ (fun hHeld => ?_)
            clear hK K
            refine norm_ (a' := ?_) ?_ ?_
            rotate_left
            · show Act.put _ (some 103) _ = _
              simp only [Act.put, List.setIfInBounds_toArray, List.set_cons_zero, List.set_cons_succ, i64_w, i32_w]
              rfl
            refine one_ (i := 7) (N := some 104) #[true, true, true, true, true, true, true, true, false, false, false] rfl rfl (by kernel_rfl) (by decide) (fun K hK => ?_)
            refine Kd.R_append_step (W := w8) kpt (w0 := w8) b0 (by rfl) (.tmp 101) (.tmp 103) 141 155 (.agg #[.int .i64 0, .slice none 0 0]) 32 (by rfl) Try.underlying141 info155 rfl (by decide) (by omega) (.slice Ap parts.length cp) parts ((rd t j), ar) [.int .i64 (rd t j), va] (fun k => k ≠ gp ∧ some k ≠ (Value.slice At tos.length ct).ownBlock) (fun k => s6 ≤ k) (by rfl) (by rfl) (kpt_M HR7.out (by have := HB7.out.size; have := HGP.out; have := HBX.out; omega)) (fun k hk => HLT.out k (by have := HBX.out; omega)) (fun k hk => (HA7.out.lts (Nat.le_refl _) k hk).1) HA7.out.p (Below.refl _ _) hb8 (by omega) ?_
            intro v3 w3 ho3 hb3 hg3 hat3
            have hG3 := blk_grown HA7.out.blk hg3 (Kd.R_ne HA7.out.p HA7.out.blk (by decide))
            have hX3 := blk_grown HX7.out hg3 (fun e => (HLT.out bx (Nat.le_refl _)).2 e)
            have c03 := cell_of_row w3 g 0 _ _ _ hG3
            have f03 := frozen_of_row hG3 0
            have HA9 := Aside0.mk (HA7.out.appP ho3 hg3)
            have HB9 : Aside0 (Below b0 w00 (w3.setCell ⟨g, 0, none⟩ v3)) := ⟨(HB7.out.trans hb3).setCell (p := ⟨g, 0, none⟩) HA7.out.hb _⟩
            obtain ⟨A3, c3, e3⟩ := Kd.R_slice ho3
            subst e3
            rw [List.length_append, List.length_singleton] at ho3 hat3 HA9 HB9 ⊢
            simp at c03
            refine hK.out _ _ ⟨c03, (cell_of_row w3 bx 0 _ _ _ hX3), (cell_of_row w3 bx 1 _ _ _ hX3)⟩ (fun hHeld => ?_)
            clear hK K
            refine norm_ (a' := ?_) ?_ ?_
            rotate_left
            · show Act.put _ (some 104) _ = _
              simp only [Act.put, List.setIfInBounds_toArray, List.set_cons_zero, List.set_cons_succ, i64_w, i32_w]
              rfl
            refine pure_ (i := 8) (N := some 105) (v := ?_) (a' := ?_) #[true, true, true, true, true, true, true, true, true, false, false] rfl rfl (by kernel_rfl) (fun _ _ _ h => h) (Or.inl ⟨by rfl, ?_⟩) ?_ ?_
            rotate_left
            · intro w'
              go_simp
              with_reducible rfl
            rotate_left
            · simp only [Act.put, List.setIfInBounds_toArray, List.set_cons_zero, List.set_cons_succ, i64_w, i32_w]
              rfl
            refine pure_ (i := 9) (N := some 106) (v := ?_) (a' := ?_) #[true, true, true, true, true, true, true, true, true, true, false] rfl rfl (by kernel_rfl) (fun _ _ _ h => h) (Or.inl ⟨by rfl, ?_⟩) ?_ ?_
            rotate_left
            · intro w'
              go_simp
              with_reducible rfl
            rotate_left
            · simp only [Act.put, List.setIfInBounds_toArray, List.set_cons_zero, List.set_cons_succ, i64_w, i32_w]
              rfl
            refine last_ (i := 10) (N := none) #[true, true, true, true, true, true, true, true, true, true, true] rfl rfl (by kernel_rfl) (by decide) (fun K hK => ?_)
            refine skip_ (w1 := ?_) (by rfl) rfl ?_ ?_
            rotate_left
            · go_simp
              rfl
            refine hK.out _ _ ?_
            clear hK K
            refine done_ (by kernel_rfl) ?_
            go_upto_region 20 with fail
            obtain ⟨w9, hw9⟩ : ∃ w9, w9 = w3.setCell ⟨g, 0, none⟩ (.slice A3 (parts.length + 1) c3) := ⟨_, rfl⟩
            rw [← hw9] at HA9 HB9 ⊢
            clear hw9 f03
            obtain ⟨_, c0⟩ := HA9.out.cells
            obtain ⟨p0, _⟩ := HA9.out.plCell hj (x := (parts.length : Int)) (by rw [rd_set _ _ _ _ (by rw [HK.out.pll]; exact hj), if_pos rfl])
            have hb9 : b0 ≤ w9.drew.heap.size := by have := blk_lt HA9.out.blk; have := HA9.out.hb; show b0 ≤ w9.heap.size; omega
            have htl : tos.length ≤ 4000 := by rw [HK.out.tol]; exact hpl5
            refine start_ (n := 14) (S := fun w' => w'.cell? ⟨g, 1, none⟩ = some (.slice At tos.length ct) ∧ w'.cell? ⟨gp, j, none⟩ = some (.int .i64 (parts.length : Int))) (ds := [13]) #[false, false, false, false, false, false, false, false, false, false, false, false, false, false] (by kernel_rfl) rfl rfl ⟨c0, p0⟩ (fun hHeld => ?_)
            replace HA9 : Aside0 (AdSt w9.drew b0 g vb gp v2 (.slice A3 (parts.length + 1) c3) (.slice At tos.length ct) t.length t.length (parts ++ [((rd t j), ar)]) tos (pl.set j (parts.length : Int)) V cs2) := ⟨HA9.out.below (below_drew (Below.refl _ _))⟩
            replace HB9 : Aside0 (Below b0 w00 w9.drew) := ⟨HB9.out.drew⟩
            generalize w9.drew = w10 at *
            clear c0 p0
            refine pure_ (i := 0) (N := some 107) (v := ?_) (a' := ?_) #[true, false, false, false, false, false, false, false, false, false, false, false, false, false] rfl rfl (by kernel_rfl) (fun _ _ _ h => h) (Or.inl ⟨by rfl, ?_⟩) ?_ ?_
            rotate_left
            · intro w'
              go_simp
              with_reducible rfl
            rotate_left
            · simp only [Act.put, List.setIfInBounds_toArray, List.set_cons_zero, List.set_cons_succ, i64_w, i32_w]
              rfl
            refine pure_ (i := 1) (N := some 108) (v := ?_) (a' := ?_) #[true, true, false, false, false, false, false, false, false, false, false, false, false, false] rfl rfl (by kernel_rfl) (fun _ _ _ h => h) (Or.inl ⟨by rfl, ?_⟩) ?_ ?_
            rotate_left
            · intro w'
              go_simp
              with_reducible rfl
            rotate_left
            · simp only [Act.put, List.setIfInBounds_toArray, List.set_cons_zero, List.set_cons_succ, i64_w, i32_w]
              rfl
            refine pure_ (i := 2) (N := some 109) (v := ?_) (a' := ?_) #[true, true, true, false, false, false, false, false, false, false, false, false, false, false] rfl rfl (by kernel_rfl) (fun _ _ _ h => h) (Or.inl ⟨by rfl, ?_⟩) ?_ ?_
            rotate_left
            · intro w'
              go_simp
              with_reducible rfl
            rotate_left
            · simp only [Act.put, List.setIfInBounds_toArray, List.set_cons_zero, List.set_cons_succ, i64_w, i32_w]
              rfl
            refine pure_ (i := 3) (N := some 110) (v := ?_) (a' := ?_) #[true, true, true, true, false, false, false, false, false, false, false, false, false, false] rfl rfl (by kernel_rfl) (fun _ _ _ h => h) (Or.inl ⟨by rfl, ?_⟩) ?_ ?_
            rotate_left
            · intro w'
              go_simp
              with_reducible rfl
            rotate_left
            · simp only [Act.put, List.setIfInBounds_toArray, List.set_cons_zero, List.set_cons_succ, i64_w, i32_w]
              rfl
            refine pure_ (i := 5) (N := some 112) (v := ?_) (a' := ?_) #[true, true, true, true, false, true, false, false, false, false, false, false, false, false] rfl rfl (by kernel_rfl) (fun _ _ _ h => h) (Or.inl ⟨by rfl, ?_⟩) ?_ ?_
            rotate_left
            · intro w'
              go_simp
              with_reducible rfl
            rotate_left
            · simp only [Act.put, List.setIfInBounds_toArray, List.set_cons_zero, List.set_cons_succ, i64_w, i32_w]
              rfl
            refine pure_ (i := 6) (N := some 113) (v := ?_) (a' := ?_) #[true, true, true, true, false, true, true, false, false, false, false, false, false, false] rfl rfl (by kernel_rfl) (fun _ _ _ h => h) (Or.inl ⟨by rfl, ?_⟩) ?_ ?_
            rotate_left
            · intro w'
              go_simp
              with_reducible rfl
            rotate_left
            · simp only [Act.put, List.setIfInBounds_toArray, List.set_cons_zero, List.set_cons_succ, i64_w, i32_w]
              rfl
            refine pure_ (i := 7) (N := some 114) (v := ?_) (a' := ?_) #[true, true, true, true, false, true, true, true, false, false, false, false, false, false] rfl rfl (by kernel_rfl) (fun _ _ _ h => h) (Or.inl ⟨by rfl, ?_⟩) ?_ ?_
            rotate_left
            · intro w'
              go_simp
              with_reducible rfl
            rotate_left
            · simp only [Act.put, List.setIfInBounds_toArray, List.set_cons_zero, List.set_cons_succ, i64_w, i32_w]
              rfl
            refine take_ (i := 4) (N := some 111) (v := ?_) (a' := ?_) #[true, true, true, true, true, true, true, true, false, false, false, false, false, false] rfl rfl (by kernel_rfl) (fun _ _ _ h => h) (Or.inl ⟨by rfl, ?_⟩) hHeld ?_ ?_
            rotate_left
            · rintro w' ⟨s0, s1⟩
              go_simp
              with_reducible rfl
            rotate_left
            · simp only [Act.put, List.setIfInBounds_toArray, List.set_cons_zero, List.set_cons_succ, i64_w, i32_w]
              rfl
            refine take_ (i := 8) (N := some 115) (v := ?_) (a' := ?_) #[true, true, true, true, true, true, true, true, true, false, false, false, false, false] rfl rfl (by kernel_rfl) (fun _ _ _ h => h) (Or.inl ⟨by rfl, ?_⟩) hHeld ?_ ?_
            rotate_left
            · rintro w' ⟨s0, s1⟩
              go_simp
              with_reducible rfl
            rotate_left
            · simp only [Act.put, List.setIfInBounds_toArray, List.set_cons_zero, List.set_cons_succ, i64_w, i32_w]
              rfl
            refine one_ (i := 9) (N := some 116) #[true, true, true, true, true, true, true, true, true, true, false, false, false, false] rfl rfl (by kernel_rfl) (by decide) (fun K hK => ?_)
            refine value_ (w1 := ?_) (v := ?_) (by rfl) rfl ?_ ?_
            rotate_left 2
            · go_simp
              constructor
              · rfl
              · rfl
            refine hK.out _ _ ⟨(cell_alloc hHeld.1 _), (cell_alloc hHeld.2 _)⟩ (fun hHeld => ?_)
            clear hK K
            refine norm_ (a' := ?_) ?_ ?_
            rotate_left
            · show Act.put _ (some 116) _ = _
              simp only [Act.put, List.setIfInBounds_toArray, List.set_cons_zero, List.set_cons_succ, i64_w, i32_w]
              rfl
            refine one_ (i := 10) (N := some 117) #[true, true, true, true, true, true, true, true, true, true, true, false, false, false] rfl rfl (by kernel_rfl) (by decide) (fun K hK => ?_)
            refine Kd.R_append_step (W := w10) (Kd.int .i64) (w0 := w10) b0 (by rfl) (.tmp 111) (.tmp 116) 24 3 (.int .i64 0) 8 (by rfl) Try.underlying24 info3 rfl (by decide) (by omega) (.slice At tos.length ct) tos (parts.length : Int) [.int .i64 (parts.length : Int)] (fun k => k ≠ gp) (fun _ => False) (by rfl) (by rfl) rfl (fun _ hk => hk.elim) (fun k hk => (HA9.out.lts (Nat.le_refl _) k hk).1.1) HA9.out.t (Below.refl _ _) hb9 (by omega) ?_
            intro v4 w4 ho4 hb4 hg4 hat4
            have hG4 := blk_grown HA9.out.blk hg4 (Kd.R_ne HA9.out.t HA9.out.blk (by decide))
            have c04 := cell_of_row w4 g 1 _ _ _ hG4
            have f04 := frozen_of_row hG4 1
            have HA11 := Aside0.mk (HA9.out.appT ho4 hg4 hat4)
            have HPL4 := Aside0.mk (Kd.R_celln 0 (Kd.R_grown HA9.out.plr hg4 (fun k hk e => HA9.out.t.1 k e.symm hk)) (j : Int) (by omega) (by omega)).1
            rw [Int.toNat_natCast, show rdOf (0 : Int) (pl.set j (parts.length : Int)) (j : Int) = (parts.length : Int) from (by have h := rd_set pl j j (parts.length : Int) (by rw [HK.out.pll]; exact hj); rw [if_pos rfl] at h; exact h)] at HPL4
            have HB11 : Aside0 (Below b0 w00 (w4.setCell ⟨g, 1, none⟩ v4)) := ⟨(HB9.out.trans hb4).setCell (p := ⟨g, 1, none⟩) HA9.out.hb _⟩
            obtain ⟨A4, c4, e4⟩ := Kd.R_slice ho4
            subst e4
            rw [List.length_append, List.length_singleton] at ho4 hat4 HA11 HB11 ⊢
            simp at c04
            refine hK.out _ _ ⟨c04, HPL4.out⟩ (fun hHeld => ?_)
            clear hK K
            refine norm_ (a' := ?_) ?_ ?_
            rotate_left
            · show Act.put _ (some 117) _ = _
              simp only [Act.put, List.setIfInBounds_toArray, List.set_cons_zero, List.set_cons_succ, i64_w, i32_w]
              rfl
            refine pure_ (i := 11) (N := some 118) (v := ?_) (a' := ?_) #[true, true, true, true, true, true, true, true, true, true, true, true, false, false] rfl rfl (by kernel_rfl) (fun _ _ _ h => h) (Or.inl ⟨by rfl, ?_⟩) ?_ ?_
            rotate_left
            · intro w'
              go_simp
              with_reducible rfl
            rotate_left
            · simp only [Act.put, List.setIfInBounds_toArray, List.set_cons_zero, List.set_cons_succ, i64_w, i32_w]
              rfl
            refine pure_ (i := 12) (N := some 119) (v := ?_) (a' := ?_) #[true, true, true, true, true, true, true, true, true, true, true, true, true, false] rfl rfl (by kernel_rfl) (fun _ _ _ h => h) (Or.inl ⟨by rfl, ?_⟩) ?_ ?_
            rotate_left
            · intro w'
              go_simp
              with_reducible rfl
            rotate_left
            · simp only [Act.put, List.setIfInBounds_toArray, List.set_cons_zero, List.set_cons_succ, i64_w, i32_w]
              rfl
            refine last_ (i := 13) (N := none) #[true, true, true, true, true, true, true, true, true, true, true, true, true, true] rfl rfl (by kernel_rfl) (by decide) (fun K hK => ?_)
            refine skip_ (w1 := ?_) (by rfl) rfl ?_ ?_
            rotate_left
            · go_simp
              rfl
            refine hK.out _ _ ?_
            clear hK K
            refine done_ (by kernel_rfl) ?_
            go_wp2_with fail
            go_roundg j
            case measure => omega
            case rel =>
              have HK3 := HK.out.newSym (by have := HD.out; omega) HL.out HT.out hj hsy
              have har := HAR.out
              subst har
              exact ⟨_, _, _, _, _, _, _, _, rfl, ⟨by omega⟩, ⟨by omega⟩, ⟨by have h := HA11.out; exact h⟩, ⟨HK3⟩, HB11, ⟨by rw [List.length_append, List.length_singleton]; have := HP.out; omega, by rw [List.length_append, List.length_singleton]; have := HP.out; omega⟩, ⟨fun z hz => (tmF_old (by rw [HK.out.tl]; have := HP.out; omega)).trans (HPRE.out z hz)⟩⟩
end Go.Proofs.Ytadjoaipmcbieaa
