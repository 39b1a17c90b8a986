/- The texts MM, S6, N0, L0, Q1, C0, C1, UU, U4, Y1, Y2, Y3, B0, joined by wip/slim.py: what the claim's theorem needs of them. (Those named W.. and G.. were printed by the kit's print.py for this seat.) -/
import Derived.Test.YtadjoaipmcbieaaOB4
import Derived.StillTailTactics
import Derived.StringKeys
import Derived.Laws.CopyOwn

/-! MM -/
namespace Go.Proofs.Ytadjoaipmcbieaa
open Go.RowKit Go.Proofs.YtadjoaipmcbieaaW.PrintWords Go.Proofs.YtadjoaipmcbieaaW.PrintLast Go.Proofs.YtadjoaipmcbieaaW.PrintMore A
open Go.Maps
theorem keyed9 : Keyed Try.prog 9 := string_keyed Try.underlying9
theorem zero3 (w : World) : (zeroValue 3).run Try.prog w = .ok (.int .i64 0) w := by kernel_rfl
/-- The block m is a map that has just these keys. -/
def IdxM (w : World) (m : Nat) (ks : List ByteArray) : Prop :=
  ∃ D : DataW Unit, w.ownsMap Try.prog 9 (plainElem Try.prog 3) m ks.length D ∧ ∀ k : ByteArray, Maps.has D (.string k.data.toList) = ks.any (fun x => decide (x = k))
theorem IdxM.kept {w w' : World} {m : Nat} {ks : List ByteArray} {row : Option Nat} (h : IdxM w m ks) (hg : w.grownBy w' row) (hne : some m ≠ row) : IdxM w' m ks := by
  obtain ⟨D, h1, h2⟩ := h
  exact ⟨D, h1.kept hg hne, h2⟩
theorem IdxM.lt {w : World} {m : Nat} {ks : List ByteArray} (h : IdxM w m ks) : m < w.heap.size := by
  obtain ⟨D, h1, _⟩ := h
  exact h1.lt
theorem IdxM.below {w w' : World} {m : Nat} {ks : List ByteArray} (h : IdxM w m ks) (hb : Below w.heap.size w w') : IdxM w' m ks := h.kept (grown_of_below hb none) (by simp)
theorem new_any (w : World) :
    Calls Try.prog 72 #[] w fun e w' => e = .returned (.pointer (some ⟨w.heap.size + 1, 0, none⟩)) ∧ w' = (w.alloc (.map #[] 0)).alloc (.cells #[.slice none 0 0, .map (some w.heap.size)] 126) := by
  have hmm := @run_makeMap Try.prog
  go_enter Try.func72, Try.ntmps72
  go_wp2
  go_ret
  exact ⟨rfl, rfl⟩
end Go.Proofs.Ytadjoaipmcbieaa
namespace Go.Proofs.Ytadjoaipmcbieaa
open Go.RowKit Go.Proofs.YtadjoaipmcbieaaW.PrintWords Go.Proofs.YtadjoaipmcbieaaW.PrintLast Go.Proofs.YtadjoaipmcbieaaW.PrintMore A
open Go.Maps
set_option linter.unusedSimpArgs false
theorem info89 : (Try.prog.info? 89).map (fun i => (i.zero, i.size, i.bytes)) = some (some (.agg #[.string ⟨#[]⟩, .int .i64 0, .bool false]), 3, 32) := by kernel_rfl
def xV (x : S89) : Value := .agg #[.string x.f0, .int .i64 x.f1, .bool x.f2]
theorem look_any {w : World} {m : Nat} {ks : List ByteArray} (h : IdxM w m ks) (key : ByteArray) (hk : key.size ≤ maxLen) : ∃ c : Int, ∀ W : World, W.heap[m]? = w.heap[m]? →
    (Instr.lookup 124 (.map (some m)) (.string key) true).run Try.prog W = .ok (.tuple #[.int .i64 c, .bool (ks.any (fun x => decide (x = key)))]) W := by
  obtain ⟨D, ho, hh⟩ := h
  have hkey := Go.WideMaps.keyOf_string_mk (P := Try.prog) Try.underlying9 (s := key) hk
  have hw0 : (Lit.int IntKind.i64 0).wf = true := by decide
  obtain ⟨c, hc⟩ : ∃ c : Int, D.atKey (.string key.data.toList) (.lit (.int .i64 0)) = .lit (.int .i64 c) := by
    obtain ⟨v, ps, hrun, hv⟩ := ho.look_ok keyed9 Try.underlying124 (zero3 w) (plainElem_int Try.underlying3 hw0) hkey
    obtain ⟨c, rfl, hc, _⟩ := plainElem_int_inv Try.underlying3 hv
    exact ⟨c, congrArg Prod.fst hc⟩
  refine ⟨c, fun W hW => ?_⟩
  have ho' : W.ownsMap Try.prog 9 (plainElem Try.prog 3) m ks.length D := by
    obtain ⟨es, clock, hb, r⟩ := ho
    exact ⟨es, clock, hW.trans hb, r⟩
  obtain ⟨v, ps, hrun, hv⟩ := ho'.look_ok keyed9 Try.underlying124 (zero3 W) (plainElem_int Try.underlying3 hw0) hkey
  rw [hc] at hv
  obtain ⟨c', rfl, hc', _⟩ := plainElem_int_inv Try.underlying3 hv
  simp only [Prod.mk.injEq, DataW.lit.injEq, Lit.int.injEq, true_and] at hc'
  rw [hrun, hh, hc'.1]
theorem R_ne_map {α : Type} {d : Kd α} {e : Nat} {w : World} {base : Nat} {ok : Nat → Prop} {v : Value} {xs : List α} (h : d.R e w base ok v xs) {m : Nat} {es : Array MapEntry} {clock : Nat} (hm : w.heap[m]? = some (.map es clock)) : d.R e w base (fun k => ok k ∧ k ≠ m) v xs :=
  Kd.R_mono (Kd.R_bound h) (fun k hk => ⟨hk.1, by
    rintro rfl
    obtain ⟨_, _, _, q, _, cells, hc⟩ := hk
    rw [hc] at hm
    cases hm⟩)
theorem ne_of_idx {α : Type} {d : Kd α} {e : Nat} {w : World} {base : Nat} {ok : Nat → Prop} {v : Value} {xs : List α} (h : d.R e w base ok v xs) {m : Nat} {ks : List ByteArray} (hm : IdxM w m ks) : (∀ k, v.ownBlock = some k → k ≠ m) ∧ d.R e w base (fun k => ok k ∧ k ≠ m) v xs := by
  obtain ⟨_, ⟨es, clock, hb, _⟩, _⟩ := hm
  exact ⟨fun k hk => ((R_ne_map h hb).1 k hk).2, R_ne_map h hb⟩
theorem bytes_ext {a b : ByteArray} (h : a.data.toList = b.data.toList) : a = b := by
  cases a; cases b; simp at h; rw [h]
theorem put_has {D : DataW Unit} (hD : IsMap D) {l : List S89} (hh : ∀ k : ByteArray, Maps.has D (.string k.data.toList) = (l.map (·.f0)).any (fun x => decide (x = k))) (x : S89) (d : DataW Unit) (k : ByteArray) :
    Maps.has (D.put (.string x.f0.data.toList) d) (.string k.data.toList) = ((l ++ [x]).map (·.f0)).any (fun x => decide (x = k)) := by
  rw [List.map_append, List.any_append, ← hh k]
  by_cases e : x.f0 = k
  · subst e
    rw [Maps.has_put_same hD (by trivial)]
    simp
  · rw [Maps.has_put_other (by intro h; injection h with h; exact e (bytes_ext h).symm)]
    simp [e]
theorem hat_le {a b : Option Nat} {n m : Nat} (h : a = b ∨ ∃ k, a = some k ∧ n ≤ k) (hle : m ≤ n) : a = b ∨ ∃ k, a = some k ∧ m ≤ k := h.imp id (fun ⟨k, h1, h2⟩ => ⟨k, h1, Nat.le_trans hle h2⟩)
theorem frozen_of_row {w : World} {g : Nat} {cs : Array Value} {t : TypeId} (h : w.heap[g]? = some (.cells cs t (0, 0))) (i : Nat) : w.frozen? ⟨g, i, none⟩ = false := by simp [World.frozen?, h]
theorem blk_set0 {w : World} {g : Nat} {a b : Value} {t : TypeId} (h : w.heap[g]? = some (.cells #[a, b] t (0, 0))) (u : Value) : (w.setCell ⟨g, 0, none⟩ u).heap[g]? = some (.cells #[u, b] t (0, 0)) := by
  simp [World.setCell, Array.getElem?_modify, h]
set_option maxRecDepth 100000 in
set_option maxHeartbeats 2000000 in
theorem add_ok (base g m kk : Nat) (v : Value) (l : List S89) (x : S89) (w : World) (hg : w.heap[g]? = some (.cells #[v, .map (some m)] 126 (0, 0))) (hbg : base ≤ g) (hbm : base ≤ m)
    (hv : Kd.R k89 89 w base (fun _ => True) v l) (hm : IdxM w m (l.map (·.f0))) (hsz : x.f0.size ≤ maxLen)
    (h1 : sig_IsName.f kk x.f0 = some true) (h2 : 0 ≤ x.f1) (h3 : x.f1 ≤ 6) (h4 : (l.map (·.f0)).any (fun y => decide (y = x.f0)) = false) (h5 : l.length < 64) :
    Calls Try.prog 73 #[.pointer (some ⟨g, 0, none⟩), xV x] w fun e w' => ∃ v', e = .returned (.tuple #[.int .i64 l.length, .int .i64 0]) ∧
      w'.heap[g]? = some (.cells #[v', .map (some m)] 126 (0, 0)) ∧ Kd.R k89 89 w' base (fun _ => True) v' (l ++ [x]) ∧ IdxM w' m ((l ++ [x]).map (·.f0)) ∧ Below base w w' ∧ Kept w w' (fun k => k = g ∨ k = m ∨ v.ownBlock = some k) ∧ (v'.ownBlock = v.ownBlock ∨ ∃ b, v'.ownBlock = some b ∧ w.heap.size ≤ b) := by
  have hgl := blk_lt hg
  have hml := hm.lt
  obtain ⟨A, c, rfl⟩ := Kd.R_slice hv
  have e5 : ((l.length : Int) == 64) = false := beq_eq_false_iff_ne.2 (by omega)
  have c0 := cell_alloc (cell_of_row w g 0 _ _ _ hg)
  have c1 := cell_alloc (cell_of_row w g 1 _ _ _ hg)
  obtain ⟨x0, x1, x2⟩ := x
  simp only [xV] at *
  obtain ⟨cz, hlk⟩ := look_any hm x0 hsz
  rw [h4] at hlk
  have hlk1 := fun (O : Obj) (n : Nat) => hlk ((w.alloc O).drewN n) (Below.heap_alloc w O m hml)
  have hlk2 := fun (O : Obj) => hlk (w.alloc O) (Below.heap_alloc w O m hml)
  clear hlk
  go_enter Try.func73, Try.ntmps73
  go_wp2
  go_quiet (fail)
  go_wp2_with (go_at_call 100; refine (sig_IsName.calls kk x0 true _ h1).mono ?_; rintro e w1 ⟨rfl, ⟨nd, rfl⟩⟩)
  obtain ⟨W, hW⟩ : ∃ W : World, W = (w.alloc (Obj.cells #[Value.string x0, Value.int IntKind.i64 x1, Value.bool x2] 89)).drewN (nq + nd) := ⟨_, rfl⟩
  rw [← hW]
  have hBW : Below w.heap.size w W := by rw [hW]; exact pw_below_drewN (below_alloc (Below.refl _ _) _) _
  have hsW : W.heap.size = w.heap.size + 1 := by rw [hW]; simp
  have hX : W.heap[w.heap.size]? = some (.cells #[Value.string x0, Value.int IntKind.i64 x1, Value.bool x2] 89 (0, 0)) := by rw [hW]; exact heap_alloc_new w _
  have hG := (hBW.block g hgl).trans hg
  have hV := Kd.R_below hv hBW
  have hM := hm.below hBW
  have hvl : ∀ k, (Value.slice A l.length c).ownBlock = some k → k < w.heap.size := by
    obtain ⟨inner, hown⟩ := Kd.R_own hv
    exact own_lt hown
  have hBB := hBW.mono (show base ≤ w.heap.size by omega)
  have HKW : Aside0 (Kept w W (fun k => k = g ∨ k = m ∨ (Value.slice A l.length c).ownBlock = some k)) := ⟨Kept.of_below hBW _⟩
  clear hlk1 hlk2 hW hBW hg hv hm
  replace c0 := cell_of_row W g 0 _ _ _ hG
  replace c1 := cell_of_row W g 1 _ _ _ hG
  have b0 := cell_of_row W w.heap.size 0 _ _ _ hX
  have b1 := cell_of_row W w.heap.size 1 _ _ _ hX
  have b2 := cell_of_row W w.heap.size 2 _ _ _ hX
  simp at c0 c1 b0 b1 b2
  go_still_tail 7, (by kernel_rfl)
  change wpList _ _ _ _ _ W.drew
  obtain ⟨D, ho, hh⟩ := hM
  have hkey := Go.WideMaps.keyOf_string_mk (P := Try.prog) Try.underlying9 (s := x0) hsz
  refine wpList_mapUpdate_own _ rfl (.tmp 52) (.tmp 54) (.tmp 55) 124 rfl 9 3 keyed9 Try.underlying124 (plainElem Try.prog 3) m _ D rfl ho.drew (by rw [List.length_map]; unfold maxLen; omega) (.string x0) (.int .i64 l.length) _ rfl rfl hkey (.lit (.int .i64 l.length)) [] (plainElem_int Try.underlying3 (by go_wf)) ?_
  intro w2 ho2 hg2
  have hne : some m ≠ some g := by
    intro e
    injection e with e
    subst e
    obtain ⟨es, clock, hb, _⟩ := ho
    rw [hG] at hb
    injection hb with hb
    cases hb
  have hG2 := (hg2.block g (blk_lt hG) (Ne.symm hne)).trans hG
  have hX2 := (hg2.block w.heap.size (by simp; omega) (by simp; omega)).trans hX
  have hV2 : Kd.R k89 89 w2 base (fun _ => True) (.slice A l.length c) l := by
    obtain ⟨es, clock, hb, _⟩ := ho
    exact Kd.R_mono (Kd.R_grown (R_ne_map (show Kd.R k89 89 W.drew base (fun _ => True) (.slice A l.length c) l from hV) hb) hg2 (fun k hk e => hk.2 (by injection e))) (fun _ hk => hk.1)
  have hB2 : Below base w w2 := hBB.trans ⟨hg2.os, hg2.tape, hg2.output, hg2.size, fun k hk => hg2.block k (by have := hBB.size; simp; omega) (by simp; omega)⟩
  have HK2 : Aside0 (Kept w w2 (fun k => k = g ∨ k = m ∨ (Value.slice A l.length c).ownBlock = some k)) := ⟨Kept.of_grown hg2 (show Kept w W.drew _ from HKW.out) (fun k hk => by injection hk with hk; exact .inl (.inr (.inl hk.symm)))⟩
  clear HKW
  have hM2 : IdxM w2 m ((l ++ [(⟨x0, x1, x2⟩ : S89)]).map (·.f0)) := ⟨_, by simpa using ho2, fun k => put_has ho.isMap hh (⟨x0, x1, x2⟩ : S89) _ k⟩
  clear ho hh hG hX hV ho2 hg2 hne hBB
  replace c0 := cell_of_row w2 g 0 _ _ _ hG2
  replace c1 := cell_of_row w2 g 1 _ _ _ hG2
  replace b0 := cell_of_row w2 w.heap.size 0 _ _ _ hX2
  replace b1 := cell_of_row w2 w.heap.size 1 _ _ _ hX2
  replace b2 := cell_of_row w2 w.heap.size 2 _ _ _ hX2
  simp at c0 c1 b0 b1 b2
  go_wp2
  refine start_ (n := 11) (S := fun w' => w'.cell? ⟨g, 0, none⟩ = some (.slice A l.length c) ∧ w'.cell? ⟨w.heap.size, 0, none⟩ = some (.string x0) ∧ w'.cell? ⟨w.heap.size, 1, none⟩ = some (.int .i64 x1) ∧ w'.cell? ⟨w.heap.size, 2, none⟩ = some (.bool x2)) (ds := [10]) #[false, false, false, false, false, false, false, false, false, false, false] (by kernel_rfl) rfl rfl ⟨c0, b0, b1, b2⟩ (fun hHeld => ?_)
  replace hV2 : Kd.R k89 89 w2.drew base (fun _ => True) (.slice A l.length c) l := hV2
  replace hB2 : Below base w w2.drew := hB2.drew
  replace HK2 : Aside0 (Kept w w2.drew (fun k => k = g ∨ k = m ∨ (Value.slice A l.length c).ownBlock = some k)) := HK2
  replace hM2 : IdxM w2.drew m ((l ++ [(⟨x0, x1, x2⟩ : S89)]).map (·.f0)) := hM2
  replace hG2 : w2.drew.heap[g]? = some (.cells #[.slice A l.length c, .map (some m)] 126 (0, 0)) := hG2
  replace hX2 : w2.drew.heap[w.heap.size]? = some (.cells #[Value.string x0, Value.int IntKind.i64 x1, Value.bool x2] 89 (0, 0)) := hX2
  have hb2s : base ≤ w2.drew.heap.size := by have := blk_lt hG2; omega
  have hxs : w.heap.size < w2.drew.heap.size := blk_lt hX2
  clear c0 c1 b0 b1 b2
  generalize w2.drew = w5 at *
  have HV2 := Aside0.mk hV2
  have HB2 := Aside0.mk hB2
  have HM2 := Aside0.mk hM2
  have HG2 := Aside0.mk hG2
  have HX2 := Aside0.mk hX2
  replace hvl : ∀ k, (Value.slice A l.length c).ownBlock = some k → k ≠ w.heap.size := fun k hk => by have := hvl k hk; omega
  clear hV2 hB2 hM2 hG2 hX2
  refine pure_ (i := 0) (N := some 56) (v := ?_) (a' := ?_) #[true, false, false, false, false, false, false, false, false, false, false] rfl rfl (by kernel_rfl) (fun _ _ _ h => h) (Or.inl ⟨by rfl, ?_⟩) ?_ ?_
  rotate_left
  · intro w'
    go_simp
    with_reducible rfl
  rotate_left
  · simp only [Act.put, List.setIfInBounds_toArray, List.set_cons_zero, List.set_cons_succ, i64_w, i32_w]
    rfl
  refine pure_ (i := 1) (N := some 57) (v := ?_) (a' := ?_) #[true, true, false, false, false, false, false, false, false, false, false] rfl rfl (by kernel_rfl) (fun _ _ _ h => h) (Or.inl ⟨by rfl, ?_⟩) ?_ ?_
  rotate_left
  · intro w'
    go_simp
    with_reducible rfl
  rotate_left
  · simp only [Act.put, List.setIfInBounds_toArray, List.set_cons_zero, List.set_cons_succ, i64_w, i32_w]
    rfl
  refine pure_ (i := 2) (N := some 58) (v := ?_) (a' := ?_) #[true, true, true, false, false, false, false, false, false, false, false] rfl rfl (by kernel_rfl) (fun _ _ _ h => h) (Or.inl ⟨by rfl, ?_⟩) ?_ ?_
  rotate_left
  · intro w'
    go_simp
    with_reducible rfl
  rotate_left
  · simp only [Act.put, List.setIfInBounds_toArray, List.set_cons_zero, List.set_cons_succ, i64_w, i32_w]
    rfl
  refine pure_ (i := 3) (N := some 59) (v := ?_) (a' := ?_) #[true, true, true, true, false, false, false, false, false, false, false] rfl rfl (by kernel_rfl) (fun _ _ _ h => h) (Or.inl ⟨by rfl, ?_⟩) ?_ ?_
  rotate_left
  · intro w'
    go_simp
    with_reducible rfl
  rotate_left
  · simp only [Act.put, List.setIfInBounds_toArray, List.set_cons_zero, List.set_cons_succ, i64_w, i32_w]
    rfl
  refine take_ (i := 4) (N := some 60) (v := ?_) (a' := ?_) #[true, true, true, true, true, false, false, false, false, false, false] rfl rfl (by kernel_rfl) (fun _ _ _ h => h) (Or.inl ⟨by rfl, ?_⟩) hHeld ?_ ?_
  rotate_left
  · rintro w' ⟨s0, s1, s2, s3⟩
    go_simp
    with_reducible rfl
  rotate_left
  · simp only [Act.put, List.setIfInBounds_toArray, List.set_cons_zero, List.set_cons_succ, i64_w, i32_w]
    rfl
  refine take_ (i := 5) (N := some 61) (v := ?_) (a' := ?_) #[true, true, true, true, true, true, false, false, false, false, false] rfl rfl (by kernel_rfl) (fun _ _ _ h => h) (Or.inl ⟨by rfl, ?_⟩) hHeld ?_ ?_
  rotate_left
  · rintro w' ⟨s0, s1, s2, s3⟩
    go_simp
    with_reducible rfl
  rotate_left
  · simp only [Act.put, List.setIfInBounds_toArray, List.set_cons_zero, List.set_cons_succ, i64_w, i32_w]
    rfl
  refine one_ (i := 6) (N := some 62) #[true, true, true, true, true, true, true, false, false, false, false] rfl rfl (by kernel_rfl) (by decide) (fun K hK => ?_)
  refine value_ (w1 := ?_) (v := ?_) (by rfl) rfl ?_ ?_
  rotate_left 2
  · go_simp
    constructor
    · rfl
    · rfl
  refine hK.out _ _ ⟨(cell_alloc hHeld.1 _), (cell_alloc hHeld.2.1 _), (cell_alloc hHeld.2.2.1 _), (cell_alloc hHeld.2.2.2 _)⟩ (fun hHeld => ?_)
  clear hK K
  refine norm_ (a' := ?_) ?_ ?_
  rotate_left
  · show Act.put _ (some 62) _ = _
    simp only [Act.put, List.setIfInBounds_toArray, List.set_cons_zero, List.set_cons_succ, i64_w, i32_w]
    rfl
  refine one_ (i := 7) (N := some 63) #[true, true, true, true, true, true, true, true, false, false, false] rfl rfl (by kernel_rfl) (by decide) (fun K hK => ?_)
  refine Kd.R_append_step (W := w5) k89 (w0 := w) base (by rfl) (.tmp 60) (.tmp 62) 23 89 (.agg #[.string ⟨#[]⟩, .int .i64 0, .bool false]) 32 (by rfl) Try.underlying23 info89 rfl (by decide) (by omega) (.slice A l.length c) l ⟨x0, x1, x2⟩ [.string x0, .int .i64 x1, .bool x2] (fun _ => True) (fun _ => False) (by rfl) (by rfl) (k89_mkM _ _ _ _) (fun _ hk => hk.elim) (fun _ _ => trivial) HV2.out HB2.out hb2s (by omega) ?_
  intro v3 w3 ho3 hb3 hg3 hat3
  have hG3 := (hg3.block g (blk_lt HG2.out) (Kd.R_ne HV2.out HG2.out (by decide))).trans HG2.out
  have hX3 := (hg3.block w.heap.size hxs (fun e => hvl w.heap.size e.symm rfl)).trans HX2.out
  have c03 := cell_of_row w3 g 0 _ _ _ hG3
  have f03 := frozen_of_row hG3 0
  obtain ⟨A3, c3, rfl⟩ := Kd.R_slice ho3
  rw [List.length_append, List.length_singleton] at ho3 hat3 ⊢
  simp at c03
  refine hK.out _ _ ⟨c03, (cell_of_row w3 w.heap.size 0 _ _ _ hX3), (cell_of_row w3 w.heap.size 1 _ _ _ hX3), (cell_of_row w3 w.heap.size 2 _ _ _ hX3)⟩ (fun hHeld => ?_)
  clear hK K
  refine norm_ (a' := ?_) ?_ ?_
  rotate_left
  · show Act.put _ (some 63) _ = _
    simp only [Act.put, List.setIfInBounds_toArray, List.set_cons_zero, List.set_cons_succ, i64_w, i32_w]
    rfl
  refine pure_ (i := 8) (N := some 64) (v := ?_) (a' := ?_) #[true, true, true, true, true, true, true, true, true, false, false] rfl rfl (by kernel_rfl) (fun _ _ _ h => h) (Or.inl ⟨by rfl, ?_⟩) ?_ ?_
  rotate_left
  · intro w'
    go_simp
    with_reducible rfl
  rotate_left
  · simp only [Act.put, List.setIfInBounds_toArray, List.set_cons_zero, List.set_cons_succ, i64_w, i32_w]
    rfl
  refine pure_ (i := 9) (N := some 65) (v := ?_) (a' := ?_) #[true, true, true, true, true, true, true, true, true, true, false] rfl rfl (by kernel_rfl) (fun _ _ _ h => h) (Or.inl ⟨by rfl, ?_⟩) ?_ ?_
  rotate_left
  · intro w'
    go_simp
    with_reducible rfl
  rotate_left
  · simp only [Act.put, List.setIfInBounds_toArray, List.set_cons_zero, List.set_cons_succ, i64_w, i32_w]
    rfl
  refine last_ (i := 10) (N := none) #[true, true, true, true, true, true, true, true, true, true, true] rfl rfl (by kernel_rfl) (by decide) (fun K hK => ?_)
  refine skip_ (w1 := ?_) (by rfl) rfl ?_ ?_
  rotate_left
  · go_simp
    rfl
  refine hK.out _ _ ?_
  clear hK K
  refine done_ (by kernel_rfl) ?_
  go_wp2
  go_ret2
  have hM3 : IdxM w3 m ((l ++ [(⟨x0, x1, x2⟩ : S89)]).map (·.f0)) := HM2.out.kept hg3 (fun e => (ne_of_idx HV2.out HM2.out).1 m (by rw [← e]) rfl)
  have hgm : m ≠ g := by
    rintro rfl
    obtain ⟨_, ⟨es, clock, hb, _⟩, _⟩ := hM3
    rw [hG3] at hb
    cases hb
  refine ⟨_, rfl, blk_set0 hG3 _, Kd.R_set ho3 hG3 (by decide) 0 _, ?_, hb3.setCell (p := ⟨g, 0, none⟩) hbg _, (Kept.of_grown hg3 HK2.out (fun k hk => .inl (.inr (.inr hk)))).setCell (p := ⟨g, 0, none⟩) (.inl (.inl rfl)) _, hat_le hat3 HK2.out.1⟩
  obtain ⟨D3, h31, h32⟩ := hM3
  exact ⟨D3, h31.setCell (a := ⟨g, 0, none⟩) hgm _, h32⟩
end Go.Proofs.Ytadjoaipmcbieaa
namespace Go.Proofs.Ytadjoaipmcbieaa
open Go.RowKit Go.Proofs.YtadjoaipmcbieaaW.PrintWords Go.Proofs.YtadjoaipmcbieaaW.PrintLast Go.Proofs.YtadjoaipmcbieaaW.PrintMore A
open Go.Maps
set_option maxRecDepth 100000 in
set_option maxHeartbeats 2000000 in
theorem add_bad (g m kk : Nat) (A : Option Addr) (c : Nat) (l : List S89) (x : S89) (e : Int) (w : World) (hg : w.heap[g]? = some (.cells #[.slice A l.length c, .map (some m)] 126 (0, 0)))
    (hm : IdxM w m (l.map (·.f0))) (hsz : x.f0.size ≤ maxLen) (nm : Bool) (h1 : sig_IsName.f kk x.f0 = some nm)
    (he : (nm = false ∧ e = 10) ∨ (nm = true ∧ (x.f1 < 0 ∨ 6 < x.f1) ∧ e = 11) ∨ (nm = true ∧ 0 ≤ x.f1 ∧ x.f1 ≤ 6 ∧ (l.map (·.f0)).any (fun y => decide (y = x.f0)) = true ∧ e = 12) ∨ (nm = true ∧ 0 ≤ x.f1 ∧ x.f1 ≤ 6 ∧ (l.map (·.f0)).any (fun y => decide (y = x.f0)) = false ∧ l.length = 64 ∧ e = 13)) :
    Calls Try.prog 73 #[.pointer (some ⟨g, 0, none⟩), xV x] w fun e' w' => e' = .returned (.tuple #[.int .i64 0, .int .i64 e]) ∧ Below w.heap.size w w' := by
  have hgl := blk_lt hg
  have hml := hm.lt
  have c0 := cell_alloc (cell_of_row w g 0 _ _ _ hg)
  have c1 := cell_alloc (cell_of_row w g 1 _ _ _ hg)
  obtain ⟨x0, x1, x2⟩ := x
  simp only [xV] at *
  obtain ⟨cz, hlk⟩ := look_any hm x0 hsz
  have hb0 : ∀ (O : Obj) n, Below w.heap.size w ((w.alloc O).drewN n) := fun O n => pw_below_drewN (below_alloc (Below.refl _ _) _) _
  have HB0 := Aside0.mk hb0
  clear hb0
  rcases he with ⟨rfl, rfl⟩ | ⟨rfl, h2, rfl⟩ | ⟨rfl, h2, h3, h4, rfl⟩ | ⟨rfl, h2, h3, h4, h5, rfl⟩
  · generalize (l.map (·.f0)).any (fun y => decide (y = x0)) = th at hlk
    have hlk1 := fun (O : Obj) (n : Nat) => hlk ((w.alloc O).drewN n) (Below.heap_alloc w O m hml)
    have hlk2 := fun (O : Obj) => hlk (w.alloc O) (Below.heap_alloc w O m hml)
    clear hlk
    go_enter Try.func73, Try.ntmps73
    go_wp2
    go_quiet (fail)
    go_wp2_with (go_at_call 100; refine (sig_IsName.calls kk x0 false _ h1).mono ?_; rintro e w1 ⟨rfl, ⟨nd, rfl⟩⟩)
    go_ret2
    exact ⟨rfl, HB0.out _ _⟩
  · generalize (l.map (·.f0)).any (fun y => decide (y = x0)) = th at hlk
    have hlk1 := fun (O : Obj) (n : Nat) => hlk ((w.alloc O).drewN n) (Below.heap_alloc w O m hml)
    have hlk2 := fun (O : Obj) => hlk (w.alloc O) (Below.heap_alloc w O m hml)
    clear hlk
    rcases h2 with h2 | h2
    · have e1 : decide (x1 < 0) = true := decide_eq_true h2
      go_enter Try.func73, Try.ntmps73
      go_wp2
      go_quiet (fail)
      go_wp2_with (go_at_call 100; refine (sig_IsName.calls kk x0 true _ h1).mono ?_; rintro e w1 ⟨rfl, ⟨nd, rfl⟩⟩)
      go_ret2
      exact ⟨rfl, HB0.out _ _⟩
    · have e1 : decide (x1 < 0) = false := decide_eq_false (by omega)
      have e2 : decide (6 < x1) = true := decide_eq_true h2
      go_enter Try.func73, Try.ntmps73
      go_wp2
      go_quiet (fail)
      go_wp2_with (go_at_call 100; refine (sig_IsName.calls kk x0 true _ h1).mono ?_; rintro e w1 ⟨rfl, ⟨nd, rfl⟩⟩)
      go_ret2
      exact ⟨rfl, HB0.out _ _⟩
  · rw [h4] at hlk
    have hlk1 := fun (O : Obj) (n : Nat) => hlk ((w.alloc O).drewN n) (Below.heap_alloc w O m hml)
    have hlk2 := fun (O : Obj) => hlk (w.alloc O) (Below.heap_alloc w O m hml)
    clear hlk
    go_enter Try.func73, Try.ntmps73
    go_wp2
    go_quiet (fail)
    go_wp2_with (go_at_call 100; refine (sig_IsName.calls kk x0 true _ h1).mono ?_; rintro e w1 ⟨rfl, ⟨nd, rfl⟩⟩)
    go_ret2
    exact ⟨rfl, HB0.out _ _⟩
  · rw [h4] at hlk
    have hlk1 := fun (O : Obj) (n : Nat) => hlk ((w.alloc O).drewN n) (Below.heap_alloc w O m hml)
    have hlk2 := fun (O : Obj) => hlk (w.alloc O) (Below.heap_alloc w O m hml)
    clear hlk
    have e5 : ((l.length : Int) == 64) = true := beq_iff_eq.2 (by omega)
    clear h5
    go_enter Try.func73, Try.ntmps73
    go_wp2
    go_quiet (fail)
    go_wp2_with (go_at_call 100; refine (sig_IsName.calls kk x0 true _ h1).mono ?_; rintro e w1 ⟨rfl, ⟨nd, rfl⟩⟩)
    go_ret2
    exact ⟨rfl, HB0.out _ _⟩
end Go.Proofs.Ytadjoaipmcbieaa
namespace Go.Proofs.Ytadjoaipmcbieaa
open Go.RowKit Go.Proofs.YtadjoaipmcbieaaW.PrintWords Go.Proofs.YtadjoaipmcbieaaW.PrintLast Go.Proofs.YtadjoaipmcbieaaW.PrintMore A
set_option linter.unusedSimpArgs false
theorem quiet_add_drawn {P : Program} {f : FuncId} {args : Array Value} {w : World} {a n : Nat} {v : Value}
    (h : Calls P f args (w.drewN (a + n)) fun e w' => e = .returned v ∧ Drawn0 (w.drewN (a + n)) w') : Calls P f args (w.drewN (a + n)) fun e w'' => e = .returned v ∧ ∃ m, w'' = w.drewN (a + m) :=
  h.mono fun _ _ ⟨he, ⟨m, hm⟩⟩ => ⟨he, n + m, by rw [hm, World.drewN_drewN, Nat.add_assoc]⟩
theorem blk_set00 {w : World} {g : Nat} {a : Value} {t : TypeId} (h : w.heap[g]? = some (.cells #[a] t (0, 0))) (u : Value) : (w.setCell ⟨g, 0, none⟩ u).heap[g]? = some (.cells #[u] t (0, 0)) := by
  simp [World.setCell, Array.getElem?_modify, h]
set_option maxRecDepth 100000 in
set_option maxHeartbeats 2000000 in
theorem radd_ok (base g kk k2 : Nat) (v : Value) (l : List S89) (x : S89) (w : World) (hg : w.heap[g]? = some (.cells #[v] 93 (0, 0))) (hbg : base ≤ g)
    (hv : Kd.R k89 89 w base (fun _ => True) v l)
    (h1 : ropewalkref01_IsName.f kk x.f0 = some true) (h2 : 0 ≤ x.f1) (h3 : x.f1 ≤ 6) (fd : Int) (h4 : ropewalkref01_Find.f k2 l x.f0 = some fd) (hfd : fd < 0) (h5 : l.length < 64) :
    Calls Try.prog 74 #[.pointer (some ⟨g, 0, none⟩), xV x] w fun e w' => ∃ v', e = .returned (.tuple #[.int .i64 l.length, .int .i64 0]) ∧
      w'.heap[g]? = some (.cells #[v'] 93 (0, 0)) ∧ Kd.R k89 89 w' base (fun _ => True) v' (l ++ [x]) ∧ Below base w w' ∧ Kept w w' (fun k => k = g ∨ v.ownBlock = some k) ∧ (v'.ownBlock = v.ownBlock ∨ ∃ b, v'.ownBlock = some b ∧ w.heap.size ≤ b) := by
  have hgl := blk_lt hg
  obtain ⟨A, c, rfl, hlc, hC⟩ := Kd.R_reads hv
  have e5 : decide (64 ≤ (l.length : Int)) = false := decide_eq_false (by omega)
  have e6 : decide (0 ≤ fd) = false := decide_eq_false (by omega)
  have c0 := cell_alloc (cell_of_row w g 0 _ _ _ hg)
  obtain ⟨x0, x1, x2⟩ := x
  simp only [xV] at *
  have HC0 : Aside0 (∀ W, Below w.heap.size w W → Kd.C k89 W A l.length l) := ⟨fun W hW => Kd.C_below hC hW⟩
  clear hC
  go_enter Try.func74, Try.ntmps74
  go_wp2_with (go_at_call 101; refine (ropewalkref01_IsName.calls kk x0 true _ h1).mono ?_; rintro e w1 ⟨rfl, ⟨nd, rfl⟩⟩)
  go_quiet ((go_at_call 102; exact quiet_add_drawn (ropewalkref01_Find.calls k2 A c l x0 fd _ (HC0.out _ (pw_below_drewN (below_alloc (Below.refl _ _) _) _)) hlc h4)))
  go_wp2
  obtain ⟨w2, hW⟩ : ∃ W : World, W = (w.alloc (Obj.cells #[Value.string x0, Value.int IntKind.i64 x1, Value.bool x2] 89)).drewN (nd + nq) := ⟨_, rfl⟩
  rw [← hW]
  have hBW : Below w.heap.size w w2 := by rw [hW]; exact pw_below_drewN (below_alloc (Below.refl _ _) _) _
  have hX2 : w2.heap[w.heap.size]? = some (.cells #[Value.string x0, Value.int IntKind.i64 x1, Value.bool x2] 89 (0, 0)) := by rw [hW]; exact heap_alloc_new w _
  have hG2 := (hBW.block g hgl).trans hg
  have hV2 := Kd.R_below hv hBW
  have hvl : ∀ k, (Value.slice A l.length c).ownBlock = some k → k < w.heap.size := by
    obtain ⟨inner, hown⟩ := Kd.R_own hv
    exact own_lt hown
  have hB2 := hBW.mono (show base ≤ w.heap.size by omega)
  have HK2 : Aside0 (Kept w w2 (fun k => k = g ∨ (Value.slice A l.length c).ownBlock = some k)) := ⟨Kept.of_below hBW _⟩
  clear hW hBW hg hv
  replace c0 := cell_of_row w2 g 0 _ _ _ hG2
  have b0 := cell_of_row w2 w.heap.size 0 _ _ _ hX2
  have b1 := cell_of_row w2 w.heap.size 1 _ _ _ hX2
  have b2 := cell_of_row w2 w.heap.size 2 _ _ _ hX2
  simp at c0 b0 b1 b2
  refine start_ (n := 11) (S := fun w' => w'.cell? ⟨g, 0, none⟩ = some (.slice A l.length c) ∧ w'.cell? ⟨w.heap.size, 0, none⟩ = some (.string x0) ∧ w'.cell? ⟨w.heap.size, 1, none⟩ = some (.int .i64 x1) ∧ w'.cell? ⟨w.heap.size, 2, none⟩ = some (.bool x2)) (ds := [10]) #[false, false, false, false, false, false, false, false, false, false, false] (by kernel_rfl) rfl rfl ⟨c0, b0, b1, b2⟩ (fun hHeld => ?_)
  replace hV2 : Kd.R k89 89 w2.drew base (fun _ => True) (.slice A l.length c) l := hV2
  replace hB2 : Below base w w2.drew := hB2.drew
  replace HK2 : Aside0 (Kept w w2.drew (fun k => k = g ∨ (Value.slice A l.length c).ownBlock = some k)) := HK2
  replace hG2 : w2.drew.heap[g]? = some (.cells #[.slice A l.length c] 93 (0, 0)) := hG2
  replace hX2 : w2.drew.heap[w.heap.size]? = some (.cells #[Value.string x0, Value.int IntKind.i64 x1, Value.bool x2] 89 (0, 0)) := hX2
  have hb2s : base ≤ w2.drew.heap.size := by have := blk_lt hG2; omega
  have hxs : w.heap.size < w2.drew.heap.size := blk_lt hX2
  clear c0 b0 b1 b2
  generalize w2.drew = w5 at *
  have HV2 := Aside0.mk hV2
  have HB2 := Aside0.mk hB2
  have HG2 := Aside0.mk hG2
  have HX2 := Aside0.mk hX2
  replace hvl : ∀ k, (Value.slice A l.length c).ownBlock = some k → k ≠ w.heap.size := fun k hk => by have := hvl k hk; omega
  clear hV2 hB2 hG2 hX2
  refine pure_ (i := 0) (N := some 34) (v := ?_) (a' := ?_) #[true, false, false, false, false, false, false, false, false, false, false] rfl rfl (by kernel_rfl) (fun _ _ _ h => h) (Or.inl ⟨by rfl, ?_⟩) ?_ ?_
  rotate_left
  · intro w'
    go_simp
    with_reducible rfl
  rotate_left
  · simp only [Act.put, List.setIfInBounds_toArray, List.set_cons_zero, List.set_cons_succ, i64_w, i32_w]
    rfl
  refine pure_ (i := 1) (N := some 35) (v := ?_) (a' := ?_) #[true, true, false, false, false, false, false, false, false, false, false] rfl rfl (by kernel_rfl) (fun _ _ _ h => h) (Or.inl ⟨by rfl, ?_⟩) ?_ ?_
  rotate_left
  · intro w'
    go_simp
    with_reducible rfl
  rotate_left
  · simp only [Act.put, List.setIfInBounds_toArray, List.set_cons_zero, List.set_cons_succ, i64_w, i32_w]
    rfl
  refine pure_ (i := 2) (N := some 36) (v := ?_) (a' := ?_) #[true, true, true, false, false, false, false, false, false, false, false] rfl rfl (by kernel_rfl) (fun _ _ _ h => h) (Or.inl ⟨by rfl, ?_⟩) ?_ ?_
  rotate_left
  · intro w'
    go_simp
    with_reducible rfl
  rotate_left
  · simp only [Act.put, List.setIfInBounds_toArray, List.set_cons_zero, List.set_cons_succ, i64_w, i32_w]
    rfl
  refine pure_ (i := 3) (N := some 37) (v := ?_) (a' := ?_) #[true, true, true, true, false, false, false, false, false, false, false] rfl rfl (by kernel_rfl) (fun _ _ _ h => h) (Or.inl ⟨by rfl, ?_⟩) ?_ ?_
  rotate_left
  · intro w'
    go_simp
    with_reducible rfl
  rotate_left
  · simp only [Act.put, List.setIfInBounds_toArray, List.set_cons_zero, List.set_cons_succ, i64_w, i32_w]
    rfl
  refine take_ (i := 4) (N := some 38) (v := ?_) (a' := ?_) #[true, true, true, true, true, false, false, false, false, false, false] rfl rfl (by kernel_rfl) (fun _ _ _ h => h) (Or.inl ⟨by rfl, ?_⟩) hHeld ?_ ?_
  rotate_left
  · rintro w' ⟨s0, s1, s2, s3⟩
    go_simp
    with_reducible rfl
  rotate_left
  · simp only [Act.put, List.setIfInBounds_toArray, List.set_cons_zero, List.set_cons_succ, i64_w, i32_w]
    rfl
  refine take_ (i := 5) (N := some 39) (v := ?_) (a' := ?_) #[true, true, true, true, true, true, false, false, false, false, false] rfl rfl (by kernel_rfl) (fun _ _ _ h => h) (Or.inl ⟨by rfl, ?_⟩) hHeld ?_ ?_
  rotate_left
  · rintro w' ⟨s0, s1, s2, s3⟩
    go_simp
    with_reducible rfl
  rotate_left
  · simp only [Act.put, List.setIfInBounds_toArray, List.set_cons_zero, List.set_cons_succ, i64_w, i32_w]
    rfl
  refine one_ (i := 6) (N := some 40) #[true, true, true, true, true, true, true, false, false, false, false] rfl rfl (by kernel_rfl) (by decide) (fun K hK => ?_)
  refine value_ (w1 := ?_) (v := ?_) (by rfl) rfl ?_ ?_
  rotate_left 2
  · go_simp
    constructor
    · rfl
    · rfl
  refine hK.out _ _ ⟨(cell_alloc hHeld.1 _), (cell_alloc hHeld.2.1 _), (cell_alloc hHeld.2.2.1 _), (cell_alloc hHeld.2.2.2 _)⟩ (fun hHeld => ?_)
  clear hK K
  refine norm_ (a' := ?_) ?_ ?_
  rotate_left
  · show Act.put _ (some 40) _ = _
    simp only [Act.put, List.setIfInBounds_toArray, List.set_cons_zero, List.set_cons_succ, i64_w, i32_w]
    rfl
  refine one_ (i := 7) (N := some 41) #[true, true, true, true, true, true, true, true, false, false, false] rfl rfl (by kernel_rfl) (by decide) (fun K hK => ?_)
  refine Kd.R_append_step (W := w5) k89 (w0 := w) base (by rfl) (.tmp 38) (.tmp 40) 23 89 (.agg #[.string ⟨#[]⟩, .int .i64 0, .bool false]) 32 (by rfl) Try.underlying23 info89 rfl (by decide) (by omega) (.slice A l.length c) l ⟨x0, x1, x2⟩ [.string x0, .int .i64 x1, .bool x2] (fun _ => True) (fun _ => False) (by rfl) (by rfl) (k89_mkM _ _ _ _) (fun _ hk => hk.elim) (fun _ _ => trivial) HV2.out HB2.out hb2s (by omega) ?_
  intro v3 w3 ho3 hb3 hg3 hat3
  have hG3 := (hg3.block g (blk_lt HG2.out) (Kd.R_ne HV2.out HG2.out (by decide))).trans HG2.out
  have hX3 := (hg3.block w.heap.size hxs (fun e => hvl w.heap.size e.symm rfl)).trans HX2.out
  have c03 := cell_of_row w3 g 0 _ _ _ hG3
  have f03 := frozen_of_row hG3 0
  obtain ⟨A3, c3, rfl⟩ := Kd.R_slice ho3
  rw [List.length_append, List.length_singleton] at ho3 hat3 ⊢
  simp at c03
  refine hK.out _ _ ⟨c03, (cell_of_row w3 w.heap.size 0 _ _ _ hX3), (cell_of_row w3 w.heap.size 1 _ _ _ hX3), (cell_of_row w3 w.heap.size 2 _ _ _ hX3)⟩ (fun hHeld => ?_)
  clear hK K
  refine norm_ (a' := ?_) ?_ ?_
  rotate_left
  · show Act.put _ (some 41) _ = _
    simp only [Act.put, List.setIfInBounds_toArray, List.set_cons_zero, List.set_cons_succ, i64_w, i32_w]
    rfl
  refine pure_ (i := 8) (N := some 42) (v := ?_) (a' := ?_) #[true, true, true, true, true, true, true, true, true, false, false] rfl rfl (by kernel_rfl) (fun _ _ _ h => h) (Or.inl ⟨by rfl, ?_⟩) ?_ ?_
  rotate_left
  · intro w'
    go_simp
    with_reducible rfl
  rotate_left
  · simp only [Act.put, List.setIfInBounds_toArray, List.set_cons_zero, List.set_cons_succ, i64_w, i32_w]
    rfl
  refine pure_ (i := 9) (N := some 43) (v := ?_) (a' := ?_) #[true, true, true, true, true, true, true, true, true, true, false] rfl rfl (by kernel_rfl) (fun _ _ _ h => h) (Or.inl ⟨by rfl, ?_⟩) ?_ ?_
  rotate_left
  · intro w'
    go_simp
    with_reducible rfl
  rotate_left
  · simp only [Act.put, List.setIfInBounds_toArray, List.set_cons_zero, List.set_cons_succ, i64_w, i32_w]
    rfl
  refine last_ (i := 10) (N := none) #[true, true, true, true, true, true, true, true, true, true, true] rfl rfl (by kernel_rfl) (by decide) (fun K hK => ?_)
  refine skip_ (w1 := ?_) (by rfl) rfl ?_ ?_
  rotate_left
  · go_simp
    rfl
  refine hK.out _ _ ?_
  clear hK K
  refine done_ (by kernel_rfl) ?_
  go_wp2
  go_ret2
  exact ⟨_, rfl, blk_set00 hG3 _, Kd.R_set ho3 hG3 (by decide) 0 _, hb3.setCell (p := ⟨g, 0, none⟩) hbg _, (Kept.of_grown hg3 HK2.out (fun k hk => .inl (.inr hk))).setCell (p := ⟨g, 0, none⟩) (.inl (.inl rfl)) _, hat_le hat3 HK2.out.1⟩
set_option maxRecDepth 100000 in
set_option maxHeartbeats 2000000 in
theorem radd_bad (g kk k2 : Nat) (A : Option Addr) (c : Nat) (l : List S89) (x : S89) (e : Int) (w : World) (hg : w.heap[g]? = some (.cells #[.slice A l.length c] 93 (0, 0)))
    (hlc : l.length ≤ c) (hC : Kd.C k89 w A l.length l)
    (nm : Bool) (h1 : ropewalkref01_IsName.f kk x.f0 = some nm) (fd : Int) (h4 : ropewalkref01_Find.f k2 l x.f0 = some fd)
    (he : (nm = false ∧ e = 10) ∨ (nm = true ∧ (x.f1 < 0 ∨ 6 < x.f1) ∧ e = 11) ∨ (nm = true ∧ 0 ≤ x.f1 ∧ x.f1 ≤ 6 ∧ 0 ≤ fd ∧ e = 12) ∨ (nm = true ∧ 0 ≤ x.f1 ∧ x.f1 ≤ 6 ∧ fd < 0 ∧ 64 ≤ l.length ∧ e = 13)) :
    Calls Try.prog 74 #[.pointer (some ⟨g, 0, none⟩), xV x] w fun e' w' => e' = .returned (.tuple #[.int .i64 0, .int .i64 e]) ∧ Below w.heap.size w w' := by
  have hgl := blk_lt hg
  have c0 := cell_alloc (cell_of_row w g 0 _ _ _ hg)
  obtain ⟨x0, x1, x2⟩ := x
  simp only [xV] at *
  have HC0 : Aside0 (∀ W, Below w.heap.size w W → Kd.C k89 W A l.length l) := ⟨fun W hW => Kd.C_below hC hW⟩
  clear hC
  have hb0 : ∀ (O : Obj) n, Below w.heap.size w ((w.alloc O).drewN n) := fun O n => pw_below_drewN (below_alloc (Below.refl _ _) _) _
  have HB0 := Aside0.mk hb0
  clear hb0
  rcases he with ⟨rfl, rfl⟩ | ⟨rfl, h2, rfl⟩ | ⟨rfl, h2, h3, h5, rfl⟩ | ⟨rfl, h2, h3, h5, h6, rfl⟩
  · go_enter Try.func74, Try.ntmps74
    go_wp2_with (go_at_call 101; refine (ropewalkref01_IsName.calls kk x0 false _ h1).mono ?_; rintro e w1 ⟨rfl, ⟨nd, rfl⟩⟩)
    go_ret2
    exact ⟨rfl, by first | exact HB0.out _ _ | exact pw_below_drewN (HB0.out _ _) _⟩
  · rcases h2 with h2 | h2
    · have e1 : decide (x1 < 0) = true := decide_eq_true h2
      go_enter Try.func74, Try.ntmps74
      go_wp2_with (go_at_call 101; refine (ropewalkref01_IsName.calls kk x0 true _ h1).mono ?_; rintro e w1 ⟨rfl, ⟨nd, rfl⟩⟩)
      go_ret2
      exact ⟨rfl, by first | exact HB0.out _ _ | exact pw_below_drewN (HB0.out _ _) _⟩
    · have e1 : decide (x1 < 0) = false := decide_eq_false (by omega)
      have e2 : decide (6 < x1) = true := decide_eq_true h2
      go_enter Try.func74, Try.ntmps74
      go_wp2_with (go_at_call 101; refine (ropewalkref01_IsName.calls kk x0 true _ h1).mono ?_; rintro e w1 ⟨rfl, ⟨nd, rfl⟩⟩)
      go_ret2
      exact ⟨rfl, by first | exact HB0.out _ _ | exact pw_below_drewN (HB0.out _ _) _⟩
  · have e6 : decide (0 ≤ fd) = true := decide_eq_true h5
    go_enter Try.func74, Try.ntmps74
    go_wp2_with (go_at_call 101; refine (ropewalkref01_IsName.calls kk x0 true _ h1).mono ?_; rintro e w1 ⟨rfl, ⟨nd, rfl⟩⟩)
    go_quiet ((go_at_call 102; exact quiet_add_drawn (ropewalkref01_Find.calls k2 A c l x0 fd _ (HC0.out _ (pw_below_drewN (below_alloc (Below.refl _ _) _) _)) hlc h4)))
    go_wp2
    go_ret2
    exact ⟨rfl, by first | exact HB0.out _ _ | exact pw_below_drewN (HB0.out _ _) _⟩
  · have e5 : decide (64 ≤ (l.length : Int)) = true := decide_eq_true (by omega)
    have e6 : decide (0 ≤ fd) = false := decide_eq_false (by omega)
    go_enter Try.func74, Try.ntmps74
    go_wp2_with (go_at_call 101; refine (ropewalkref01_IsName.calls kk x0 true _ h1).mono ?_; rintro e w1 ⟨rfl, ⟨nd, rfl⟩⟩)
    go_quiet ((go_at_call 102; exact quiet_add_drawn (ropewalkref01_Find.calls k2 A c l x0 fd _ (HC0.out _ (pw_below_drewN (below_alloc (Below.refl _ _) _) _)) hlc h4)))
    go_wp2
    go_ret2
    exact ⟨rfl, by first | exact HB0.out _ _ | exact pw_below_drewN (HB0.out _ _) _⟩
end Go.Proofs.Ytadjoaipmcbieaa
namespace Go.Proofs.Ytadjoaipmcbieaa
open Go.RowKit Go.Proofs.YtadjoaipmcbieaaW.PrintWords Go.Proofs.YtadjoaipmcbieaaW.PrintLast Go.Proofs.YtadjoaipmcbieaaW.PrintMore A
def smB (c : Int) : Bool := if c ≥ 97 then decide (c ≤ 122) else false
def dgB (c : Int) : Bool := if c ≥ 48 then decide (c ≤ 57) else false
theorem sm1 (c : Int) : sig_small.f c = some (smB c) := by unfold sig_small.f smB; split <;> rfl
theorem dg1 (c : Int) : sig_digit.f c = some (dgB c) := by unfold sig_digit.f dgB; split <;> rfl
theorem sm2 (c : Int) : ropewalkref01_small.f c = some (smB c) := by unfold ropewalkref01_small.f smB; split <;> rfl
theorem dg2 (c : Int) : ropewalkref01_digit.f c = some (dgB c) := by unfold ropewalkref01_digit.f dgB; split <;> rfl
def allB (f : Nat → Bool) : Nat → Nat → Bool
  | 0, _ => true
  | n + 1, i => f i && allB f n (i + 1)
def okB (a : ByteArray) (i : Nat) : Bool := smB (bt a i) || dgB (bt a i)
/-- May a symbol be called so? -/
def isNm (a : ByteArray) : Bool := if a.size = 0 then false else if 12 < a.size then false else if smB (bt a 0) = true then allB (okB a) (a.size - 1) 1 else false
theorem wrap_succ (i : Nat) (h : i < 1000) : wrap64 ((i : Int) + 1) = ((i + 1 : Nat) : Int) := by unfold wrap64; omega
theorem sig_l0 (a : ByteArray) (h12 : a.size ≤ 12) : ∀ (n i k : Nat), i + n = a.size → n < k → sig_IsName.l0 k a (a.size : Int) i = some (allB (okB a) n i)
  | 0, i, k + 1, h, _ => by simp only [sig_IsName.l0]; rw [if_neg (by omega)]; rfl
  | n + 1, i, k + 1, h, hk => by
    simp only [sig_IsName.l0]
    rw [if_pos (by omega), if_pos (by omega), if_pos (by omega), sm1, dg1]
    simp only [Option.bind_some]
    rw [wrap_succ i (by omega)]
    have ih := sig_l0 a h12 n (i + 1) k (by omega) (by omega)
    simp only [allB, okB]
    by_cases h1 : smB (bt a i) = true
    · rw [if_pos h1, ih, h1]; simp
    · rw [if_neg h1]
      by_cases h2 : dgB (bt a i) = true
      · rw [if_pos h2, ih, h2]; simp
      · rw [if_neg h2]; simp [h1, h2]
theorem sig_isName (a : ByteArray) : sig_IsName.f 20 a = some (isNm a) := by
  unfold sig_IsName.f isNm
  by_cases h0 : a.size = 0
  · rw [if_pos (by omega), if_pos h0]; simp [sig_IsName.j0]
  · rw [if_neg (by omega), if_neg h0]
    by_cases h1 : 12 < a.size
    · rw [if_pos (by omega), if_pos h1]; simp [sig_IsName.j0]
    · rw [if_neg (by omega), if_neg h1, if_pos (by omega), sm1]
      simp only [Option.bind_some, sig_IsName.j0]
      have h2 := sig_l0 a (by omega) a.size 0 19 (by omega) (by omega)
      by_cases h3 : smB (bt a 0) = true
      · rw [h3]
        simp only [Bool.not_true, if_true]
        rw [if_neg (by simp)]
        refine h2.trans ?_
        obtain ⟨n, hn⟩ : ∃ n, a.size = n + 1 := ⟨a.size - 1, by omega⟩
        rw [hn, Nat.add_sub_cancel]
        have h4 : okB a 0 = true := by unfold okB; rw [show ((0 : Nat) : Int) = 0 from rfl, h3]; rfl
        simp [allB, h4]
      · simp [h3]
theorem ref_l0 (a : ByteArray) (h12 : a.size ≤ 12) : ∀ (n i k : Nat), 0 < i → i + n = a.size → n < k → ropewalkref01_IsName.l0 k a i = some (allB (okB a) n i)
  | 0, i, k + 1, _, h, _ => by simp only [ropewalkref01_IsName.l0]; rw [if_neg (by omega)]; rfl
  | n + 1, i, k + 1, h0, h, hk => by
    simp only [ropewalkref01_IsName.l0]
    rw [if_pos (by omega), if_pos (by omega), sm2, dg2]
    simp only [Option.bind_some]
    rw [wrap_succ i (by omega)]
    have ih := ref_l0 a h12 n (i + 1) k (by omega) (by omega) (by omega)
    simp only [allB, okB]
    by_cases h1 : smB (bt a i) = true
    · rw [if_pos h1, ih, h1]; simp
    · rw [if_neg h1, if_neg (by omega)]
      by_cases h2 : dgB (bt a i) = true
      · rw [if_pos h2, ih, h2]; simp
      · rw [if_neg h2]; simp [h1, h2]
theorem ref_l00 (a : ByteArray) (h0 : a.size ≠ 0) (h12 : a.size ≤ 12) (k : Nat) (hk : 13 ≤ k) : ropewalkref01_IsName.l0 (k + 1) a 0 = some (if smB (bt a 0) = true then allB (okB a) (a.size - 1) 1 else false) := by
  simp only [ropewalkref01_IsName.l0]
  rw [if_pos (by omega), if_pos (by omega), sm2, dg2]
  simp only [Option.bind_some]
  by_cases h3 : smB (bt a 0) = true
  · rw [if_pos h3, if_pos h3, show wrap64 (0 + 1) = ((1 : Nat) : Int) by unfold wrap64; omega]
    exact ref_l0 a (by omega) (a.size - 1) 1 k (by omega) (by omega) (by omega)
  · rw [if_neg h3, if_neg h3, if_pos trivial]
theorem ref_isName (a : ByteArray) : ropewalkref01_IsName.f 20 a = some (isNm a) := by
  unfold ropewalkref01_IsName.f isNm
  by_cases h0 : a.size = 0
  · rw [if_pos (by omega), if_pos h0]; simp [ropewalkref01_IsName.j0]
  · rw [if_neg (by omega), if_neg h0]
    simp only [ropewalkref01_IsName.j0]
    by_cases h1 : 12 < a.size
    · rw [if_pos h1, if_pos (by simp; omega)]
    · rw [if_neg h1, if_neg (by simp; omega)]
      exact ref_l00 a h0 (by omega) 18 (by omega)
theorem toList_inj {a b : ByteArray} : a.toList = b.toList ↔ a = b := by
  constructor
  · intro h
    rw [ByteArray.toList_eq, ByteArray.toList_eq] at h
    exact bytes_ext h
  · rintro rfl; rfl
theorem find_l0 (l : List S89) (a : ByteArray) (hl : l.length ≤ 64) : ∀ (n i k : Nat), i + n = l.length → n < k →
    ∃ r : Int, ropewalkref01_Find.l0 k l a i = some r ∧ (0 ≤ r ↔ ((l.drop i).map (·.f0)).any (fun y => decide (y = a)) = true)
  | 0, i, k + 1, h, _ => ⟨-1, by simp only [ropewalkref01_Find.l0]; rw [if_neg (by omega)], by rw [List.drop_eq_nil_of_le (by omega)]; simp⟩
  | n + 1, i, k + 1, h, hk => by
    have hi : i < l.length := by omega
    have e : (rd_T89 l i) = l[i] := by simp [rd_T89, List.getD_eq_getElem?_getD, List.getElem?_eq_getElem hi]
    rw [List.drop_eq_getElem_cons hi]
    simp only [ropewalkref01_Find.l0]
    rw [if_pos (by omega), if_pos (by omega), e, wrap_succ i (by omega)]
    by_cases h1 : l[i].f0 = a
    · exact ⟨i, by rw [if_pos (by rw [h1])], by rw [List.map_cons, List.any_cons, decide_eq_true h1, Bool.true_or]; exact ⟨fun _ => rfl, fun _ => by omega⟩⟩
    · obtain ⟨r, hr, hr2⟩ := find_l0 l a hl n (i + 1) k (by omega) (by omega)
      exact ⟨r, by rw [if_neg (fun h => h1 (toList_inj.1 h))]; exact hr, by rw [hr2, List.map_cons, List.any_cons, decide_eq_false h1, Bool.false_or]⟩
theorem ref_find (l : List S89) (a : ByteArray) (hl : l.length ≤ 64) : ∃ r : Int, ropewalkref01_Find.f 66 l a = some r ∧ (0 ≤ r ↔ (l.map (·.f0)).any (fun y => decide (y = a)) = true) := by
  obtain ⟨r, hr, h⟩ := find_l0 l a hl l.length 0 66 (by omega) (by omega)
  exact ⟨r, hr, by simpa using h⟩
/-- What is wrong with a symbol that is to be added. -/
def addE (l : List S89) (x : S89) : Int :=
  if isNm x.f0 = false then 10 else if x.f1 < 0 ∨ 6 < x.f1 then 11 else if (l.map (·.f0)).any (fun y => decide (y = x.f0)) = true then 12 else if 64 ≤ l.length then 13 else 0
/-- The symbols that are taken, one behind the other. -/
def addL (l : List S89) (x : S89) : List S89 := if addE l x = 0 then l ++ [x] else l
def madeL (L : List S89) : List S89 := L.foldl addL []
theorem addL_good {l : List S89} {x : S89} (h : GoodL l) : GoodL (addL l x) := by
  unfold addL
  split
  · rename_i he
    unfold addE at he
    split at he
    · omega
    · split at he
      · omega
      · rename_i h2
        split at he
        · omega
        · split at he
          · omega
          · refine ⟨by rw [List.length_append, List.length_singleton]; omega, fun y hy => ?_⟩
            rcases List.mem_append.1 hy with hy | hy
            · exact h.ar y hy
            · rw [List.mem_singleton.1 hy]; omega
  · exact h
theorem made_good (L : List S89) : GoodL (madeL L) := by
  have key : ∀ (L : List S89) (l : List S89), GoodL l → GoodL (L.foldl addL l) := by
    intro L
    induction L with
    | nil => intro l h; exact h
    | cons x L ih => intro l h; exact ih _ (addL_good h)
  exact key L [] ⟨by simp, by simp⟩
end Go.Proofs.Ytadjoaipmcbieaa
namespace Go.Proofs.Ytadjoaipmcbieaa
open Go.RowKit Go.Proofs.YtadjoaipmcbieaaW.PrintWords Go.Proofs.YtadjoaipmcbieaaW.PrintLast Go.Proofs.YtadjoaipmcbieaaW.PrintMore A
/-- The program's signature while it is made. -/
structure SigW (w : World) (base g m : Nat) (v : Value) (l : List S89) : Prop where
  blk : w.heap[g]? = some (.cells #[v, .map (some m)] 126 (0, 0))
  bg : base ≤ g
  bm : base ≤ m
  row : Kd.R k89 89 w base (fun _ => True) v l
  idx : IdxM w m (l.map (·.f0))
  good : GoodL l
/-- The document's. -/
structure RefW (w : World) (base g : Nat) (v : Value) (l : List S89) : Prop where
  blk : w.heap[g]? = some (.cells #[v] 93 (0, 0))
  bg : base ≤ g
  row : Kd.R k89 89 w base (fun _ => True) v l
/-- Both, apart. -/
structure Two (w : World) (base g m g2 : Nat) (v v2 : Value) (l l2 : List S89) : Prop where
  sig : SigW w base g m v l
  ref : RefW w base g2 v2 l2
  ne : ∀ k, v.ownBlock = some k → v2.ownBlock ≠ some k
theorem Two.m_ne {w : World} {base g m g2 : Nat} {v v2 : Value} {l l2 : List S89} (h : Two w base g m g2 v v2 l l2) : m ≠ g ∧ m ≠ g2 ∧ g ≠ g2 := by
  obtain ⟨_, ⟨es, clock, hb, _⟩, _⟩ := h.sig.idx
  refine ⟨fun e => ?_, fun e => ?_, blk_ne h.sig.blk h.ref.blk (by decide)⟩
  · subst e; rw [h.sig.blk] at hb; cases hb
  · subst e; rw [h.ref.blk] at hb; cases hb
/-- What keeps both: new memory alone. -/
theorem Two.below {w w' : World} {base g m g2 : Nat} {v v2 : Value} {l l2 : List S89} (h : Two w base g m g2 v v2 l l2) (hb : Below w.heap.size w w') : Two w' base g m g2 v v2 l l2 :=
  ⟨⟨(hb.block _ (blk_lt h.sig.blk)).trans h.sig.blk, h.sig.bg, h.sig.bm, Kd.R_below h.sig.row hb, h.sig.idx.below hb, h.sig.good⟩,
   ⟨(hb.block _ (blk_lt h.ref.blk)).trans h.ref.blk, h.ref.bg, Kd.R_below h.ref.row hb⟩, h.ne⟩
theorem row_lt {w : World} {base : Nat} {v : Value} {l : List S89} (h : Kd.R k89 89 w base (fun _ => True) v l) : ∀ k, v.ownBlock = some k → k < w.heap.size := by
  obtain ⟨inner, hown⟩ := Kd.R_own h
  exact own_lt hown
/-- Which blocks a list of symbols may lie in: the row alone. -/
theorem reok {w : World} {base : Nat} {ok ok' : Nat → Prop} {v : Value} {l : List S89} (h : Kd.R k89 89 w base ok v l) (h' : ∀ k, v.ownBlock = some k → ok' k) : Kd.R k89 89 w base ok' v l := ⟨h', h.2⟩
theorem sigadd (base g m g2 : Nat) (v v2 : Value) (l l2 : List S89) (x : S89) (w : World) (h : Two w base g m g2 v v2 l l2) (hbw : base ≤ w.heap.size) (hsz : x.f0.size ≤ maxLen) :
    Calls Try.prog 73 #[.pointer (some ⟨g, 0, none⟩), xV x] w fun e w' => ∃ (n : Int) (v' : Value), e = .returned (.tuple #[.int .i64 n, .int .i64 (addE l x)]) ∧ Two w' base g m g2 v' v2 (addL l x) l2 ∧ Below base w w' := by
  by_cases he : addE l x = 0
  · have ha : addL l x = l ++ [x] := if_pos he
    have hg := addL_good (x := x) h.sig.good
    rw [ha] at hg ⊢
    rw [he]
    have hh := he
    unfold addE at hh
    split at hh
    · omega
    · rename_i h1
      split at hh
      · omega
      · rename_i h2
        split at hh
        · omega
        · rename_i h3
          split at hh
          · omega
          · rename_i h4
            refine (add_ok base g m 20 v l x w h.sig.blk h.sig.bg h.sig.bm h.sig.row h.sig.idx hsz (by rw [sig_isName]; simpa using h1) (by omega) (by omega) (by simpa using h3) (by omega)).mono ?_
            rintro e w' ⟨v', rfl, hb', hr', hi', hbel, hk, hat⟩
            obtain ⟨n1, n2, n3⟩ := h.m_ne
            refine ⟨_, v', rfl, ⟨⟨hb', h.sig.bg, h.sig.bm, hr', hi', hg⟩, ⟨?_, h.ref.bg, ?_⟩, ?_⟩, hbel⟩
            · refine (hk.2 _ (blk_lt h.ref.blk) ?_).trans h.ref.blk
              rintro (e | e | e)
              · exact n3 e.symm
              · exact n2 e.symm
              · exact (Kd.R_ne h.sig.row h.ref.blk (by decide)) e.symm
            · refine reok (Kd.R_kept (reok (ok' := fun k => ¬ (k = g ∨ k = m ∨ v.ownBlock = some k)) h.ref.row ?_) hk (fun k hk => hk)) (fun _ _ => trivial)
              rintro k hkk (e | e | e)
              · subst e; exact (Kd.R_ne h.ref.row h.sig.blk (by decide)) hkk.symm
              · subst e; exact (ne_of_idx h.ref.row h.sig.idx).1 k hkk rfl
              · exact h.ne k e hkk
            · intro k hk' hk2
              rcases hat with e | ⟨b, e, hle⟩
              · exact h.ne k (e ▸ hk') hk2
              · rw [e] at hk'
                injection hk' with hk'
                have := row_lt h.ref.row k hk2
                omega
  · have ha : addL l x = l := if_neg he
    rw [ha]
    obtain ⟨A, c, rfl⟩ := Kd.R_slice h.sig.row
    refine (add_bad g m 20 A c l x (addE l x) w h.sig.blk h.sig.idx hsz (isNm x.f0) (sig_isName _) ?_).mono ?_
    · unfold addE at he ⊢
      split
      · rename_i h1; exact .inl ⟨h1, rfl⟩
      · rename_i h1
        simp only [Bool.not_eq_false] at h1
        split
        · rename_i h2; exact .inr (.inl ⟨h1, h2, rfl⟩)
        · rename_i h2
          split
          · rename_i h3; exact .inr (.inr (.inl ⟨h1, by omega, by omega, h3, rfl⟩))
          · rename_i h3
            split
            · rename_i h4; exact .inr (.inr (.inr ⟨h1, by omega, by omega, by simpa using h3, by have := h.sig.good.len; omega, rfl⟩))
            · rename_i h4; rw [if_neg (by simp [h1]), if_neg h2, if_neg h3, if_neg h4] at he; exact absurd rfl he
    · rintro e w' ⟨rfl, hb⟩
      exact ⟨0, _, rfl, h.below hb, hb.mono hbw⟩
theorem refadd (base g m g2 : Nat) (v v2 : Value) (l l2 : List S89) (x : S89) (w : World) (h : Two w base g m g2 v v2 l l2) (hbw : base ≤ w.heap.size) (hl2 : GoodL l2) :
    Calls Try.prog 74 #[.pointer (some ⟨g2, 0, none⟩), xV x] w fun e w' => ∃ (n : Int) (v' : Value), e = .returned (.tuple #[.int .i64 n, .int .i64 (addE l2 x)]) ∧ Two w' base g m g2 v v' l (addL l2 x) ∧ Below base w w' := by
  obtain ⟨fd, hfd, hfd2⟩ := ref_find l2 x.f0 hl2.len
  obtain ⟨n1, n2, n3⟩ := h.m_ne
  by_cases he : addE l2 x = 0
  · have ha : addL l2 x = l2 ++ [x] := if_pos he
    rw [ha]
    rw [he]
    have hh := he
    unfold addE at hh
    split at hh
    · omega
    · rename_i h1
      split at hh
      · omega
      · rename_i h2
        split at hh
        · omega
        · rename_i h3
          split at hh
          · omega
          · rename_i h4
            refine (radd_ok base g2 20 66 v2 l2 x w h.ref.blk h.ref.bg h.ref.row (by rw [ref_isName]; simpa using h1) (by omega) (by omega) fd hfd (by rw [← hfd2] at h3; omega) (by omega)).mono ?_
            rintro e w' ⟨v', rfl, hb', hr', hbel, hk, hat⟩
            obtain ⟨D, hD, hh2⟩ := h.sig.idx
            have hne2 : ∀ k, v2.ownBlock = some k → k ≠ m := (ne_of_idx h.ref.row h.sig.idx).1
            refine ⟨_, v', rfl, ⟨⟨?_, h.sig.bg, h.sig.bm, ?_, ?_, h.sig.good⟩, ⟨hb', h.ref.bg, hr'⟩, ?_⟩, hbel⟩
            · refine (hk.2 _ (blk_lt h.sig.blk) ?_).trans h.sig.blk
              rintro (e | e)
              · exact n3 e
              · exact (Kd.R_ne h.ref.row h.sig.blk (by decide)) e.symm
            · refine reok (Kd.R_kept (reok (ok' := fun k => ¬ (k = g2 ∨ v2.ownBlock = some k)) h.sig.row ?_) hk (fun k hk => hk)) (fun _ _ => trivial)
              rintro k hkk (e | e)
              · subst e; exact (Kd.R_ne h.sig.row h.ref.blk (by decide)) hkk.symm
              · exact h.ne k hkk e
            · obtain ⟨es, clock, hb, r⟩ := hD
              refine ⟨D, ⟨es, clock, (hk.2 m (Array.getElem?_eq_some_iff.1 hb).1 ?_).trans hb, r⟩, hh2⟩
              rintro (e | e)
              · exact n2 e
              · exact hne2 m e rfl
            · intro k hk' hk2
              rcases hat with e | ⟨b, e, hle⟩
              · exact h.ne k hk' (e ▸ hk2)
              · rw [e] at hk2
                injection hk2 with hk2
                have := row_lt h.sig.row k hk'
                omega
  · have ha : addL l2 x = l2 := if_neg he
    rw [ha]
    obtain ⟨A, c, rfl, hlc, hC⟩ := Kd.R_reads h.ref.row
    refine (radd_bad g2 20 66 A c l2 x (addE l2 x) w h.ref.blk hlc hC (isNm x.f0) (ref_isName _) fd hfd ?_).mono ?_
    · unfold addE at he ⊢
      split
      · rename_i h1; exact .inl ⟨h1, rfl⟩
      · rename_i h1
        simp only [Bool.not_eq_false] at h1
        split
        · rename_i h2; exact .inr (.inl ⟨h1, h2, rfl⟩)
        · rename_i h2
          split
          · rename_i h3; exact .inr (.inr (.inl ⟨h1, by omega, by omega, hfd2.2 h3, rfl⟩))
          · rename_i h3
            split
            · rename_i h4; exact .inr (.inr (.inr ⟨h1, by omega, by omega, by rw [← hfd2] at h3; omega, h4, rfl⟩))
            · rename_i h4; rw [if_neg (by simp [h1]), if_neg h2, if_neg h3, if_neg h4] at he; exact absurd rfl he
    · rintro e w' ⟨rfl, hb⟩
      exact ⟨0, _, rfl, h.below hb, hb.mono hbw⟩
end Go.Proofs.Ytadjoaipmcbieaa
namespace Go.Proofs.Ytadjoaipmcbieaa
open Go.RowKit Go.Proofs.YtadjoaipmcbieaaW.PrintWords Go.Proofs.YtadjoaipmcbieaaW.PrintLast Go.Proofs.YtadjoaipmcbieaaW.PrintMore A
set_option linter.unusedSimpArgs false
theorem madeL_snoc (L : List S89) (p : Nat) (hp : p < L.length) : madeL (L.take (p + 1)) = addL (madeL (L.take p)) (rd_T89 L p) := by
  unfold madeL
  rw [List.take_succ_eq_append_getElem hp, List.foldl_append]
  simp [rd_T89, List.getD_eq_getElem?_getD, List.getElem?_eq_getElem hp]
theorem two_start (w : World) : Two (((w.alloc (.map #[] 0)).alloc (.cells #[.slice none 0 0, .map (some w.heap.size)] 126)).alloc (.cells #[.slice none 0 0] 93)) w.heap.size (w.heap.size + 1) w.heap.size (w.heap.size + 1 + 1) (.slice none 0 0) (.slice none 0 0) [] [] := by
  have h0 := World.ownsMap_made w Try.prog 9 (plainElem (H := Unit) Try.prog 3)
  refine ⟨⟨?_, by omega, by omega, Kd.R_nil _ _ _ _ _, ⟨_, (h0.alloc _).alloc _, fun k => rfl⟩, ⟨by simp, by simp⟩⟩, ⟨?_, by omega, Kd.R_nil _ _ _ _ _⟩, fun k hk => by simp [Value.ownBlock] at hk⟩
  · rw [Below.heap_alloc _ _ _ (by simp)]
    have := heap_alloc_new (w.alloc (.map #[] 0)) (.cells #[.slice none 0 0, .map (some w.heap.size)] 126)
    simpa using this
  · have := heap_alloc_new ((w.alloc (.map #[] 0)).alloc (.cells #[.slice none 0 0, .map (some w.heap.size)] 126)) (.cells #[.slice none 0 0] 93)
    simpa using this
/-- A made signature, as the readers take it. -/
theorem SigW.sigC {w : World} {base g m : Nat} {v : Value} {l : List S89} (h : SigW w base g m v l) : SigC w g l := by
  obtain ⟨A, c, rfl, hl, hC⟩ := Kd.R_reads h.row
  exact ⟨A, c, cell_of_row w g 0 _ _ _ h.blk, hl, hC⟩
set_option maxRecDepth 100000 in
set_option maxHeartbeats 2000000 in
theorem made_any (A : Option Addr) (c : Nat) (L : List S89) (w : World) (hL : Kd.C k89 w A L.length L) (hn : ∀ x ∈ L, x.f0.size ≤ maxLen) :
    Calls Try.prog 26 #[.slice A L.length c] w fun e w' => ∃ (g : Nat) (v : Value), e = .returned (.tuple #[.pointer (some ⟨g, 0, none⟩), v]) ∧
      SigC w' g (madeL L) ∧ Kd.R k89 89 w' w.heap.size (fun _ => True) v (madeL L) ∧ Below w.heap.size w w' := by
  have hm := hL.2.1
  have HL := Aside0.mk hL
  have HN := Aside0.mk hn
  clear hL hn
  have hts := two_start w
  go_enter Try.func26, Try.ntmps26
  go_wp2_with (go_at_call 72; refine (new_any w).mono ?_; rintro e w1 ⟨rfl, rfl⟩)
  have hb0 : Below w.heap.size w (((w.alloc (.map #[] 0)).alloc (.cells #[.slice none 0 0, .map (some w.heap.size)] 126)).alloc (.cells #[.slice none 0 0] 93)) := below_alloc (below_alloc (below_alloc (Below.refl _ _) _) _) _
  generalize (((w.alloc (.map #[] 0)).alloc (.cells #[.slice none 0 0, .map (some w.heap.size)] 126)).alloc (.cells #[.slice none 0 0] 93)) = w2 at *
  generalize hG : w.heap.size + 1 = G at *
  have HTS := Aside0.mk hts
  have HB0 := Aside0.mk hb0
  clear hts hb0 hG
  go_loopw [6, 7, 8, 9, 10] (fun i _ _ _ _ wr => ∃ (p : Nat) (v v2 : Value), i = .int .i64 p ∧ p ≤ L.length ∧ Aside0 (Two wr w.heap.size G w.heap.size (G + 1) v v2 (madeL (L.take p)) (madeL (L.take p))) ∧ Aside0 (Below w.heap.size w wr)) (fun i _ _ _ _ _ => L.length - (intOf i).toNat)
  case atStart => exact ⟨0, _, _, rfl, by omega, HTS, HB0⟩
  case round =>
    clear HTS HB0
    obtain ⟨p, v, v2, rfl, hp, HT, HB⟩ := hrel
    by_cases hlt : p < L.length
    · obtain ⟨ad, e, hc0, hc1, hc2⟩ := at_T89 HL.out p (by omega) (by omega)
      cases e
      have hsn := madeL_snoc L p hlt
      have hx : (rd_T89 L p).f0.size ≤ maxLen := by
        refine HN.out _ ?_
        simp [rd_T89, List.getD_eq_getElem?_getD, List.getElem?_eq_getElem hlt]
      generalize rd_T89 L p = x at *
      rw [Int.toNat_natCast] at hc0 hc1 hc2
      have HC : Aside0 (∀ W, Below w.heap.size w W → W.cell? (ad.add (p * 3)) = some (.string x.f0) ∧ W.cell? ⟨(ad.add (p * 3)).block, (ad.add (p * 3)).off + 1, none⟩ = some (.int .i64 x.f1) ∧ W.cell? ⟨(ad.add (p * 3)).block, (ad.add (p * 3)).off + 2, none⟩ = some (.bool x.f2)) := ⟨fun W hW => ⟨pw_cell_below hW hc0, pw_cell_below hW hc1, pw_cell_below hW hc2⟩⟩
      clear hc0 hc1 hc2
      obtain ⟨k0, k1, k2⟩ := HC.out _ HB.out
      have HS := Aside0.mk hsn
      have HG := Aside0.mk (made_good (L.take p))
      clear hsn
      have hbs := HB.out.size
      generalize madeL (L.take p) = l at *
      have hee : (addE l x != addE l x) = false := by simp
      go_wp2_with (first
        | (go_at_call 73; refine (sigadd _ _ _ _ v v2 _ _ x _ HT.out hbs hx).mono ?_; rintro e w3 ⟨n, v3, rfl, ht3, hb3⟩; have HT3 := Aside0.mk ht3; have HB3 := Aside0.mk (Below.trans HB.out hb3); clear ht3 hb3 k0 k1 k2; obtain ⟨k0, k1, k2⟩ := HC.out _ HB3.out)
        | (go_at_call 74; refine (refadd _ _ _ _ v3 v2 _ _ x _ HT3.out HB3.out.size HG.out).mono ?_; rintro e w4 ⟨n2, v4, rfl, ht4, hb4⟩))
      go_roundw
      case rel => exact ⟨p + 1, v3, v4, by go_num, by omega, ⟨by rw [HS.out]; exact ht4⟩, ⟨Below.trans HB3.out hb4⟩⟩
      case measure => simp [intOf]; omega
    · have hT := HT.out
      rw [List.take_of_length_le (by omega)] at hT
      have c0 := cell_of_row wr G 0 _ _ _ hT.sig.blk
      have c1 := cell_of_row wr (G + 1) 0 _ _ _ hT.ref.blk
      obtain ⟨A2, c2, rfl⟩ := Kd.R_slice hT.ref.row
      simp at c0 c1
      have HT2 := Aside0.mk hT
      clear HT hT
      go_wp2
      go_quiet (fail)
      go_wp2
      go_ret2
      have hbn : Below wr.heap.size wr (wr.drewN nq) := pw_below_drewN (Below.refl _ _) _
      have hT := HT2.out.below hbn
      exact ⟨G, _, rfl, hT.sig.sigC, hT.ref.row, pw_below_drewN HB.out _⟩
end Go.Proofs.Ytadjoaipmcbieaa

/-! S6 -/
namespace Go.Proofs.Ytadjoaipmcbieaa
open Go.RowKit Go.Proofs.YtadjoaipmcbieaaW.PrintWords Go.Proofs.YtadjoaipmcbieaaW.PrintLast Go.Proofs.YtadjoaipmcbieaaW.PrintMore A
/-- A block that holds just numbers, and the slice over all of it. -/
theorem ints_own {W : World} {g N base : Nat} {R : List Int} (h : W.heap[g]? = some (.cells (nums .i64 R).toArray 3 (0, 0))) (hN : R.length = N) (hb : base ≤ g) (hm : N ≤ 17592186044416) : Kd.R (Kd.int .i64) 3 W base (fun _ => True) (.slice (some ⟨g, 0, none⟩) N N) R := by
  subst hN
  exact Kd.R_of_own (enc := Value.int .i64) ⟨by simp [encs], .inr ⟨g, R.length, _, rfl, hb, h, Nat.le_refl _, by unfold maxLen; omega, by simp [nums_length], by rw [List.take_of_length_le (by simp [nums_length])]; rfl⟩⟩ (fun _ _ => trivial)
end Go.Proofs.Ytadjoaipmcbieaa

/-! N0 -/
namespace Go.Proofs.Ytadjoaipmcbieaa
open Go.RowKit Go.Proofs.YtadjoaipmcbieaaW.PrintWords Go.Proofs.YtadjoaipmcbieaaW.PrintLast Go.Proofs.YtadjoaipmcbieaaW.PrintMore A
set_option linter.unusedSimpArgs false
/-- The three symbols of awake. -/
def L3 : List S89 := [⟨⟨#[122]⟩, 0, false⟩, ⟨⟨#[115]⟩, 1, false⟩, ⟨⟨#[97, 100, 100]⟩, 2, true⟩]
theorem made3 : madeL L3 = L3 := by rfl
theorem good3 : GoodL L3 := by rw [← made3]; exact made_good _
/-- A new block of numbers reads as the numbers. -/
theorem C_new (w : World) (e : TypeId) (xs : List Int) (h : xs.length ≤ 9223372036854775807) : Kd.C (Kd.int .i64) (w.alloc (.cells (nums .i64 xs).toArray e)) (some ⟨w.heap.size, 0, none⟩) xs.length xs :=
  ⟨rfl, h, fun _ => ⟨_, rfl, fun j p hj => ⟨[.int .i64 p], rfl, rfl, fun i u hu => by
    cases i with
    | zero =>
      simp at hu
      subst hu
      rw [add_plain, show j * (Kd.int .i64).sz + 0 = j from by show j * 1 + 0 = j; omega, cell_of_row _ _ _ _ _ _ (heap_alloc_new w _)]
      simp [nums, hj]
    | succ i => simp at hu⟩⟩⟩
theorem C_newL (w : World) : Kd.C k89 (w.alloc (.cells #[.string ⟨#[122]⟩, .int .i64 0, .bool false, .string ⟨#[115]⟩, .int .i64 1, .bool false, .string ⟨#[97, 100, 100]⟩, .int .i64 2, .bool true] 89)) (some ⟨w.heap.size, 0, none⟩) L3.length L3 := by
  refine ⟨rfl, by decide, fun _ => ⟨_, rfl, fun j p hj => ?_⟩⟩
  refine ⟨[.string p.f0, .int .i64 p.f1, .bool p.f2], rfl, k89_mk _ _, fun i u hu => ?_⟩
  rw [add_plain, cell_of_row _ _ _ _ _ _ (heap_alloc_new w _)]
  have hi : i < 3 := (List.getElem?_eq_some_iff.1 hu).1
  have hj3 : j < 3 := (List.getElem?_eq_some_iff.1 hj).1
  match j, hj3, i, hi with
  | 0, _, 0, _ | 0, _, 1, _ | 0, _, 2, _ | 1, _, 0, _ | 1, _, 1, _ | 1, _, 2, _ | 2, _, 0, _ | 2, _, 1, _ | 2, _, 2, _ =>
    simp [L3] at hj; subst hj; exact hu
end Go.Proofs.Ytadjoaipmcbieaa

/-! L0 -/
namespace Go.Proofs.Ytadjoaipmcbieaa
open Go.RowKit Go.Proofs.YtadjoaipmcbieaaW.PrintWords Go.Proofs.YtadjoaipmcbieaaW.PrintLast Go.Proofs.YtadjoaipmcbieaaW.PrintMore A
set_option linter.unusedSimpArgs false
theorem C_front {w : World} {A : Option Addr} {n : Nat} {t r : List Int} (h : Kd.C (Kd.int .i64) w A n (t ++ r)) : Kd.C (Kd.int .i64) w A t.length t := by
  obtain rfl : (t ++ r).length = n := h.1
  have := Kd.C_take (m := t.length) h (by simp)
  simpa using this
end Go.Proofs.Ytadjoaipmcbieaa

/-! Q1 -/
namespace Go.Proofs.Ytadjoaipmcbieaa
open Go.RowKit Go.Proofs.YtadjoaipmcbieaaW.PrintWords Go.Proofs.YtadjoaipmcbieaaW.PrintLast Go.Proofs.YtadjoaipmcbieaaW.PrintMore A
set_option linter.unusedSimpArgs false
theorem refCheck_any (A : Option Addr) (c : Nat) (l : List S89) (B : Option Addr) (n d : Nat) (t : List Int) (w : World) (hr : Kd.C k89 w A l.length l) (hc : l.length ≤ c) (hl : GoodL l)
    (ht : Kd.C (Kd.int .i64) w B n t) (hd : n ≤ d) :
    Calls Try.prog 29 #[.slice A l.length c, .slice B n d] w fun e w' => e = .returned (.int .i64 (chk l t)) ∧ Drawn0 w w' := by
  obtain rfl : t.length = n := ht.1
  exact ropewalkref02_Check.calls _ A c l B d t _ w hr hc ht hd (rcheck hl t (Nat.lt_succ_self _))
end Go.Proofs.Ytadjoaipmcbieaa

/-! C0 -/
namespace Go.Proofs.Ytadjoaipmcbieaa
end Go.Proofs.Ytadjoaipmcbieaa

/-! C1 -/
namespace Go.Proofs.Ytadjoaipmcbieaa
open Go.RowKit Go.Proofs.YtadjoaipmcbieaaW.PrintWords Go.Proofs.YtadjoaipmcbieaaW.PrintLast Go.Proofs.YtadjoaipmcbieaaW.PrintMore A
/-- An own row of numbers whose block lies in lo .. hi. -/
def Rw (W : World) (lo hi : Nat) (v : Value) (xs : List Int) : Prop := Kd.R (Kd.int .i64) 3 W lo (fun k => lo ≤ k ∧ k < hi) v xs
theorem Rw.mk {W : World} {lo : Nat} {v : Value} {xs : List Int} (h : Kd.R (Kd.int .i64) 3 W lo (fun _ => True) v xs) : Rw W lo W.heap.size v xs := Kd.R_mono (Kd.R_bound h) (fun _ hk => ⟨hk.2.1, hk.2.2.1⟩)
theorem Rw.nil (W : World) (lo hi : Nat) : Rw W lo hi (.slice none 0 0) [] := Kd.R_nil _ _ _ _ _
theorem Rw.below {W W' : World} {lo hi : Nat} {v : Value} {xs : List Int} (h : Rw W lo hi v xs) (hb : Below W.heap.size W W') : Rw W' lo hi v xs := Kd.R_below h hb
theorem Rw.kept {W W' : World} {lo hi : Nat} {v : Value} {xs : List Int} {S : Nat → Prop} (h : Rw W lo hi v xs) (hk : Kept W W' S) (hS : ∀ k, lo ≤ k → k < hi → ¬ S k) : Rw W' lo hi v xs := Kd.R_kept h hk (fun k hk => hS k hk.1 hk.2)
theorem Rw.at_ {W : World} {lo hi g n c : Nat} {xs : List Int} (h : Rw W lo hi (.slice (some ⟨g, 0, none⟩) n c) xs) : lo ≤ g ∧ g < hi := h.1 g rfl
theorem Rw.reads {W : World} {lo hi : Nat} {v : Value} {xs : List Int} (h : Rw W lo hi v xs) : ∃ A c, v = .slice A xs.length c ∧ xs.length ≤ c ∧ Kd.C (Kd.int .i64) W A xs.length xs := Kd.R_reads h
theorem Rw.front {W : World} {lo hi n c : Nat} {A : Option Addr} {t r : List Int} (h : Rw W lo hi (.slice A n c) (t ++ r)) : Kd.C (Kd.int .i64) W A t.length t := by
  have h2 := Kd.R_reads' h
  exact C_front h2.2.2
end Go.Proofs.Ytadjoaipmcbieaa

/-! UU -/
namespace Go.Proofs.Ytadjoaipmcbieaa
open Go.RowKit Go.Proofs.YtadjoaipmcbieaaW.PrintWords Go.Proofs.YtadjoaipmcbieaaW.PrintLast Go.Proofs.YtadjoaipmcbieaaW.PrintMore A
/-- A part: its symbol, its arguments' parts. -/
abbrev Pt := Int × List Int
def kpt : Kd Pt := Kd.pair (Kd.int .i64) (Kd.slice 3 (Kd.int .i64))
/-- The graph at g: parts (none of whose blocks is that of to), and of each what it has become one with. -/
structure Gr (w : World) (base g : Nat) (vp vt : Value) (parts : List Pt) (tos : List Int) : Prop where
  blk : w.heap[g]? = some (.cells #[vp, vt] 143 (0, 0))
  hb : base ≤ g
  p : Kd.R kpt 155 w base (fun k => some k ≠ vt.ownBlock) vp parts
  t : Kd.R (Kd.int .i64) 3 w base (fun _ => True) vt tos
theorem Gr.below {w w' : World} {base g : Nat} {vp vt : Value} {parts : List Pt} {tos : List Int} (h : Gr w base g vp vt parts tos) (hb : Below w.heap.size w w') : Gr w' base g vp vt parts tos :=
  ⟨(hb.block g (blk_lt h.blk)).trans h.blk, h.hb, Kd.R_below h.p hb, Kd.R_below h.t hb⟩
theorem Gr.ne {w : World} {base g : Nat} {vp vt : Value} {parts : List Pt} {tos : List Int} (h : Gr w base g vp vt parts tos) : some g ≠ vt.ownBlock := Kd.R_ne h.t h.blk (by decide)
/-- A number is stored in to. -/
theorem Gr.put {w : World} {base g ga n c : Nat} {vp : Value} {parts : List Pt} {tos : List Int} (h : Gr w base g vp (.slice (some ⟨ga, 0, none⟩) n c) parts tos) (i : Int) (x : Int) :
    Gr (w.setCell ⟨ga, i.toNat, none⟩ (.int .i64 x)) base g vp (.slice (some ⟨ga, 0, none⟩) n c) parts (tos.set i.toNat x) := by
  have hne : g ≠ ga := fun e => h.ne (by rw [e]; rfl)
  exact ⟨(Below.heap_setCell w ⟨ga, i.toNat, none⟩ _ g hne).trans h.blk, h.hb, Kd.R_far h.p (p := ⟨ga, i.toNat, none⟩) (fun k hk e => hk (by rw [e]; rfl)) _, (Kd.R_putg h.t i x).1⟩
end Go.Proofs.Ytadjoaipmcbieaa
namespace Go.Proofs.Ytadjoaipmcbieaa
open Go.Proofs.YtadjoaipmcbieaaW.PrintWords
/-- x leads to the root r in n steps. -/
inductive Root (f : Nat → Nat) : Nat → Nat → Nat → Prop
  | here {r : Nat} (h : f r = r) : Root f 0 r r
  | step {n x r : Nat} (hne : f x ≠ x) (h : Root f n (f x) r) : Root f (n + 1) x r
theorem Root.fix {f : Nat → Nat} {n x r : Nat} (h : Root f n x r) : f r = r := by
  induction h with
  | here h => exact h
  | step _ _ ih => exact ih
theorem Root.det {f : Nat → Nat} {n m x r s : Nat} (h : Root f n x r) (h' : Root f m x s) : n = m ∧ r = s := by
  induction h generalizing m s with
  | here h => cases h' with
    | here _ => exact ⟨rfl, rfl⟩
    | step hne _ => exact absurd h hne
  | step hne _ ih => cases h' with
    | here h => exact absurd h hne
    | step _ h' => obtain ⟨e, e'⟩ := ih h'; exact ⟨by omega, e'⟩
/-- The grandparent in the parent's place: each part keeps its root. -/
theorem Root.halve {f q : Nat → Nat} {x : Nat} (q1 : q x = f (f x)) (q2 : ∀ z, z ≠ x → q z = f z) : ∀ {m y s : Nat}, Root f m y s → ∃ k, k ≤ m ∧ Root q k y s := by
  intro m
  induction m using Nat.strongRecOn with
  | _ m ih =>
    intro y s h
    cases h with
    | here h =>
      refine ⟨0, Nat.le_refl _, .here ?_⟩
      by_cases e : y = x
      · subst e; rw [q1, h, h]
      · rw [q2 _ e, h]
    | @step m _ _ hne h =>
      by_cases e : y = x
      · subst e
        cases h with
        | here h2 =>
          refine ⟨1, by omega, .step (by rw [q1, h2]; exact hne) ?_⟩
          rw [q1, h2]
          exact .here (by rw [q2 _ hne, h2])
        | @step m' _ _ hne2 h2 =>
          obtain ⟨k, hk, hR⟩ := ih m' (by omega) h2
          by_cases e2 : f (f y) = y
          · exfalso
            have h3 : Root f m' y s := by rw [e2] at h2; exact h2
            have := (Root.det (Root.step hne (Root.step hne2 h2)) h3).1
            omega
          · exact ⟨k + 1, by omega, .step (by rw [q1]; exact e2) (by rw [q1]; exact hR)⟩
      · obtain ⟨k, hk, hR⟩ := ih m (by omega) h
        exact ⟨k + 1, by omega, .step (by rw [q2 _ e]; exact hne) (by rw [q2 _ e]; exact hR)⟩
/-- A root is linked to another one. -/
theorem Root.link {f q : Nat → Nat} {c1 c2 : Nat} (h1 : f c1 = c1) (h2 : f c2 = c2) (hne : c1 ≠ c2) (q1 : q c1 = c2) (q2 : ∀ z, z ≠ c1 → q z = f z) : ∀ {n x r : Nat}, Root f n x r → ∃ m, Root q m x (if r = c1 then c2 else r) := by
  intro n x r h
  have hq2 : q c2 = c2 := by rw [q2 _ (Ne.symm hne), h2]
  induction h with
  | @here r h =>
    by_cases e : r = c1
    · subst e
      rw [if_pos rfl]
      exact ⟨1, .step (by rw [q1]; exact Ne.symm hne) (by rw [q1]; exact .here hq2)⟩
    · rw [if_neg e]; exact ⟨0, .here (by rw [q2 _ e, h])⟩
  | @step n x r hx _ ih =>
    obtain ⟨m, hm⟩ := ih
    have e : x ≠ c1 := fun e => hx (by rw [e, h1])
    exact ⟨m + 1, .step (by rw [q2 _ e]; exact hx) (by rw [q2 _ e]; exact hm)⟩
/-- What a part has become one with, by its number. -/
def toF (xs : List Int) (x : Nat) : Nat := (rd xs x).toNat
/-- Each part leads to its root. -/
def RootOk (xs : List Int) (R : Nat → Nat) : Prop := ∀ x, x < xs.length → 0 ≤ rd xs x ∧ rd xs x < xs.length ∧ ∃ n, Root (toF xs) n x (R x)
theorem toF_set {xs : List Int} {a : Nat} (ha : a < xs.length) (v : Nat) (z : Nat) : toF (xs.set a v) z = if a = z then v else toF xs z := by
  unfold toF; rw [rd_set _ _ _ _ ha]; split <;> simp
theorem RootOk.fix {xs : List Int} {R : Nat → Nat} (h : RootOk xs R) {x : Nat} (hx : x < xs.length) : toF xs (R x) = R x := by
  obtain ⟨_, _, n, hr⟩ := h x hx; exact hr.fix
theorem RootOk.halve {xs : List Int} {R : Nat → Nat} (h : RootOk xs R) {x : Nat} (hx : x < xs.length) {v : Nat} (hv : v = toF xs (toF xs x)) : RootOk (xs.set x v) R := by
  have hl : ∀ z, z < xs.length → toF xs z < xs.length := fun z hz => by have := h z hz; unfold toF; omega
  intro z hz
  rw [List.length_set] at hz ⊢
  have h1 := h z hz
  obtain ⟨m, hm⟩ := h1.2.2
  obtain ⟨k, _, hk⟩ := Root.halve (q := toF (xs.set x v)) (x := x) (by rw [toF_set hx, if_pos rfl, hv]) (fun y hy => by rw [toF_set hx, if_neg (Ne.symm hy)]) hm
  refine ⟨?_, ?_, k, hk⟩
  · rw [rd_set _ _ _ _ hx]; split <;> omega
  · rw [rd_set _ _ _ _ hx]; split
    · have := hl _ (hl x hx); omega
    · exact h1.2.1
theorem RootOk.link {xs : List Int} {R : Nat → Nat} (h : RootOk xs R) {c1 c2 : Nat} (l1 : c1 < xs.length) (l2 : c2 < xs.length) (e1 : R c1 = c1) (e2 : R c2 = c2) (hne : c1 ≠ c2) : RootOk (xs.set c1 c2) (fun z => if R z = c1 then c2 else R z) := by
  have f1 : toF xs c1 = c1 := by have := h.fix l1; rwa [e1] at this
  have f2 : toF xs c2 = c2 := by have := h.fix l2; rwa [e2] at this
  intro z hz
  rw [List.length_set] at hz ⊢
  have h1 := h z hz
  obtain ⟨m, hm⟩ := h1.2.2
  refine ⟨?_, ?_, Root.link (q := toF (xs.set c1 c2)) f1 f2 hne (by rw [toF_set l1, if_pos rfl]) (fun y hy => by rw [toF_set l1, if_neg (Ne.symm hy)]) hm⟩
  · rw [rd_set _ _ _ _ l1]; split <;> omega
  · rw [rd_set _ _ _ _ l1]; split <;> omega
end Go.Proofs.Ytadjoaipmcbieaa
namespace Go.Proofs.Ytadjoaipmcbieaa
open Go.Proofs.YtadjoaipmcbieaaW.PrintWords
/-- Part x. -/
def ptA (parts : List Pt) (x : Nat) : Pt := parts.getD x (0, [])
/-- Parts as a net. -/
def netP (parts : List Pt) (tm : Nat → List Int) : Net := ⟨parts.length, fun x => (ptA parts x).1, fun x => (ptA parts x).2.map Int.toNat, tm⟩
def repP (parts : List Pt) (c : Nat) : Int := if (ptA parts c).1 < 0 then -1 else c
def zipA (a c : List Int) (k : Nat) : List (Nat × Nat) := (List.range k).map fun j : Nat => ((rd a (j : Int)).toNat, (rd c (j : Int)).toNat)
theorem zipA_succ (a c : List Int) (k : Nat) : zipA a c (k + 1) = zipA a c k ++ [((rd a k).toNat, (rd c k).toNat)] := by simp [zipA, List.range_succ]
theorem map_getD (a : List Int) (j : Nat) : (a.map Int.toNat).getD j 0 = (rd a j).toNat := by
  simp only [rd, Int.toNat_natCast, List.getD_eq_getElem?_getD, List.getElem?_map]
  cases a[j]? <;> rfl
section
variable {b : Int → Nat} {parts : List Pt} {tm : Nat → List Int} {ra rb x y : Nat} {R : Nat → Nat} {ps : List (Nat × Nat)}
theorem snoc_in {ps : List (Nat × Nat)} {p q : Nat × Nat} (h : p ∈ ps ++ [q]) : p ∈ ps ∨ p = q := by simpa using h
theorem step_same (h : Uni b (netP parts tm) ra rb R (repP parts) (ps ++ [(x, y)])) (e : R x = R y) : Uni b (netP parts tm) ra rb R (repP parts) ps :=
  h.drop (fun p hp => (snoc_in hp).elim .inl (fun h => .inr (by rw [h]; exact e))) (fun _ hp => List.mem_append_left _ hp)
theorem step_lt (h : Uni b (netP parts tm) ra rb R (repP parts) (ps ++ [(x, y)])) : x < parts.length ∧ y < parts.length := h.pr (x, y) (by simp)
theorem step_var1 (h : Uni b (netP parts tm) ra rb R (repP parts) (ps ++ [(x, y)])) (hne : R x ≠ R y) (hv : (ptA parts (R x)).1 < 0) :
    Uni b (netP parts tm) ra rb (fun z => if R z = R x then R y else R z) (repP parts) ps := by
  have hr : repP parts (R x) = -1 := if_pos hv
  refine h.merge (x := x) (y := y) (c1 := R x) (c2 := R y) (by simp) (.inl ⟨rfl, rfl⟩) hne (fun _ _ => rfl) (fun _ _ _ => rfl) ?_ (fun h1 => by omega) (fun p hp => snoc_in hp) (fun p hp => .inl (by simp [hp]))
  by_cases e : 0 ≤ repP parts (R y)
  · exact .inl ⟨rfl, e⟩
  · refine .inr ⟨by omega, ?_⟩
    rw [hr]; unfold repP at e ⊢; split <;> simp_all
theorem step_var2 (h : Uni b (netP parts tm) ra rb R (repP parts) (ps ++ [(x, y)])) (hne : R x ≠ R y) (hv : (ptA parts (R y)).1 < 0) :
    Uni b (netP parts tm) ra rb (fun z => if R z = R y then R x else R z) (repP parts) ps := by
  have hr : repP parts (R y) = -1 := if_pos hv
  refine h.merge (x := x) (y := y) (c1 := R y) (c2 := R x) (by simp) (.inr ⟨rfl, rfl⟩) (Ne.symm hne) (fun _ _ => rfl) (fun _ _ _ => rfl) ?_ (fun h1 => by omega) (fun p hp => snoc_in hp) (fun p hp => .inl (by simp [hp]))
  by_cases e : 0 ≤ repP parts (R x)
  · exact .inl ⟨rfl, e⟩
  · refine .inr ⟨by omega, ?_⟩
    rw [hr]; unfold repP at e ⊢; split <;> simp_all
theorem repP_pos {c : Nat} (h : 0 ≤ (ptA parts c).1) : repP parts c = c := if_neg (by omega)
theorem step_clash (h : Uni b (netP parts tm) ra rb R (repP parts) (ps ++ [(x, y)])) (h1 : 0 ≤ (ptA parts (R x)).1) (h2 : 0 ≤ (ptA parts (R y)).1) (hne : (ptA parts (R x)).1 ≠ (ptA parts (R y)).1) :
    ∀ s, Gd b s → sb s (tm ra) ≠ sb s (tm rb) := by
  refine h.clash (x := x) (y := y) (by simp) (by rw [repP_pos h1]; omega) (by rw [repP_pos h2]; omega) ?_
  rw [repP_pos h1, repP_pos h2, Int.toNat_natCast, Int.toNat_natCast]
  exact hne
theorem step_args (h : Uni b (netP parts tm) ra rb R (repP parts) (ps ++ [(x, y)])) (h1 : 0 ≤ (ptA parts (R x)).1) (h2 : 0 ≤ (ptA parts (R y)).1) (he : (ptA parts (R x)).1 = (ptA parts (R y)).1) :
    (ptA parts (R x)).2.length = (ptA parts (R y)).2.length := by
  obtain ⟨lx, ly⟩ := step_lt h
  have e1 : ((ptA parts (R x)).2.map Int.toNat).length = b (ptA parts (R x)).1 := (h.ok.arg _ (h.lt _ lx) h1).1
  have e2 : ((ptA parts (R y)).2.map Int.toNat).length = b (ptA parts (R y)).1 := (h.ok.arg _ (h.lt _ ly) h2).1
  rw [List.length_map] at e1 e2
  rw [e1, e2, he]
theorem step_sym (h : Uni b (netP parts tm) ra rb R (repP parts) (ps ++ [(x, y)])) (hne : R x ≠ R y) (h1 : 0 ≤ (ptA parts (R x)).1) (h2 : 0 ≤ (ptA parts (R y)).1) (he : (ptA parts (R x)).1 = (ptA parts (R y)).1) :
    Uni b (netP parts tm) ra rb (fun z => if R z = R x then R y else R z) (repP parts) (ps ++ zipA (ptA parts (R x)).2 (ptA parts (R y)).2 (ptA parts (R x)).2.length) := by
  have r1 := repP_pos h1
  have r2 := repP_pos h2
  refine h.merge (x := x) (y := y) (c1 := R x) (c2 := R y) (by simp) (.inl ⟨rfl, rfl⟩) hne (fun _ _ => rfl) (fun _ _ _ => rfl) (.inl ⟨rfl, by rw [r2]; omega⟩) (fun _ _ => ?_) (fun p hp => (snoc_in hp).imp (fun h => List.mem_append_left _ h) id) (fun p hp => ?_)
  · rw [r1, r2, Int.toNat_natCast, Int.toNat_natCast]
    refine ⟨he, fun i hi => .inl (List.mem_append_right _ ?_)⟩
    have hi' : i < (ptA parts (R x)).2.length := by simpa [netP] using hi
    refine List.mem_map.2 ⟨i, List.mem_range.2 hi', ?_⟩
    simp only [netP]; rw [map_getD, map_getD]
  · rcases List.mem_append.1 hp with hp | hp
    · exact .inl (by simp [hp])
    · obtain ⟨i, hi, rfl⟩ := List.mem_map.1 hp
      rw [r1, r2, Int.toNat_natCast, Int.toNat_natCast]
      refine .inr ⟨by omega, by omega, i, by simpa [netP] using hi, .inl ?_⟩
      simp only [netP]; rw [map_getD, map_getD]
theorem step_nr (h : Uni b (netP parts tm) ra rb R (repP parts) (ps ++ [(x, y)])) (hne : R x ≠ R y) : nr (fun z => if R z = R x then R y else R z) parts.length < nr R parts.length ∧ nr (fun z => if R z = R y then R x else R z) parts.length < nr R parts.length := by
  obtain ⟨lx, ly⟩ := step_lt h
  exact ⟨nr_merge (h.lt _ lx) (h.idem _ lx) (h.idem _ ly) hne (fun _ _ => rfl), nr_merge (h.lt _ ly) (h.idem _ ly) (h.idem _ lx) (Ne.symm hne) (fun _ _ => rfl)⟩
end
end Go.Proofs.Ytadjoaipmcbieaa
namespace Go.Proofs.Ytadjoaipmcbieaa
open Go.RowKit Go.Proofs.YtadjoaipmcbieaaW.PrintWords Go.Proofs.YtadjoaipmcbieaaW.PrintLast Go.Proofs.YtadjoaipmcbieaaW.PrintMore A
/-- Where finding stands: the graph is as it was but for to, in which each part still leads to its root. -/
structure FSt (w0 W : World) (base g : Nat) (vp : Value) (ga n c : Nat) (parts : List Pt) (R : Nat → Nat) (ys : List Int) : Prop where
  g : Gr W base g vp (.slice (some ⟨ga, 0, none⟩) n c) parts ys
  len : ys.length = n
  root : RootOk ys R
  b : Below base w0 W
  k : Kept w0 W (fun k => k = ga)
theorem FSt.put {w0 W : World} {base g : Nat} {vp : Value} {ga n c : Nat} {parts : List Pt} {R : Nat → Nat} {ys : List Int} (h : FSt w0 W base g vp ga n c parts R ys) {z v : Nat} (hz : z < n) (hv : v = toF ys (toF ys z)) :
    FSt w0 (W.setCell ⟨ga, z, none⟩ (.int .i64 v)) base g vp ga n c parts R (ys.set z v) := by
  have hgb : base ≤ ga := Kd.R_base h.g.t ga rfl
  exact ⟨h.g.put (z : Int) v, by rw [List.length_set]; exact h.len, h.root.halve (by rw [h.len]; exact hz) hv, h.b.setCell (p := ⟨ga, z, none⟩) hgb _, h.k.setCell (p := ⟨ga, z, none⟩) (.inl rfl) _⟩
theorem FSt.below {w0 W W' : World} {base g : Nat} {vp : Value} {ga n c : Nat} {parts : List Pt} {R : Nat → Nat} {ys : List Int} (h : FSt w0 W base g vp ga n c parts R ys) (hb : Below W.heap.size W W') : FSt w0 W' base g vp ga n c parts R ys :=
  ⟨h.g.below hb, h.len, h.root, h.b.trans (hb.mono (by have := blk_lt h.g.blk; have := h.g.hb; omega)), h.k.below hb⟩
theorem FSt.cells {w0 W : World} {base g : Nat} {vp : Value} {ga n c : Nat} {parts : List Pt} {R : Nat → Nat} {ys : List Int} (h : FSt w0 W base g vp ga n c parts R ys) :
    W.cell? ⟨g, 0, none⟩ = some vp ∧ W.cell? ⟨g, 1, none⟩ = some (.slice (some ⟨ga, 0, none⟩) n c) := by
  have c0 := cell_of_row W g 0 _ _ _ h.g.blk
  have c1 := cell_of_row W g 1 _ _ _ h.g.blk
  exact ⟨c0, c1⟩
theorem FSt.cell {w0 W : World} {base g : Nat} {vp : Value} {ga n c : Nat} {parts : List Pt} {R : Nat → Nat} {ys : List Int} (h : FSt w0 W base g vp ga n c parts R ys) {z y : Nat} (hz : z < n) (hy : y = toF ys z) :
    W.cell? ⟨ga, z, none⟩ = some (.int .i64 y) ∧ W.frozen? ⟨ga, z, none⟩ = false := by
  obtain ⟨hx1, hf1⟩ := Kd.R_celln 0 h.g.t (z : Int) (by omega) (by omega)
  rw [Int.toNat_natCast] at hx1 hf1
  have hok := (h.root z (by rw [h.len]; exact hz)).1
  have e : rdOf (0 : Int) ys (z : Int) = y := by
    have h1 : rd ys z = (y : Int) := by rw [hy]; unfold toF; omega
    exact h1
  rw [e] at hx1
  exact ⟨hx1, hf1⟩
set_option maxRecDepth 100000 in
set_option maxHeartbeats 1000000 in
theorem find_st (base g ga n c : Nat) (vp : Value) (parts : List Pt) (R : Nat → Nat) (xs : List Int) (x : Nat) (w0 w : World) (h : FSt w0 w base g vp ga n c parts R xs) (hx : x < n) :
    Calls Try.prog 123 #[.pointer (some ⟨g, 0, none⟩), .int .i64 x] w fun e w' => ∃ ys, e = .returned (.int .i64 (R x)) ∧ FSt w0 w' base g vp ga n c parts R ys := by
  have HF0 := Aside0.mk h
  obtain ⟨n0, hroot⟩ := (h.root x (by rw [h.len]; exact hx)).2.2
  have HR0 := Aside0.mk hroot
  clear h hroot
  generalize hr : R x = r at *
  clear hr
  go_enter Try.func123, Try.ntmps123
  go_wp2_with fail
  go_loopg [1] n0 (fun m a wr => ∃ (z : Nat) (ys : List Int), a = .int .i64 z ∧ z < n ∧ Aside0 (∃ k, k ≤ m ∧ Root (toF ys) k z r) ∧ Aside0 (FSt w0 wr base g vp ga n c parts R ys))
  case atStart => exact ⟨x, xs, rfl, hx, ⟨n0, Nat.le_refl _, HR0.out⟩, HF0⟩
  case round =>
    clear HF0 HR0
    obtain ⟨z, ys, rfl, hz, HRT, HF⟩ := hrel
    obtain ⟨k, hk, HR⟩ := HRT.out
    have HR := Aside0.mk HR
    clear HRT
    obtain ⟨c0, c1⟩ := HF.out.cells
    by_cases hr : toF ys z = z
    · obtain ⟨d1, _⟩ := HF.out.cell hz (y := z) hr.symm
      obtain rfl : r = z := ((Root.det HR.out (.here hr)).2)
      clear hr
      go_wp2_with fail
      go_ret
      exact ⟨ys, rfl, HF.out⟩
    · obtain ⟨y, hy⟩ : ∃ y, y = toF ys z := ⟨_, rfl⟩
      obtain ⟨v, hv⟩ : ∃ v, v = toF ys (toF ys z) := ⟨_, rfl⟩
      have hyl : y < n := by have := (HF.out.root z (by rw [HF.out.len]; exact hz)).2.1; rw [HF.out.len] at this; rw [hy]; unfold toF; omega
      obtain ⟨d1, f1⟩ := HF.out.cell hz hy
      obtain ⟨d2, _⟩ := HF.out.cell hyl (y := v) (by rw [hv, ← hy])
      have e1 : ((y : Int) != (z : Int)) = true := bne_iff_ne.2 (by omega)
      have HF2 := Aside0.mk (HF.out.put hz hv)
      obtain ⟨j0, j1⟩ := HF2.out.cells
      have hval : toF (ys.set z v) z = v := by rw [toF_set (by rw [HF.out.len]; exact hz), if_pos rfl]
      obtain ⟨j2, _⟩ := HF2.out.cell hz hval.symm
      have HM : Aside0 (∃ k', k' + 1 ≤ k ∧ Root (toF (ys.set z v)) k' v r) := by
        cases HR.out with
        | here h => exact absurd h hr
        | @step m _ _ hne h2 =>
          have hq : ∀ {m' y' s' : Nat}, Root (toF ys) m' y' s' → ∃ k, k ≤ m' ∧ Root (toF (ys.set z v)) k y' s' := Root.halve (q := toF (ys.set z v)) (x := z) (by rw [hval, hv]) (fun u hu => by rw [toF_set (by rw [HF.out.len]; exact hz), if_neg (Ne.symm hu)])
          cases h2 with
          | here h3 => 
            obtain ⟨k', hk', hR'⟩ := hq (Root.here h3)
            exact ⟨k', by omega, Eq.mpr (congrArg (fun q => Root (toF (ys.set z v)) k' q _) (hv.trans h3)) hR'⟩
          | step _ h3 =>
            obtain ⟨k', hk', hR'⟩ := hq h3
            exact ⟨k', by omega, Eq.mpr (congrArg (fun q => Root (toF (ys.set z v)) k' q _) hv) hR'⟩
      have hvl : v < n := by have := (HF.out.root y (by rw [HF.out.len]; exact hyl)).2.1; rw [HF.out.len] at this; rw [hv, ← hy]; unfold toF; omega
      clear hr hy hv hval HR HF
      go_wp2_with fail
      go_still_tail 19, (by kernel_rfl)
      change wpList _ _ _ _ _ wr.drew
      replace d1 : wr.drew.cell? ⟨ga, z, none⟩ = some (.int .i64 y) := d1
      replace f1 : wr.drew.frozen? ⟨ga, z, none⟩ = false := f1
      clear d2 c0 c1
      go_wp2_with fail
      obtain ⟨k', hk', HR'⟩ := HM.out
      go_roundg k'
      case measure => omega
      case rel => exact ⟨v, _, rfl, hvl, ⟨k', Nat.le_refl _, HR'⟩, ⟨HF2.out.below (below_drew (Below.refl _ _))⟩⟩
end Go.Proofs.Ytadjoaipmcbieaa

/-! U4 -/
namespace Go.Proofs.Ytadjoaipmcbieaa
open Go.RowKit Go.Proofs.YtadjoaipmcbieaaW.PrintWords Go.Proofs.YtadjoaipmcbieaaW.PrintLast Go.Proofs.YtadjoaipmcbieaaW.PrintMore A
def kpp : Kd (Int × Int) := Kd.pair (Kd.int .i64) (Kd.int .i64)
def toPP (ps : List (Nat × Nat)) : List (Int × Int) := ps.map fun p => ((p.1 : Int), (p.2 : Int))
theorem info158 : (Try.prog.info? 157).map (fun i => (i.zero, i.size, i.bytes)) = some (some (.agg #[.int .i64 0, .int .i64 0]), 2, 16) := by kernel_rfl
theorem kpp_M (W : World) (base : Nat) (ok : Nat → Prop) (x : Int × Int) : kpp.M W base ok x [.int .i64 x.1, .int .i64 x.2] := ⟨[_], [_], rfl, rfl, rfl⟩
theorem kpp_K {W : World} {x : Int × Int} {c : List Value} (h : kpp.K W x c) : c = [.int .i64 x.1, .int .i64 x.2] := by
  obtain ⟨c0, c1, rfl, h0, h1⟩ := h
  rw [show c0 = [_] from h0, show c1 = [_] from h1]; rfl
/-- The last pair's cells. -/
theorem last_pair {w : World} {base gp c n : Nat} {ok : Nat → Prop} {ps : List (Nat × Nat)} {x y : Nat} (h : Kd.R kpp 157 w base ok (.slice (some ⟨gp, 0, none⟩) n c) (toPP (ps ++ [(x, y)]))) :
    w.cell? ⟨gp, ps.length * 2, none⟩ = some (.int .i64 x) ∧ w.cell? ⟨gp, ps.length * 2 + 1, none⟩ = some (.int .i64 y) := by
  have hn : n = ps.length + 1 := by have := (Kd.R_reads' h).1; simpa [toPP] using this
  obtain ⟨cs, hl, hm, hc, _⟩ := Kd.R_elem h (0, 0) (ps.length : Int) (by omega) (by omega)
  have e : cs = [.int .i64 x, .int .i64 y] := by
    have := kpp_K (kpp.K_of_M hm)
    simpa [toPP] using this
  subst e
  rw [Int.toNat_natCast] at hc
  exact ⟨hc 0 _ rfl, hc 1 _ rfl⟩
theorem pairs_new (w : World) (x y : Nat) : Kd.R kpp 157 (w.alloc (.cells #[.int .i64 x, .int .i64 y] 157)) w.heap.size (fun _ => True) (.slice (some ⟨w.heap.size, 0, none⟩) 1 1) (toPP [(x, y)]) := by
  refine ⟨fun _ _ => trivial, [.int .i64 x, .int .i64 y], ?_, rfl, fun j p hj => ?_⟩
  · have h2 := World.ownsRow_lit (base := w.heap.size) (e := 157) (size := kpp.sz) w #[.int .i64 x, .int .i64 y] 1 (Nat.le_refl _) (by decide) rfl
    exact h2
  · cases j with
    | zero => simp [toPP] at hj; subst hj; exact kpp_M _ _ _ _
    | succ j => simp [toPP] at hj
/-- Where the two findings of a round stand. -/
structure RS (w0 W : World) (base g : Nat) (vp : Value) (ga n c : Nat) (parts : List Pt) (R : Nat → Nat) (v : Value) (ps : List (Nat × Nat)) : Prop where
  f : ∃ ys, FSt w0 W base g vp ga n c parts R ys
  v : Kd.R kpp 157 W w0.heap.size (fun _ => True) v (toPP ps)
theorem RS.below {w0 W W' : World} {base g : Nat} {vp : Value} {ga n c : Nat} {parts : List Pt} {R : Nat → Nat} {v : Value} {ps : List (Nat × Nat)} (h : RS w0 W base g vp ga n c parts R v ps) (hb : Below W.heap.size W W') : RS w0 W' base g vp ga n c parts R v ps := by
  obtain ⟨⟨ys, h⟩, hv⟩ := h
  exact ⟨⟨ys, h.below hb⟩, Kd.R_below hv hb⟩
theorem find_rs (base g ga n c : Nat) (vp : Value) (parts : List Pt) (R : Nat → Nat) (x p q gp m cp : Nat) (ps : List (Nat × Nat)) (w0 w : World) (h : RS w0 w base g vp ga n c parts R (.slice (some ⟨gp, 0, none⟩) m cp) (ps ++ [(p, q)])) (hx : x < n) :
    Calls Try.prog 123 #[.pointer (some ⟨g, 0, none⟩), .int .i64 x] w fun e w' => e = .returned (.int .i64 (R x)) ∧ RS w0 w' base g vp ga n c parts R (.slice (some ⟨gp, 0, none⟩) m cp) (ps ++ [(p, q)]) ∧
      w'.cell? ⟨gp, ps.length * 2, none⟩ = some (.int .i64 p) ∧ w'.cell? ⟨gp, ps.length * 2 + 1, none⟩ = some (.int .i64 q) := by
  obtain ⟨⟨ys, hF⟩, hV⟩ := h
  refine (find_st base g ga n c vp parts R ys x w w ⟨hF.g, hF.len, hF.root, Below.refl _ _, Kept.refl _ _⟩ hx).mono ?_
  rintro e w' ⟨ys', he, hF'⟩
  obtain ⟨g', c', e', _, _, cells, hcl⟩ := Kd.R_form hF.g.t (by rw [hF.len]; omega)
  cases e'
  have hV' : Kd.R kpp 157 w' w0.heap.size (fun _ => True) (.slice (some ⟨gp, 0, none⟩) m cp) (toPP (ps ++ [(p, q)])) := Kd.R_mono (Kd.R_kept (Kd.R_types hV hcl (by decide)) hF'.k (fun k hk e => hk.2 e)) (fun _ _ => trivial)
  exact ⟨he, ⟨⟨ys', hF'.g, hF'.len, hF'.root, hF.b.trans hF'.b, hF.k.then_ hF'.k (fun k hk => .inl hk)⟩, hV'⟩, last_pair hV'⟩
theorem kpt_K {W : World} {base : Nat} {ok : Nat → Prop} {p : Pt} {cs : List Value} (h : kpt.M W base ok p cs) : ∃ A c, cs = [.int .i64 p.1, .slice A p.2.length c] ∧ Kd.R (Kd.int .i64) 3 W base ok (.slice A p.2.length c) p.2 := by
  obtain ⟨c0, c1, rfl, h0, ⟨v, rfl, h1⟩⟩ := h
  obtain ⟨A, c, rfl⟩ := Kd.R_slice h1
  exact ⟨A, c, by rw [show c0 = [_] from h0]; rfl, h1⟩
/-- Part x's cells. -/
theorem Gr.part {w : World} {base g gq m cq : Nat} {vt : Value} {parts : List Pt} {tos : List Int} (h : Gr w base g (.slice (some ⟨gq, 0, none⟩) m cq) vt parts tos) {x : Nat} (hx : x < m) :
    ∃ A c, w.cell? ⟨gq, x * 2, none⟩ = some (.int .i64 (ptA parts x).1) ∧ w.cell? ⟨gq, x * 2 + 1, none⟩ = some (.slice A (ptA parts x).2.length c) ∧ Kd.R (Kd.int .i64) 3 w base (fun k => some k ≠ vt.ownBlock) (.slice A (ptA parts x).2.length c) (ptA parts x).2 := by
  obtain ⟨cs, hl, hm, hc, _⟩ := Kd.R_elem h.p (0, []) (x : Int) (by omega) (by omega)
  rw [Int.toNat_natCast] at hm hc
  obtain ⟨A, c, rfl, hR⟩ := kpt_K hm
  exact ⟨A, c, hc 0 _ rfl, hc 1 _ rfl, Kd.R_mono hR (fun _ hk => hk.1)⟩
theorem two_new (w : World) (o1 o2 : Obj) : ((w.alloc o1).alloc o2).heap[w.heap.size]? = some o1 ∧ ((w.alloc o1).alloc o2).heap[w.heap.size + 1]? = some o2 := by
  refine ⟨(Below.heap_alloc _ _ _ (by simp)).trans (heap_alloc_new w o1), ?_⟩
  have := heap_alloc_new (w.alloc o1) o2
  simpa using this
theorem FSt.toBlk {w0 W : World} {base g : Nat} {vp : Value} {ga n c : Nat} {parts : List Pt} {R : Nat → Nat} {ys : List Int} (h : FSt w0 W base g vp ga n c parts R ys) (hn : 0 < n) : base ≤ ga ∧ ∃ cells, W.heap[ga]? = some (.cells cells 3 (0, 0)) := by
  obtain ⟨g', c', e', h1, _, cells, hcl⟩ := Kd.R_form h.g.t (by rw [h.len]; exact hn)
  cases e'
  exact ⟨h1, cells, hcl⟩
/-- A root is linked to another one. -/
theorem FSt.link {w0 W : World} {base g : Nat} {vp : Value} {ga n c : Nat} {parts : List Pt} {R : Nat → Nat} {ys : List Int} (h : FSt w0 W base g vp ga n c parts R ys) {c1 c2 : Nat} (l1 : c1 < n) (l2 : c2 < n) (e1 : R c1 = c1) (e2 : R c2 = c2) (hne : c1 ≠ c2) :
    FSt w0 (W.setCell ⟨ga, c1, none⟩ (.int .i64 c2)) base g vp ga n c parts (fun z => if R z = c1 then c2 else R z) (ys.set c1 c2) := by
  have hgb := (h.toBlk (by omega)).1
  exact ⟨h.g.put (c1 : Int) c2, by rw [List.length_set]; exact h.len, h.root.link (by rw [h.len]; exact l1) (by rw [h.len]; exact l2) e1 e2 hne, h.b.setCell (p := ⟨ga, c1, none⟩) hgb _, h.k.setCell (p := ⟨ga, c1, none⟩) (.inl rfl) _⟩
theorem pairs_far {w0 W : World} {base g : Nat} {vp : Value} {ga n c : Nat} {parts : List Pt} {R : Nat → Nat} {ys : List Int} (h : FSt w0 W base g vp ga n c parts R ys) (hn : 0 < n) {b0 : Nat} {v : Value} {l : List (Int × Int)} (hV : Kd.R kpp 157 W b0 (fun _ => True) v l) (i : Nat) (u : Value) :
    Kd.R kpp 157 (W.setCell ⟨ga, i, none⟩ u) b0 (fun _ => True) v l := by
  obtain ⟨_, cells, hcl⟩ := h.toBlk hn
  exact Kd.R_set hV hcl (by decide) i u
theorem FSt.freeAt {w0 W : World} {base g : Nat} {vp : Value} {ga n c : Nat} {parts : List Pt} {R : Nat → Nat} {ys : List Int} (h : FSt w0 W base g vp ga n c parts R ys) {z : Nat} (hz : z < n) : ∃ v, W.cell? ⟨ga, z, none⟩ = some v ∧ W.frozen? ⟨ga, z, none⟩ = false := by
  obtain ⟨h1, h2⟩ := h.cell hz rfl
  exact ⟨_, h1, h2⟩
theorem rd_mem {xs : List Int} {k : Nat} (h : k < xs.length) : rd xs k ∈ xs := by
  simp only [rd, Int.toNat_natCast]; rw [List.getD_eq_getElem?_getD, List.getElem?_eq_getElem h]; exact List.getElem_mem h
/-- Where the arguments of two parts are paired. -/
structure InSt (w0 W : World) (base g : Nat) (vp : Value) (ga n c : Nat) (parts : List Pt) (R : Nat → Nat) (ys : List Int) (v : Value) (ps : List (Nat × Nat)) (bp bq : Nat) (sx sy : Int) (ax ay : List Int) (Ax Ay : Option Addr) (cx cy : Nat) : Prop where
  f : FSt w0 W base g vp ga n c parts R ys
  v : Kd.R kpp 157 W w0.heap.size (fun _ => True) v (toPP ps)
  b1 : W.heap[bp]? = some (.cells #[.int .i64 sx, .slice Ax ax.length cx] 155 (0, 0))
  b2 : W.heap[bq]? = some (.cells #[.int .i64 sy, .slice Ay ay.length cy] 155 (0, 0))
  px : Kd.R (Kd.int .i64) 3 W base (fun k => k ≠ ga) (.slice Ax ax.length cx) ax
  py : Kd.R (Kd.int .i64) 3 W base (fun k => k ≠ ga) (.slice Ay ay.length cy) ay
theorem FSt.over {w0 W w1 : World} {base g : Nat} {vp : Value} {ga n c : Nat} {parts : List Pt} {R : Nat → Nat} {ys : List Int} (h : FSt w0 W base g vp ga n c parts R ys) (hb : base ≤ w0.heap.size) {v : Value} {l : List (Int × Int)}
    (hV : Kd.R kpp 157 W w0.heap.size (fun _ => True) v l) (hg : W.grownBy w1 v.ownBlock) : FSt w0 w1 base g vp ga n c parts R ys :=
  ⟨⟨blk_grown h.g.blk hg (Kd.R_ne hV h.g.blk (by decide)), h.g.hb, Kd.R_over h.g.p hV (by decide) hg, Kd.R_over h.g.t hV (by decide) hg⟩, h.len, h.root,
   pw_below_grown h.b _ (Nat.le_trans hb h.k.1) hg (fun k hk => Nat.le_trans hb (Kd.R_base hV k hk)), Kept.of_grown hg h.k (fun k hk => .inr (Kd.R_base hV k hk))⟩
theorem InSt.app {w0 W w1 : World} {base g : Nat} {vp : Value} {ga n c : Nat} {parts : List Pt} {R : Nat → Nat} {ys : List Int} {v v1 : Value} {ps : List (Nat × Nat)} {bp bq : Nat} {sx sy : Int} {ax ay : List Int} {Ax Ay : Option Addr} {cx cy : Nat}
    (h : InSt w0 W base g vp ga n c parts R ys v ps bp bq sx sy ax ay Ax Ay cx cy) (hb : base ≤ w0.heap.size) {p q : Int} (hp : 0 ≤ p) (hq : 0 ≤ q) (ho : Kd.R kpp 157 w1 w0.heap.size (fun _ => True) v1 (toPP ps ++ [(p, q)])) (hg : W.grownBy w1 v.ownBlock) :
    InSt w0 w1 base g vp ga n c parts R ys v1 (ps ++ [(p.toNat, q.toNat)]) bp bq sx sy ax ay Ax Ay cx cy := by
  refine ⟨h.f.over hb h.v hg, ?_, blk_grown h.b1 hg (Kd.R_ne h.v h.b1 (by decide)), blk_grown h.b2 hg (Kd.R_ne h.v h.b2 (by decide)), Kd.R_over h.px h.v (by decide) hg, Kd.R_over h.py h.v (by decide) hg⟩
  have e : toPP (ps ++ [(p.toNat, q.toNat)]) = toPP ps ++ [(p, q)] := by simp [toPP]; omega
  rw [e]; exact ho
theorem InSt.below {w0 W w1 : World} {base g : Nat} {vp : Value} {ga n c : Nat} {parts : List Pt} {R : Nat → Nat} {ys : List Int} {v : Value} {ps : List (Nat × Nat)} {bp bq : Nat} {sx sy : Int} {ax ay : List Int} {Ax Ay : Option Addr} {cx cy : Nat}
    (h : InSt w0 W base g vp ga n c parts R ys v ps bp bq sx sy ax ay Ax Ay cx cy) (hb : Below W.heap.size W w1) : InSt w0 w1 base g vp ga n c parts R ys v ps bp bq sx sy ax ay Ax Ay cx cy :=
  ⟨h.f.below hb, Kd.R_below h.v hb, (hb.block _ (blk_lt h.b1)).trans h.b1, (hb.block _ (blk_lt h.b2)).trans h.b2, Kd.R_below h.px hb, Kd.R_below h.py hb⟩
theorem InSt.boxes {w0 W : World} {base g : Nat} {vp : Value} {ga n c : Nat} {parts : List Pt} {R : Nat → Nat} {ys : List Int} {v : Value} {ps : List (Nat × Nat)} {bp bq : Nat} {sx sy : Int} {ax ay : List Int} {Ax Ay : Option Addr} {cx cy : Nat}
    (h : InSt w0 W base g vp ga n c parts R ys v ps bp bq sx sy ax ay Ax Ay cx cy) : W.cell? ⟨bp, 1, none⟩ = some (.slice Ax ax.length cx) ∧ W.cell? ⟨bq, 1, none⟩ = some (.slice Ay ay.length cy) := by
  have j1 := cell_of_row _ bp 1 _ _ _ h.b1
  have j2 := cell_of_row _ bq 1 _ _ _ h.b2
  exact ⟨j1, j2⟩
/-- What a round of unify keeps. -/
structure UniSt (w0 W : World) (base g : Nat) (vp : Value) (ga n c : Nat) (parts : List Pt) (b : Int → Nat) (tm : Nat → List Int) (ra rb : Nat) (v : Value) (R : Nat → Nat) (ys : List Int) (ps : List (Nat × Nat)) : Prop where
  f : FSt w0 W base g vp ga n c parts R ys
  u : Uni b (netP parts tm) ra rb R (repP parts) ps
  v : Kd.R kpp 157 W w0.heap.size (fun _ => True) v (toPP ps)
set_option maxRecDepth 100000 in
set_option maxHeartbeats 4000000 in
theorem unify_any (base g ga n c gq cq : Nat) (parts : List Pt) (b : Int → Nat) (tm : Nat → List Int) (R0 : Nat → Nat) (xs : List Int) (x0 y0 : Nat) (w : World) (h : FSt w w base g (.slice (some ⟨gq, 0, none⟩) n cq) ga n c parts R0 xs) (hn : n = parts.length) (hn2 : n ≤ 100000)
    (hu : Uni b (netP parts tm) x0 y0 R0 (repP parts) [(x0, y0)]) (h6 : ∀ x, (ptA parts x).2.length ≤ 6 ∧ ∀ a ∈ (ptA parts x).2, 0 ≤ a) :
    Calls Try.prog 113 #[.pointer (some ⟨g, 0, none⟩), .int .i64 x0, .int .i64 y0] w fun e w' => ∃ (ok : Bool) (R : Nat → Nat) (ys : List Int), e = .returned (.bool ok) ∧ FSt w w' base g (.slice (some ⟨gq, 0, none⟩) n cq) ga n c parts R ys ∧
      ((ok = true ∧ Uni b (netP parts tm) x0 y0 R (repP parts) []) ∨ (ok = false ∧ ∀ s, Gd b s → sb s (tm x0) ≠ sb s (tm y0))) := by
  have HF := Aside0.mk h
  have HU := Aside0.mk hu
  have H6 := Aside0.mk h6
  have hgl := blk_lt h.g.blk
  have HN := Aside0.mk hn
  clear h hu h6 hn
  go_enter Try.func113, Try.ntmps113
  go_wp2_with fail
  go_step3
  go_wp2_with fail
  go_step3
  go_wp2_with fail
  have H1 : Aside0 (UniSt w (w.alloc (.cells #[.int .i64 x0, .int .i64 y0] 157)) base g (.slice (some ⟨gq, 0, none⟩) n cq) ga n c parts b tm x0 y0 (.slice (some ⟨w.heap.size, 0, none⟩) 1 1) R0 xs [(x0, y0)]) := ⟨HF.out.below (below_alloc (Below.refl _ _) _), HU.out, pairs_new _ _ _⟩
  clear HF HU
  go_loopg [7] (7 * nr R0 parts.length + 1) (fun m a wr => ∃ (R : Nat → Nat) (ys : List Int) (ps : List (Nat × Nat)), Aside0 (UniSt w wr base g (.slice (some ⟨gq, 0, none⟩) n cq) ga n c parts b tm x0 y0 a R ys ps) ∧ Aside0 (7 * nr R parts.length + ps.length ≤ m ∧ m ≤ 7 * parts.length + 1))
  case atStart => exact ⟨R0, xs, [(x0, y0)], H1, ⟨by simp, by have := nr_bd R0 parts.length; omega⟩⟩
  case round =>
    clear H1
    obtain ⟨R, ys, ps, H, HM⟩ := hrel
    obtain ⟨A, cp, rfl⟩ := Kd.R_slice H.out.v
    rcases List.eq_nil_or_concat ps with rfl | ⟨ps, ⟨x, y⟩, rfl⟩
    · go_wp2_with fail
      rw [Exit.noGoto_ret]
      go_ret
      exact ⟨true, R, ys, rfl, H.out.f, .inl ⟨rfl, H.out.u⟩⟩
    · simp only [List.concat_eq_append] at *
      obtain ⟨gp, cq, e, hgp, _, _⟩ := Kd.R_form H.out.v (by simp [toPP])
      cases e
      have hlen : (toPP (ps ++ [(x, y)])).length = ps.length + 1 := by simp [toPP]
      have hV := H.out.v
      rw [hlen] at hV ⊢
      clear hlen
      obtain ⟨l0, l1⟩ := last_pair hV
      have hx := H.out.u.pr (x, y) (by simp)
      have hRS : RS w wr base g (.slice (some ⟨gq, 0, none⟩) n cq) ga n c parts R (.slice (some ⟨gp, 0, none⟩) (ps.length + 1) cp) (ps ++ [(x, y)]) := ⟨⟨ys, H.out.f⟩, hV⟩
      have hcp := (Kd.R_reads' hV).2.1
      have hpl : ps.length < 9223372036854775807 := by have := (Kd.R_reads' hV).2.2.2.1; simp [toPP] at this; omega
      have hw1 : IntKind.i64.wrap (ps.length : Int) = ps.length := by rw [i64_w]; exact wrap_id (by omega) (by omega)
      have hb0 : (0 : Int) ≤ (ps.length : Int) := by omega
      have hb1 : (ps.length : Int) < (ps.length : Int) + 1 := by omega
      have hxl : x < n := by rw [HN.out]; exact hx.1
      have hyl : y < n := by rw [HN.out]; exact hx.2
      go_upto_region 3 with fail
      go_cut [8, 9] from 17 to 116 (fun s8 s9 wx => s8 = .int .i64 (R x) ∧ s9 = .int .i64 (R y) ∧ Aside0 (RS w wx base g (.slice (some ⟨gq, 0, none⟩) n cq) ga n c parts R (.slice (some ⟨gp, 0, none⟩) (ps.length + 1) cp) (ps ++ [(x, y)])))
      case first =>
        go_region_held3 (fun w' => w'.cell? ⟨gp, ps.length * 2, none⟩ = some (.int .i64 x) ∧ w'.cell? ⟨gp, ps.length * 2 + 1, none⟩ = some (.int .i64 y)) (first | exact ⟨‹_›, ‹_›⟩ | assumption)
          (first | (go_at_call 123; refine (find_rs base g ga n c (.slice (some ⟨gq, 0, none⟩) n cq) parts R _ x y gp (ps.length + 1) cp ps w _ ?_ ?_).mono ?_; (first | assumption | exact hRS.below (below_drew (Below.refl _ _))); (first | exact hxl | exact hyl); rintro e w' ⟨rfl, hRS', l0', l1'⟩))
        all_goals (go_wp2_with fail; go_meet; exact ⟨rfl, rfl, ⟨by assumption⟩⟩)
      case rest =>
        obtain ⟨rfl, rfl, HR⟩ := hcut
        have hkx := H.out.u.lt x hx.1
        have hky := H.out.u.lt y hx.2
        clear hRS hV l0 l1 hxl hyl hw1 hb1
        have hsl := fun (W : World) => cut_to (P := Try.prog) 158 157 .i64 Try.underlying158 (info_parts info158).choose_spec.1 (some ⟨gp, 0, none⟩) (ps.length + 1) cp (ps.length : Int) (by omega) (by omega) (by omega) W
        go_upto_region 5 with fail
        obtain ⟨⟨yt, F⟩, V⟩ := HR.out
        have HF := Aside0.mk F
        have HV : Aside0 (Kd.R kpp 157 wc w.heap.size (fun _ => True) (.slice (some ⟨gp, 0, none⟩) ps.length cp) (toPP ps)) := ⟨by have := Kd.R_take V (m := ps.length) (by simp [toPP]); rwa [show (toPP (ps ++ [(x, y)])).take ps.length = toPP ps by simp [toPP]] at this⟩
        clear F V hsl HR
        generalize hkx' : R x = kx at *
        generalize hky' : R y = ky at *
        have HKX := Aside0.mk hkx'
        have HKY := Aside0.mk hky'
        clear hkx' hky'
        have hkx2 : kx < n := by rw [HN.out]; exact hkx
        have hky2 : ky < n := by rw [HN.out]; exact hky
        obtain ⟨Ax, cx, p0, p1, PX⟩ := HF.out.g.part hkx2
        obtain ⟨Ay, cy, q0, q1, PY⟩ := HF.out.g.part hky2
        have HPX := Aside0.mk PX
        have HPY := Aside0.mk PY
        obtain ⟨c0, _⟩ := HF.out.cells
        have d0 : (0 : Int) ≤ (kx : Int) := by omega
        have d1 : (kx : Int) < (n : Int) := by omega
        have d2 : (0 : Int) ≤ (ky : Int) := by omega
        have d3 : (ky : Int) < (n : Int) := by omega
        have HKN := Aside0.mk (And.intro hkx2 hky2)
        clear PX PY hkx hky hkx2 hky2
        obtain ⟨wd, rfl⟩ : ∃ wd : World, wd = wc := ⟨_, rfl⟩
        go_cut [10, 11] from 17 to 116 (fun s10 s11 wx => ∃ bp bq : Nat, s10 = .pointer (some ⟨bp, 0, none⟩) ∧ s11 = .pointer (some ⟨bq, 0, none⟩) ∧ wd.heap.size ≤ bp ∧ wd.heap.size ≤ bq ∧
          wx.heap[bp]? = some (.cells #[.int .i64 (ptA parts kx).1, .slice Ax (ptA parts kx).2.length cx] 155 (0, 0)) ∧ wx.heap[bq]? = some (.cells #[.int .i64 (ptA parts ky).1, .slice Ay (ptA parts ky).2.length cy] 155 (0, 0)) ∧ Aside0 (Below wd.heap.size wd wx))
        case first =>
          go_region_held3 (fun w' => w'.cell? ⟨g, 0, none⟩ = some (.slice (some ⟨gq, 0, none⟩) n cq) ∧ w'.cell? ⟨gq, kx * 2, none⟩ = some (.int .i64 (ptA parts kx).1) ∧ w'.cell? ⟨gq, kx * 2 + 1, none⟩ = some (.slice Ax (ptA parts kx).2.length cx) ∧
            w'.cell? ⟨gq, ky * 2, none⟩ = some (.int .i64 (ptA parts ky).1) ∧ w'.cell? ⟨gq, ky * 2 + 1, none⟩ = some (.slice Ay (ptA parts ky).2.length cy)) (go_keep) (fail)
          all_goals (go_wp2_with fail; go_meet)
          · exact ⟨wd.heap.size, wd.heap.size + 1, rfl, rfl, Nat.le_refl _, by omega, (two_new wd _ _).1, (two_new wd _ _).2, ⟨((below_alloc (below_alloc (Below.refl _ _) _) _)).drew⟩⟩
          · exact ⟨wd.heap.size + 1, wd.heap.size, rfl, rfl, by omega, Nat.le_refl _, (two_new wd _ _).2, (two_new wd _ _).1, ⟨((below_alloc (below_alloc (Below.refl _ _) _) _)).drew⟩⟩
        case rest =>
          obtain ⟨bp, bq, rfl, rfl, hbp, hbq, B1, B2, HB⟩ := hcut
          clear p0 p1 q0 q1 c0
          have hgc := HF.out.toBlk (by omega)
          obtain ⟨hgb, gcells, hgc⟩ := hgc
          have hga : ga < wd.heap.size := blk_lt hgc
          clear hgc
          replace HF := Aside0.mk (HF.out.below HB.out)
          replace HV := Aside0.mk (Kd.R_below HV.out HB.out)
          replace HPX := Aside0.mk (Kd.R_below HPX.out HB.out)
          replace HPY := Aside0.mk (Kd.R_below HPY.out HB.out)
          have b0 := cell_of_row _ bp 0 _ _ _ B1
          have b1 := cell_of_row _ bp 1 _ _ _ B1
          have b2 := cell_of_row _ bq 0 _ _ _ B2
          have b3 := cell_of_row _ bq 1 _ _ _ B2
          simp at b0 b1 b2 b3
          have HB1 := Aside0.mk B1
          have HB2 := Aside0.mk B2
          obtain ⟨c0, c1⟩ := HF.out.cells
          clear B1 B2
          have hid : R kx = kx ∧ R ky = ky := by
            have i1 := H.out.u.idem x hx.1
            have i2 := H.out.u.idem y hx.2
            rw [HKX.out] at i1
            rw [HKY.out] at i2
            exact ⟨i1, i2⟩
          have HID := Aside0.mk hid
          clear hid
          by_cases hk : kx = ky
          · have e1 : ((kx : Int) == (ky : Int)) = true := beq_iff_eq.2 (by omega)
            have HKK := Aside0.mk hk
            clear b0 b1 b2 b3 hk
            go_wp2_with fail
            go_roundg (7 * nr R parts.length + ps.length)
            case measure => have hm := HM.out; simp at hm; omega
            case rel => exact ⟨R, yt, ps, ⟨HF.out, step_same H.out.u (by rw [HKX.out, HKY.out]; exact HKK.out), HV.out⟩, ⟨Nat.le_refl _, by have hm := HM.out; simp at hm; omega⟩⟩
          · have e1 : ((kx : Int) == (ky : Int)) = false := beq_eq_false_iff_ne.2 (by omega)
            have HKK := Aside0.mk hk
            clear hk
            by_cases hs1 : (ptA parts kx).1 < 0
            · have e2 : decide ((ptA parts kx).1 < 0) = true := decide_eq_true hs1
              have hu := step_var1 H.out.u (by rw [HKX.out, HKY.out]; exact HKK.out) (by rw [HKX.out]; exact hs1)
              have hr := (step_nr H.out.u (by rw [HKX.out, HKY.out]; exact HKK.out)).1
              rw [HKX.out, HKY.out] at hu hr
              have HU := Aside0.mk hu
              have HR := Aside0.mk hr
              have HF2 := Aside0.mk (HF.out.link HKN.out.1 HKN.out.2 HID.out.1 HID.out.2 HKK.out)
              have HV2 := Aside0.mk (pairs_far HF.out (by omega) HV.out kx (.int .i64 ky))
              obtain ⟨tv, t0, t1⟩ := HF.out.freeAt HKN.out.1
              clear hu hr hs1
              go_wp2_with fail
              go_roundg (7 * nr (fun z => if R z = kx then ky else R z) parts.length + ps.length)
              case measure => have hm := HM.out; have := HR.out; simp at hm; omega
              case rel => exact ⟨_, _, ps, ⟨HF2.out, HU.out, HV2.out⟩, ⟨Nat.le_refl _, by have hm := HM.out; have := HR.out; simp at hm; omega⟩⟩
            · have e2 : decide ((ptA parts kx).1 < 0) = false := decide_eq_false hs1
              by_cases hs2 : (ptA parts ky).1 < 0
              · have e3 : decide ((ptA parts ky).1 < 0) = true := decide_eq_true hs2
                have hu := step_var2 H.out.u (by rw [HKX.out, HKY.out]; exact HKK.out) (by rw [HKY.out]; exact hs2)
                have hr := (step_nr H.out.u (by rw [HKX.out, HKY.out]; exact HKK.out)).2
                rw [HKX.out, HKY.out] at hu hr
                have HU := Aside0.mk hu
                have HR := Aside0.mk hr
                have HF2 := Aside0.mk (HF.out.link HKN.out.2 HKN.out.1 HID.out.2 HID.out.1 (fun e => HKK.out e.symm))
                have HV2 := Aside0.mk (pairs_far HF.out (by omega) HV.out ky (.int .i64 kx))
                obtain ⟨tv, t0, t1⟩ := HF.out.freeAt HKN.out.2
                clear hu hr hs1 hs2
                go_wp2_with fail
                go_roundg (7 * nr (fun z => if R z = ky then kx else R z) parts.length + ps.length)
                case measure => have hm := HM.out; have := HR.out; simp at hm; omega
                case rel => exact ⟨_, _, ps, ⟨HF2.out, HU.out, HV2.out⟩, ⟨Nat.le_refl _, by have hm := HM.out; have := HR.out; simp at hm; omega⟩⟩
              · have e3 : decide ((ptA parts ky).1 < 0) = false := decide_eq_false hs2
                by_cases hs3 : (ptA parts kx).1 = (ptA parts ky).1
                · have e4 : ((ptA parts kx).1 != (ptA parts ky).1) = false := bne_eq_false_iff_eq.2 hs3
                  have hu := step_sym H.out.u (by rw [HKX.out, HKY.out]; exact HKK.out) (by rw [HKX.out]; omega) (by rw [HKY.out]; omega) (by rw [HKX.out, HKY.out]; exact hs3)
                  have hr := (step_nr H.out.u (by rw [HKX.out, HKY.out]; exact HKK.out)).1
                  have hl := step_args H.out.u (by rw [HKX.out]; omega) (by rw [HKY.out]; omega) (by rw [HKX.out, HKY.out]; exact hs3)
                  rw [HKX.out, HKY.out] at hu hr hl
                  have HU := Aside0.mk hu
                  have HR := Aside0.mk hr
                  have HL := Aside0.mk hl
                  have HF2 := Aside0.mk (HF.out.link HKN.out.1 HKN.out.2 HID.out.1 HID.out.2 HKK.out)
                  have HV2 := Aside0.mk (pairs_far HF.out (by omega) HV.out kx (.int .i64 ky))
                  obtain ⟨tv, t0, t1⟩ := HF.out.freeAt HKN.out.1
                  have hne1 : bp ≠ ga := by omega
                  have hne2 : bq ≠ ga := by omega
                  have HI : Aside0 (InSt w (wc.setCell ⟨ga, kx, none⟩ (.int .i64 ky)) base g (.slice (some ⟨gq, 0, none⟩) n cq) ga n c parts (fun z => if R z = kx then ky else R z) (yt.set kx ky) (.slice (some ⟨gp, 0, none⟩) ps.length cp) ps bp bq (ptA parts kx).1 (ptA parts ky).1 (ptA parts kx).2 (ptA parts ky).2 Ax Ay cx cy) :=
                    ⟨HF2.out, HV2.out, (Below.heap_setCell wc ⟨ga, kx, none⟩ _ bp hne1).trans HB1.out, (Below.heap_setCell wc ⟨ga, kx, none⟩ _ bq hne2).trans HB2.out,
                     Kd.R_mono (Kd.R_far HPX.out (p := ⟨ga, kx, none⟩) (fun k hk e => hk (by rw [e]; rfl)) _) (fun k hk e => hk (by rw [e]; rfl)), Kd.R_mono (Kd.R_far HPY.out (p := ⟨ga, kx, none⟩) (fun k hk e => hk (by rw [e]; rfl)) _) (fun k hk e => hk (by rw [e]; rfl))⟩
                  have H6X := Aside0.mk (H6.out kx)
                  have H6Y := Aside0.mk (H6.out ky)
                  obtain ⟨j1, _⟩ := HI.out.boxes
                  have hbw : base ≤ w.heap.size := by have := HF.out.g.hb; have := hgl; omega
                  clear hu hr hl hs1 hs2 HF2 HV2 hne1 hne2
                  go_wp2_with fail
                  clear j1 b0 b1 b2 b3 t0 t1 c0 c1 e1 e2 e3 e4 hs3 HB1 HB2 HPX HPY HF HV HB d0 d1 d2 d3
                  have hplen : ps.length ≤ cp := by omega
                  generalize wc.setCell ⟨ga, kx, none⟩ (.int .i64 ky) = w6 at *
                  generalize (ptA parts kx).1 = sx at *
                  generalize (ptA parts ky).1 = sy at *
                  generalize (ptA parts kx).2 = ax at *
                  generalize (ptA parts ky).2 = ay at *
                  obtain ⟨wo, hwo⟩ : ∃ wo : World, wo = wr := ⟨_, rfl⟩
                  have HPS : Aside0 (ps.length ≤ 800000) := ⟨by have hm := HM.out; have := HN.out; simp at hm; omega⟩
                  go_loopg [7, 67] ax.length (fun m a i wi => ∃ k : Nat, i = .int .i64 k ∧ k ≤ ax.length ∧ Aside0 (m = ax.length - k) ∧ Aside0 (InSt w wi base g (.slice (some ⟨gq, 0, none⟩) n cq) ga n c parts (fun z => if R z = kx then ky else R z) (yt.set kx ky) a (ps ++ zipA ax ay k) bp bq sx sy ax ay Ax Ay cx cy))
                  case atStart => exact ⟨0, rfl, by omega, ⟨by omega⟩, ⟨by simpa [zipA] using HI.out⟩⟩
                  case round =>
                    clear HI
                    obtain ⟨k, rfl, hk, HMI, HI⟩ := hrel
                    obtain ⟨A', c', rfl⟩ := Kd.R_slice HI.out.v
                    by_cases hlt : k < ax.length
                    · have hlt2 : k < ay.length := by rw [← HL.out]; exact hlt
                      obtain ⟨j1, j2⟩ := HI.out.boxes
                      obtain ⟨dx, ex, hx⟩ := int_at (Kd.R_reads' HI.out.px).2.2 k hlt
                      obtain ⟨dy, ey, hy⟩ := int_at (Kd.R_reads' HI.out.py).2.2 k hlt2
                      cases ex
                      cases ey
                      go_wp2_with fail
                      have hp0 : 0 ≤ rd ax k := H6X.out.2 _ (rd_mem hlt)
                      have hq0 : 0 ≤ rd ay k := H6Y.out.2 _ (rd_mem hlt2)
                      have b0 : (0 : Int) ≤ (k : Int) := by omega
                      have b1 : (k : Int) < (ax.length : Int) := by omega
                      have b2 : (k : Int) < (ay.length : Int) := by omega
                      have hlp : (toPP (ps ++ zipA ax ay k)).length ≤ 900000 := by have := HPS.out; have := H6X.out.1; simp [toPP, zipA]; omega
                      have hws : w.heap.size ≤ wr.drew.heap.size := HI.out.f.k.1
                      have HLT := Aside0.mk (And.intro hlt hlt2)
                      clear hlt hlt2 hk
                      go_region_held3 (fun w' => w'.cell? ⟨bp, 1, none⟩ = some (.slice (some dx) ax.length cx) ∧ w'.cell? ⟨bq, 1, none⟩ = some (.slice (some dy) ay.length cy) ∧ w'.cell? (dx.add k) = some (.int .i64 (rd ax k)) ∧ w'.cell? (dy.add k) = some (.int .i64 (rd ay k))) (first | exact ⟨by assumption, by assumption, by assumption, by assumption⟩ | go_keep)
                        (first | (refine Kd.R_append_step (W := wr.drew) kpp (w0 := wr.drew) w.heap.size (by rfl) (.tmp 70) (.tmp 82) 158 157 (.agg #[.int .i64 0, .int .i64 0]) 16 (by rfl) Try.underlying158 info158 rfl (by decide) (by omega) (.slice A' (toPP (ps ++ zipA ax ay k)).length c') (toPP (ps ++ zipA ax ay k)) (rd ax k, rd ay k) [.int .i64 (rd ax k), .int .i64 (rd ay k)] (fun _ => True) (fun _ => False) (by rfl) (by rfl) (kpp_M _ _ _ _) (fun _ hk => hk.elim) (fun _ _ => trivial) HI.out.v (Below.refl _ _) hws (by omega) ?_; intro v3 w3 ho3 hb3 hg3 hat3; have HI3 := Aside0.mk ((HI.out.below (below_drew (Below.refl _ _))).app hbw hp0 hq0 ho3 hg3); obtain ⟨k1, k2⟩ := HI3.out.boxes; obtain ⟨_, ex3, hx3⟩ := int_at (Kd.R_reads' HI3.out.px).2.2 k HLT.out.1; cases ex3; obtain ⟨_, ey3, hy3⟩ := int_at (Kd.R_reads' HI3.out.py).2.2 k HLT.out.2; cases ey3; clear ho3 hb3 hg3 hat3))
                      go_wp2_with fail
                      go_roundg (ax.length - (k + 1))
                      case measure => have := HMI.out; have := HLT.out; omega
                      case rel => exact ⟨k + 1, by have h6 := H6X.out.1; have hl := HLT.out.1; rw [wrap_id (by omega) (by omega)]; simp, by have := HLT.out; omega, ⟨rfl⟩, ⟨by rw [zipA_succ, ← List.append_assoc]; exact HI3.out⟩⟩
                    · obtain rfl : k = ax.length := by omega
                      go_wp2_with fail
                      go_roundg (7 * nr (fun z => if R z = kx then ky else R z) parts.length + (ps ++ zipA ax ay ax.length).length)
                      case measure => have hm := HM.out; have := HR.out; have := H6X.out.1; simp [zipA] at hm ⊢; omega
                      case rel => exact ⟨_, _, _, ⟨HI.out.f, HU.out, HI.out.v⟩, ⟨Nat.le_refl _, by have hm := HM.out; have := HR.out; have := H6X.out.1; simp [zipA] at hm ⊢; omega⟩⟩
                · have e4 : ((ptA parts kx).1 != (ptA parts ky).1) = true := bne_iff_ne.2 hs3
                  have hu := step_clash H.out.u (by rw [HKX.out]; omega) (by rw [HKY.out]; omega) (by rw [HKX.out, HKY.out]; exact hs3)
                  have HU := Aside0.mk hu
                  clear hu hs1 hs2 hs3
                  go_wp2_with fail
                  go_ret
                  exact ⟨false, R, yt, rfl, HF.out, .inr ⟨rfl, HU.out⟩⟩
end Go.Proofs.Ytadjoaipmcbieaa

/-! Y1 -/
namespace Go.Proofs.Ytadjoaipmcbieaa
open Go.RowKit Go.Proofs.YtadjoaipmcbieaaW.PrintWords Go.Proofs.YtadjoaipmcbieaaW.PrintLast Go.Proofs.YtadjoaipmcbieaaW.PrintMore A
/-- The document's net: places' numbers, places' arguments, what the nodes stand for. -/
def netR (N : Nat) (ts : List Int) (args : List (List Int)) (tm : Nat → List Int) : Net := ⟨N, fun x => if x < ts.length then rd ts x else -1, fun x => (args.getD x []).map Int.toNat, tm⟩
/-- What stays as it is, once the net is laid. -/
structure NtOk (w0 : World) (base : Nat) (vt va : Value) (gu gr N : Nat) (ts : List Int) (args : List (List Int)) : Prop where
  t : Kd.R (Kd.int .i64) 3 w0 base (fun k => k ≠ gu ∧ k ≠ gr) vt ts
  a : Kd.R (Kd.slice 3 (Kd.int .i64)) 24 w0 base (fun k => k ≠ gu ∧ k ≠ gr) va args
  al : args.length = ts.length
  le : ts.length ≤ N
  big : N ≤ 5000
/-- The net at g; classes, and of each a place. -/
structure NSt (w0 W : World) (base g : Nat) (vl vt va : Value) (gu cu gr cr N : Nat) (up rep : List Int) : Prop where
  blk : W.heap[g]? = some (.cells #[vl, vt, va, .slice (some ⟨gu, 0, none⟩) N cu, .slice (some ⟨gr, 0, none⟩) N cr] 139 (0, 0))
  hb : base ≤ g
  u : Kd.R (Kd.int .i64) 3 W base (fun k => k = gu) (.slice (some ⟨gu, 0, none⟩) N cu) up
  r : Kd.R (Kd.int .i64) 3 W base (fun k => k = gr) (.slice (some ⟨gr, 0, none⟩) N cr) rep
  ne : gu ≠ gr
  b : Below base w0 W
  k : Kept w0 W (fun k => k = gu ∨ k = gr)
section
variable {w0 W W' : World} {base g : Nat} {vl vt va : Value} {gu cu gr cr N : Nat} {up rep : List Int}
theorem NSt.below (h : NSt w0 W base g vl vt va gu cu gr cr N up rep) (hb : Below W.heap.size W W') : NSt w0 W' base g vl vt va gu cu gr cr N up rep :=
  ⟨(hb.block _ (blk_lt h.blk)).trans h.blk, h.hb, Kd.R_below h.u hb, Kd.R_below h.r hb, h.ne, h.b.trans (hb.mono (by have := blk_lt h.blk; have := h.hb; omega)), h.k.below hb⟩
theorem NSt.cells (h : NSt w0 W base g vl vt va gu cu gr cr N up rep) : W.cell? ⟨g, 0, none⟩ = some vl ∧ W.cell? ⟨g, 1, none⟩ = some vt ∧ W.cell? ⟨g, 2, none⟩ = some va ∧ W.cell? ⟨g, 3, none⟩ = some (.slice (some ⟨gu, 0, none⟩) N cu) ∧ W.cell? ⟨g, 4, none⟩ = some (.slice (some ⟨gr, 0, none⟩) N cr) := by
  have c0 := cell_of_row W g 0 _ _ _ h.blk
  have c1 := cell_of_row W g 1 _ _ _ h.blk
  have c2 := cell_of_row W g 2 _ _ _ h.blk
  have c3 := cell_of_row W g 3 _ _ _ h.blk
  have c4 := cell_of_row W g 4 _ _ _ h.blk
  exact ⟨c0, c1, c2, c3, c4⟩
theorem cell_row {W : World} {base gx n c : Nat} {ok : Nat → Prop} {xs : List Int} (h : Kd.R (Kd.int .i64) 3 W base ok (.slice (some ⟨gx, 0, none⟩) n c) xs) {i : Nat} (hi : i < n) {x : Int} (hx : rd xs i = x) : W.cell? ⟨gx, i, none⟩ = some (.int .i64 x) ∧ W.frozen? ⟨gx, i, none⟩ = false := by
  obtain ⟨hx1, hf1⟩ := Kd.R_celln 0 h (i : Int) (by omega) (by omega)
  rw [Int.toNat_natCast] at hx1 hf1
  rw [show rdOf (0 : Int) xs (i : Int) = x from hx] at hx1
  exact ⟨hx1, hf1⟩
theorem NSt.gne (h : NSt w0 W base g vl vt va gu cu gr cr N up rep) : g ≠ gu ∧ g ≠ gr := by
  obtain ⟨c1, h1⟩ := Kd.R_typed h.u gu rfl
  obtain ⟨c2, h2⟩ := Kd.R_typed h.r gr rfl
  exact ⟨blk_ne h.blk h1 (by decide), blk_ne h.blk h2 (by decide)⟩
theorem NSt.putU (h : NSt w0 W base g vl vt va gu cu gr cr N up rep) (i : Nat) (x : Int) : NSt w0 (W.setCell ⟨gu, i, none⟩ (.int .i64 x)) base g vl vt va gu cu gr cr N (up.set i x) rep :=
  ⟨blk_far h.blk (p := ⟨gu, i, none⟩) h.gne.1 _, h.hb, (Kd.R_putg h.u (i : Int) x).1, Kd.R_far h.r (p := ⟨gu, i, none⟩) (fun k hk e => h.ne (by rw [← hk]; exact e.symm)) _, h.ne, h.b.setCell (p := ⟨gu, i, none⟩) (Kd.R_base h.u gu rfl) _, h.k.setCell (p := ⟨gu, i, none⟩) (.inl (.inl rfl)) _⟩
theorem NSt.putR (h : NSt w0 W base g vl vt va gu cu gr cr N up rep) (i : Nat) (x : Int) : NSt w0 (W.setCell ⟨gr, i, none⟩ (.int .i64 x)) base g vl vt va gu cu gr cr N up (rep.set i x) :=
  ⟨blk_far h.blk (p := ⟨gr, i, none⟩) h.gne.2 _, h.hb, Kd.R_far h.u (p := ⟨gr, i, none⟩) (fun k hk e => h.ne (by rw [← hk]; exact e)) _, (Kd.R_putg h.r (i : Int) x).1, h.ne, h.b.setCell (p := ⟨gr, i, none⟩) (Kd.R_base h.r gr rfl) _, h.k.setCell (p := ⟨gr, i, none⟩) (.inl (.inr rfl)) _⟩
/-- A row that grows, made since. -/
theorem NSt.grownNew (h : NSt w0 W base g vl vt va gu cu gr cr N up rep) (h0 : g < w0.heap.size ∧ gu < w0.heap.size ∧ gr < w0.heap.size) {row : Option Nat} (hg : W.grownBy W' row) (hr : ∀ k, row = some k → w0.heap.size ≤ k) : NSt w0 W' base g vl vt va gu cu gr cr N up rep := by
  refine ⟨blk_grown h.blk hg (fun e => by have := hr g e.symm; omega), h.hb, Kd.R_grown h.u hg (fun k hk e => by have := hr k e.symm; omega), Kd.R_grown h.r hg (fun k hk e => by have := hr k e.symm; omega), h.ne, ?_, Kept.of_grown hg h.k (fun k e => .inr (hr k e))⟩
  exact pw_below_grown h.b _ (by have := h.hb; have := h.k.1; omega) hg (fun k e => by have := hr k e; have := h.hb; omega)
theorem NSt.far (h : NSt w0 W base g vl vt va gu cu gr cr N up rep) (h0 : g < w0.heap.size ∧ gu < w0.heap.size ∧ gr < w0.heap.size) {p : Addr} (hp : w0.heap.size ≤ p.block) (u : Value) : NSt w0 (W.setCell p u) base g vl vt va gu cu gr cr N up rep :=
  ⟨blk_far h.blk (by omega) _, h.hb, Kd.R_far h.u (fun k hk e => by omega) _, Kd.R_far h.r (fun k hk e => by omega) _, h.ne, h.b.setCell (by have := h.hb; omega) _, h.k.setCell (.inr hp) _⟩
set_option maxRecDepth 100000 in
set_option maxHeartbeats 1000000 in
theorem class_any (R : Nat → Nat) (x : Nat) (h : NSt w0 W base g vl vt va gu cu gr cr N up rep) (hr : RootOk up R) (hx : x < N) :
    Calls Try.prog 124 #[.pointer (some ⟨g, 0, none⟩), .int .i64 x] W fun e w' => e = .returned (.int .i64 (R x)) ∧ W = w' := by
  have hul : up.length = N := ((Kd.R_reads' h.u).1).symm
  obtain ⟨n0, hroot⟩ := (hr x (by omega)).2.2
  have HS := Aside0.mk h
  have HR := Aside0.mk hr
  have HUL := Aside0.mk hul
  have HR0 := Aside0.mk hroot
  clear h hr hroot hul
  generalize hrr : R x = r at *
  clear hrr
  go_enter Try.func124, Try.ntmps124
  go_wp2_with fail
  go_loopg [1] n0 (fun m a wr => ∃ z : Nat, a = .int .i64 z ∧ z < N ∧ Aside0 (∃ k, k ≤ m ∧ Root (toF up) k z r) ∧ Aside0 (W = wr))
  case atStart => exact ⟨x, rfl, hx, ⟨n0, Nat.le_refl _, HR0.out⟩, ⟨rfl⟩⟩
  case round =>
    clear HR0
    obtain ⟨z, rfl, hz, HRT, HW⟩ := hrel
    obtain ⟨k, hk, HK⟩ := HRT.out
    have HK := Aside0.mk HK
    clear HRT
    have hw := HW.out
    subst hw
    obtain ⟨-, -, -, c3, -⟩ := HS.out.cells
    obtain ⟨y, hy⟩ : ∃ y, y = toF up z := ⟨_, rfl⟩
    have hzu := HR.out z (by rw [HUL.out]; exact hz)
    obtain ⟨d1, -⟩ := cell_row HS.out.u hz (x := (y : Int)) (by rw [hy]; unfold toF; omega)
    have hyl : y < N := by rw [hy]; unfold toF; have := HUL.out; omega
    by_cases he : y = z
    · subst he
      obtain rfl : r = y := ((Root.det HK.out (.here hy.symm)).2)
      clear hy hzu
      go_wp2_with fail
      go_ret
      exact ⟨rfl, rfl⟩
    · have e1 : ((y : Int) != (z : Int)) = true := bne_iff_ne.2 (by omega)
      have HM : Aside0 (∃ k', k' + 1 ≤ k ∧ Root (toF up) k' y r) := by
        cases HK.out with
        | here h => exact absurd (hy.trans h) he
        | step _ h2 => exact ⟨_, Nat.le_refl _, by rw [hy]; exact h2⟩
      clear hy hzu he
      go_wp2_with fail
      obtain ⟨k', hk', HR'⟩ := HM.out
      go_roundg k'
      case measure => omega
      case rel => exact ⟨y, rfl, hyl, ⟨k', Nat.le_refl _, HR'⟩, ⟨rfl⟩⟩
end
end Go.Proofs.Ytadjoaipmcbieaa

/-! Y2 -/
namespace Go.Proofs.Ytadjoaipmcbieaa
open Go.RowKit Go.Proofs.YtadjoaipmcbieaaW.PrintWords Go.Proofs.YtadjoaipmcbieaaW.PrintLast Go.Proofs.YtadjoaipmcbieaaW.PrintMore A
set_option linter.unusedSimpArgs false
set_option linter.unusedVariables false
def argR (args : List (List Int)) (x : Nat) : List Int := args.getD x []
def repL (rep : List Int) (c : Nat) : Int := rd rep c
section
variable {b : Int → Nat} {N : Nat} {ts : List Int} {args : List (List Int)} {tm : Nat → List Int} {ra rb x y : Nat} {R : Nat → Nat} {rep : List Int} {ps : List (Nat × Nat)}
theorem symR {z : Nat} (h : 0 ≤ (netR N ts args tm).sym z) : z < ts.length ∧ (netR N ts args tm).sym z = rd ts z := by
  simp only [netR] at h ⊢
  by_cases hz : z < ts.length
  · rw [if_pos hz]; exact ⟨hz, rfl⟩
  · rw [if_neg hz] at h; omega
theorem jn_same (h : Uni b (netR N ts args tm) ra rb R (repL rep) (ps ++ [(x, y)])) (e : R y = R x) : Uni b (netR N ts args tm) ra rb R (repL rep) ps :=
  h.drop (fun p hp => (snoc_in hp).elim .inl (fun h => .inr (by rw [h]; exact e.symm))) (fun _ hp => List.mem_append_left _ hp)
/-- A class's place. -/
theorem jn_rep (h : Uni b (netR N ts args tm) ra rb R (repL rep) (ps ++ [(x, y)])) {z : Nat} (hz : z = x ∨ z = y) (hp : 0 ≤ rd rep (R z)) : ∃ f : Nat, rd rep (R z) = f ∧ f < ts.length ∧ 0 ≤ rd ts f ∧ (argR args f).length = b (rd ts f) ∧ (netR N ts args tm).sym f = rd ts f := by
  have hlt := h.pr (x, y) (by simp)
  have hzl : z < N := by rcases hz with rfl | rfl; exact hlt.1; exact hlt.2
  obtain ⟨f1, f2, f3⟩ := h.rep2 _ (h.lt z hzl) (h.idem z hzl) hp
  simp only [repL] at f1 f2 f3
  have hs := symR f2
  refine ⟨(rd rep (R z)).toNat, by omega, hs.1, ?_, ?_, hs.2⟩
  · rw [← hs.2]; exact f2
  · have := (h.ok.arg _ f1 f2).1
    rw [hs.2] at this
    rw [← this]; simp [netR, argR]
theorem jn_clash (h : Uni b (netR N ts args tm) ra rb R (repL rep) (ps ++ [(x, y)])) {f g : Nat} (hf : rd rep (R y) = f) (hg : rd rep (R x) = g) (hs : rd ts f ≠ rd ts g) : ∀ s, Gd b s → sb s (tm ra) ≠ sb s (tm rb) := by
  obtain ⟨f', e1, _, _, _, s1⟩ := jn_rep h (z := y) (.inr rfl) (by omega)
  obtain ⟨g', e2, _, _, _, s2⟩ := jn_rep h (z := x) (.inl rfl) (by omega)
  have ef : f' = f := by omega
  have eg : g' = g := by omega
  subst ef; subst eg
  refine h.clash (x := x) (y := y) (by simp) (by show 0 ≤ rd rep (R x); omega) (by show 0 ≤ rd rep (R y); omega) ?_
  show (netR N ts args tm).sym (rd rep (R x)).toNat ≠ (netR N ts args tm).sym (rd rep (R y)).toNat
  rw [hf, hg, Int.toNat_natCast, Int.toNat_natCast, s1, s2]
  exact fun e => hs e.symm
/-- .. joined: the classes' places are told as the code does it. -/
theorem jn_join (h : Uni b (netR N ts args tm) ra rb R (repL rep) (ps ++ [(x, y)])) (hl : rep.length = N) (hne : R y ≠ R x) {st : List (Nat × Nat)}
    (hst : (rd rep (R y) < 0 ∨ rd rep (R x) < 0) ∧ st = ps ∨ ∃ f g : Nat, rd rep (R y) = f ∧ rd rep (R x) = g ∧ rd ts f = rd ts g ∧ st = ps ++ zipA (argR args f) (argR args g) (argR args f).length) :
    Uni b (netR N ts args tm) ra rb (fun z => if R z = R y then R x else R z) (repL (if rd rep (R x) < 0 then rep.set (R x) (rd rep (R y)) else rep)) st := by
  have hlt := h.pr (x, y) (by simp)
  have hRx : R x < rep.length := by rw [hl]; exact h.lt x hlt.1
  refine h.merge (x := x) (y := y) (c1 := R y) (c2 := R x) (by simp) (.inr ⟨rfl, rfl⟩) hne (fun _ _ => rfl) (fun c h1 h2 => ?_) ?_ (fun h1 h2 => ?_) (fun p hp => ?_) (fun p hp => ?_)
  · unfold repL; split
    · rw [rd_set _ _ _ _ hRx, if_neg (Ne.symm h2)]
    · rfl
  · by_cases e : rd rep (R x) < 0
    · refine .inr ⟨e, ?_⟩
      unfold repL; rw [if_pos e, rd_set _ _ _ _ hRx, if_pos rfl]
    · refine .inl ⟨?_, by unfold repL; omega⟩
      unfold repL; rw [if_neg e]
  · rcases hst with ⟨h3, _⟩ | ⟨f, g, hf, hg, hs, rfl⟩
    · unfold repL at h1 h2; omega
    · obtain ⟨f', e1, _, _, _, s1⟩ := jn_rep h (z := y) (.inr rfl) (by omega)
      obtain ⟨g', e2, _, _, _, s2⟩ := jn_rep h (z := x) (.inl rfl) (by omega)
      have ef : f' = f := by omega
      have eg : g' = g := by omega
      subst ef; subst eg
      simp only [repL]
      rw [hf, hg, Int.toNat_natCast, Int.toNat_natCast, s1, s2]
      refine ⟨hs, fun i hi => .inl (List.mem_append_right _ ?_)⟩
      have hi' : i < (argR args f').length := by simpa [netR, argR] using hi
      refine List.mem_map.2 ⟨i, List.mem_range.2 hi', ?_⟩
      simp only [netR]; rw [map_getD, map_getD]; rfl
  · rcases hst with ⟨_, rfl⟩ | ⟨f, g, hf, hg, hs, rfl⟩
    · exact snoc_in hp
    · exact (snoc_in hp).imp (fun h => List.mem_append_left _ h) id
  · rcases hst with ⟨_, rfl⟩ | ⟨f, g, hf, hg, hs, rfl⟩
    · exact .inl (List.mem_append_left _ hp)
    · rcases List.mem_append.1 hp with hp | hp
      · exact .inl (List.mem_append_left _ hp)
      · obtain ⟨i, hi, rfl⟩ := List.mem_map.1 hp
        refine .inr ?_
        simp only [repL]
        rw [hf, hg, Int.toNat_natCast, Int.toNat_natCast]
        refine ⟨by omega, by omega, i, by simpa [netR, argR] using hi, .inl ?_⟩
        simp only [netR]; rw [map_getD, map_getD]; rfl
theorem jn_nr (h : Uni b (netR N ts args tm) ra rb R (repL rep) (ps ++ [(x, y)])) (hne : R y ≠ R x) : nr (fun z => if R z = R y then R x else R z) N < nr R N := by
  have hlt := h.pr (x, y) (by simp)
  exact nr_merge (h.lt _ hlt.2) (h.idem _ hlt.2) (h.idem _ hlt.1) hne (fun _ _ => rfl)
end
/-- Pairs, one behind the other. -/
def flatP (ps : List (Nat × Nat)) : List Int := ps.flatMap fun p => [(p.1 : Int), (p.2 : Int)]
theorem flatP_len (ps : List (Nat × Nat)) : (flatP ps).length = 2 * ps.length := by
  induction ps with
  | nil => rfl
  | cons p ps ih => simp only [flatP, List.flatMap_cons, List.length_append, List.length_cons, List.length_nil] at *; omega
theorem flatP_app (ps qs : List (Nat × Nat)) : flatP (ps ++ qs) = flatP ps ++ flatP qs := by simp [flatP, List.flatMap_append]
theorem flatP_at (ps : List (Nat × Nat)) (x y : Nat) : rd (flatP (ps ++ [(x, y)])) (2 * ps.length : Nat) = x ∧ rd (flatP (ps ++ [(x, y)])) (2 * ps.length + 1 : Nat) = y := by
  rw [flatP_app, ← flatP_len]
  simp [rd, List.getD_eq_getElem?_getD, flatP]
theorem flatP_take (ps : List (Nat × Nat)) (x y : Nat) : (flatP (ps ++ [(x, y)])).take (2 * ps.length) = flatP ps := by
  rw [flatP_app, ← flatP_len]; simp
end Go.Proofs.Ytadjoaipmcbieaa

/-! Y3 -/
namespace Go.Proofs.Ytadjoaipmcbieaa
open Go.RowKit Go.Proofs.YtadjoaipmcbieaaW.PrintWords Go.Proofs.YtadjoaipmcbieaaW.PrintLast Go.Proofs.YtadjoaipmcbieaaW.PrintMore A
set_option linter.unusedSimpArgs false
set_option linter.unusedVariables false
theorem ints_new (w : World) (p q : Int) : Kd.R (Kd.int .i64) 3 (w.alloc (.cells #[.int .i64 p, .int .i64 q] 3)) w.heap.size (fun _ => True) (.slice (some ⟨w.heap.size, 0, none⟩) 2 2) [p, q] := by
  refine ⟨fun _ _ => trivial, [.int .i64 p, .int .i64 q], ?_, rfl, fun j p hj => ?_⟩
  · have h2 := World.ownsRow_lit (base := w.heap.size) (e := 3) (size := (Kd.int .i64).sz) w #[.int .i64 p, .int .i64 q] 2 (Nat.le_refl _) (by decide) rfl
    exact h2
  · match j, hj with
    | 0, hj => simp at hj; subst hj; rfl
    | 1, hj => simp at hj; subst hj; rfl
    | j + 2, hj => simp at hj
/-- A store below a row's base does not touch it. -/
theorem row_far {W : World} {base : Nat} {v : Value} {xs : List Int} (h : Kd.R (Kd.int .i64) 3 W base (fun _ => True) v xs) {p : Addr} (hp : p.block < base) (u : Value) : Kd.R (Kd.int .i64) 3 (W.setCell p u) base (fun _ => True) v xs :=
  Kd.R_mono (Kd.R_far (ok := fun k => v.ownBlock = some k) ⟨fun k hk => hk, h.2⟩ (fun k hk e => by have := Kd.R_base h k hk; omega) u) (fun _ _ => trivial)
/-- A place of the net, in each later world. -/
theorem NtOk.place {w0 : World} {base : Nat} {vt va : Value} {gu gr N : Nat} {ts : List Int} {args : List (List Int)} (h : NtOk w0 base vt va gu gr N ts args) {f : Nat} (hf : f < ts.length) :
    ∃ gt ct ga ca A c, vt = .slice (some ⟨gt, 0, none⟩) ts.length ct ∧ va = .slice (some ⟨ga, 0, none⟩) ts.length ca ∧ ∀ W, Kept w0 W (fun k => k = gu ∨ k = gr) →
      W.cell? ⟨gt, f, none⟩ = some (.int .i64 (rd ts f)) ∧ W.cell? ⟨ga, f, none⟩ = some (.slice A (argR args f).length c) ∧ Kd.R (Kd.int .i64) 3 W base (fun k => k ≠ gu ∧ k ≠ gr) (.slice A (argR args f).length c) (argR args f) := by
  obtain ⟨gt, ct, rfl, _, _⟩ := Kd.R_form h.t (by omega)
  obtain ⟨ga, ca, rfl, _, _⟩ := Kd.R_form h.a (by rw [h.al]; omega)
  have hal := h.al
  obtain ⟨cs, hl, hm, hc, _⟩ := Kd.R_elem h.a [] (f : Int) (by omega) (by omega)
  obtain ⟨v, rfl, hR⟩ := hm
  obtain ⟨A, c, rfl⟩ := Kd.R_slice hR
  rw [Int.toNat_natCast] at hc hR
  rw [show args.getD f [] = argR args f from rfl] at hc hR
  have h1 := (cell_row h.t hf rfl).1
  have h2 : w0.cell? ⟨ga, f, none⟩ = some (.slice A (argR args f).length c) := by have := hc 0 _ rfl; simpa [Kd.sz, Kd.slice] using this
  rw [hal]
  refine ⟨gt, ct, ga, ca, A, c, rfl, rfl, fun W hk => ⟨cell_kept h1 hk ?_, cell_kept h2 hk ?_, Kd.R_mono (Kd.R_kept hR hk ?_) (fun _ h => h.1)⟩⟩
  · have := h.t.1 gt rfl; simp only [] ; omega
  · have := h.a.1 ga rfl; simp only []; omega
  · intro k hk e; omega
/-- What a round of join keeps. -/
structure JSt (w0 W : World) (base g : Nat) (vl vt va : Value) (gu cu gr cr N : Nat) (ts : List Int) (args : List (List Int)) (b : Int → Nat) (tm : Nat → List Int) (ra rb : Nat) (v : Value) (R : Nat → Nat) (up rep : List Int) (ps : List (Nat × Nat)) : Prop where
  s : NSt w0 W base g vl vt va gu cu gr cr N up rep
  r : RootOk up R
  u : Uni b (netR N ts args tm) ra rb R (repL rep) ps
  v : Kd.R (Kd.int .i64) 3 W w0.heap.size (fun _ => True) v (flatP ps)
/-- Where the arguments of two places are paired. -/
structure JIn (w0 W : World) (base g : Nat) (vl vt va : Value) (gu cu gr cr N : Nat) (up rep : List Int) (v : Value) (ps : List (Nat × Nat)) : Prop where
  s : NSt w0 W base g vl vt va gu cu gr cr N up rep
  v : Kd.R (Kd.int .i64) 3 W w0.heap.size (fun _ => True) v (flatP ps)
section
variable {w0 W W' : World} {base g : Nat} {vl vt va : Value} {gu cu gr cr N : Nat} {up rep : List Int} {ts : List Int} {args : List (List Int)}
theorem NSt.lts (h : NSt w0 W base g vl vt va gu cu gr cr N up rep) : g < W.heap.size ∧ gu < W.heap.size ∧ gr < W.heap.size := ⟨blk_lt h.blk, Kd.R_lt h.u gu rfl, Kd.R_lt h.r gr rfl⟩
theorem JIn.below {v : Value} {ps : List (Nat × Nat)} (h : JIn w0 W base g vl vt va gu cu gr cr N up rep v ps) (hb : Below W.heap.size W W') : JIn w0 W' base g vl vt va gu cu gr cr N up rep v ps := ⟨h.s.below hb, Kd.R_below h.v hb⟩
theorem JIn.app {v v1 : Value} {ps : List (Nat × Nat)} {p q : Int} (h : JIn w0 W base g vl vt va gu cu gr cr N up rep v ps) (h0 : g < w0.heap.size ∧ gu < w0.heap.size ∧ gr < w0.heap.size) (hp : 0 ≤ p) (hq : 0 ≤ q)
    (ho : Kd.R (Kd.int .i64) 3 W' w0.heap.size (fun _ => True) v1 (flatP ps ++ [p, q])) (hg : W.grownBy W' v.ownBlock) : JIn w0 W' base g vl vt va gu cu gr cr N up rep v1 (ps ++ [(p.toNat, q.toNat)]) := by
  refine ⟨h.s.grownNew h0 hg (fun k hk => Kd.R_base h.v k hk), ?_⟩
  rw [flatP_app]
  have e : flatP [(p.toNat, q.toNat)] = [p, q] := by simp [flatP]; omega
  rw [e]; exact ho
end
set_option maxRecDepth 100000 in
set_option maxHeartbeats 4000000 in
theorem join_any (base g gu cu gr cr N : Nat) (vl vt va : Value) (ts : List Int) (args : List (List Int)) (b : Int → Nat) (tm : Nat → List Int) (R0 : Nat → Nat) (up0 rep0 : List Int) (x0 y0 : Nat) (w : World)
    (h : NSt w w base g vl vt va gu cu gr cr N up0 rep0) (ht : NtOk w base vt va gu gr N ts args) (hr : RootOk up0 R0) (hu : Uni b (netR N ts args tm) x0 y0 R0 (repL rep0) [(x0, y0)]) (h6 : ∀ x, (argR args x).length ≤ 6 ∧ ∀ a ∈ argR args x, 0 ≤ a) :
    Calls Try.prog 110 #[.pointer (some ⟨g, 0, none⟩), .int .i64 x0, .int .i64 y0] w fun e w' => ∃ (ok : Bool) (R : Nat → Nat) (up rep : List Int), e = .returned (.bool ok) ∧ NSt w w' base g vl vt va gu cu gr cr N up rep ∧
      ((ok = true ∧ RootOk up R ∧ Uni b (netR N ts args tm) x0 y0 R (repL rep) []) ∨ (ok = false ∧ ∀ s, Gd b s → sb s (tm x0) ≠ sb s (tm y0))) := by
  have HT := Aside0.mk ht
  have H6 := Aside0.mk h6
  have HL0 := Aside0.mk h.lts
  have HN := Aside0.mk ht.big
  have H1 : Aside0 (JSt w (w.alloc (.cells #[.int .i64 x0, .int .i64 y0] 3)) base g vl vt va gu cu gr cr N ts args b tm x0 y0 (.slice (some ⟨w.heap.size, 0, none⟩) 2 2) R0 up0 rep0 [(x0, y0)]) := ⟨h.below (below_alloc (Below.refl _ _) _), hr, hu, ints_new _ _ _⟩
  clear h hu h6 ht hr
  go_enter Try.func110, Try.ntmps110
  go_wp2_with fail
  go_loopg [7] (7 * nr R0 N + 1) (fun m a wr => ∃ (R : Nat → Nat) (up rep : List Int) (ps : List (Nat × Nat)), Aside0 (JSt w wr base g vl vt va gu cu gr cr N ts args b tm x0 y0 a R up rep ps) ∧ Aside0 (7 * nr R N + ps.length ≤ m ∧ m ≤ 7 * N + 1))
  case atStart => exact ⟨R0, up0, rep0, [(x0, y0)], H1, ⟨by simp, by have := nr_bd R0 N; omega⟩⟩
  case round =>
    clear H1
    obtain ⟨R, up, rep, ps, H, HM⟩ := hrel
    obtain ⟨A, cp, rfl⟩ := Kd.R_slice H.out.v
    rcases List.eq_nil_or_concat ps with rfl | ⟨ps, ⟨x, y⟩, rfl⟩
    · go_wp2_with fail
      go_ret
      exact ⟨true, R, up, rep, rfl, H.out.s, .inl ⟨rfl, H.out.r, H.out.u⟩⟩
    · simp only [List.concat_eq_append] at *
      obtain ⟨gp, cq, e, hgp, _, _⟩ := Kd.R_form H.out.v (by rw [flatP_len]; simp)
      cases e
      obtain ⟨L, hL⟩ : ∃ L : Nat, L = 2 * ps.length := ⟨_, rfl⟩
      have hlen : (flatP (ps ++ [(x, y)])).length = L + 2 := by rw [flatP_len, hL]; simp [Nat.mul_add]
      have hV := H.out.v
      rw [hlen] at hV ⊢
      obtain ⟨fx, fy⟩ := flatP_at ps x y
      rw [← hL] at fx fy
      obtain ⟨l0, -⟩ := cell_row hV (i := L) (x := (x : Int)) (by omega) fx
      obtain ⟨l1, -⟩ := cell_row hV (i := L + 1) (x := (y : Int)) (by omega) fy
      have hx := H.out.u.pr (x, y) (by simp)
      have hcp := (Kd.R_reads' hV).2.1
      have hpl : L < 80000 := by have hm := HM.out; have := HN.out; simp at hm; omega
      have hb0 : (0 : Int) ≤ (L : Int) := by omega
      have HLL := Aside0.mk hL
      clear hlen hL fx fy
      go_wp2_with fail
      refine (class_any R y H.out.s H.out.r hx.2).mono ?_
      rintro e w' ⟨rfl, rfl⟩
      go_wp2_with fail
      refine (class_any R x H.out.s H.out.r hx.1).mono ?_
      rintro e w' ⟨rfl, rfl⟩
      have hsl := fun (W : World) => cut_to (P := Try.prog) 24 3 .i64 Try.underlying24 (info_parts info3).choose_spec.1 (some ⟨gp, 0, none⟩) (L + 2) cp (L : Int) (by omega) (by omega) (by omega) W
      have HV : Aside0 (Kd.R (Kd.int .i64) 3 wr w.heap.size (fun _ => True) (.slice (some ⟨gp, 0, none⟩) L cp) (flatP ps)) := ⟨by have := Kd.R_take hV (m := L) (by rw [flatP_len, HLL.out]; simp [Nat.mul_add]); rwa [HLL.out, flatP_take, ← HLL.out] at this⟩
      have hkx := H.out.u.lt x hx.1
      have hky := H.out.u.lt y hx.2
      clear hV l0 l1
      generalize hkx' : R x = kx at *
      generalize hky' : R y = ky at *
      have HKX := Aside0.mk hkx'
      have HKY := Aside0.mk hky'
      have HXY := Aside0.mk hx
      clear hkx' hky' hx
      by_cases hk : ky = kx
      · subst hk
        go_wp2_with fail
        go_roundg (7 * nr R N + ps.length)
        case measure => have hm := HM.out; simp at hm; omega
        case rel => exact ⟨R, up, rep, ps, ⟨H.out.s, H.out.r, jn_same H.out.u (by rw [HKX.out, HKY.out]), HV.out⟩, ⟨Nat.le_refl _, by have hm := HM.out; simp at hm; omega⟩⟩
      · have e1 : ((ky : Int) == (kx : Int)) = false := beq_eq_false_iff_ne.2 (by omega)
        have hk1 : kx < N := hkx
        have hk2 : ky < N := hky
        clear hkx hky
        have hkn : R y ≠ R x := by rw [HKX.out, HKY.out]; exact hk
        obtain ⟨c0, c1, c2, c3, c4⟩ := H.out.s.cells
        obtain ⟨F, hF⟩ : ∃ F, F = rd rep ky := ⟨_, rfl⟩
        obtain ⟨G, hG⟩ : ∃ G, G = rd rep kx := ⟨_, rfl⟩
        obtain ⟨d1, -⟩ := cell_row H.out.s.r hk2 hF.symm
        obtain ⟨d2, -⟩ := cell_row H.out.s.r hk1 hG.symm
        obtain ⟨t0, t1⟩ := cell_row H.out.s.u hk2 (x := rd up ky) rfl
        have HF := Aside0.mk hF
        have HG := Aside0.mk hG
        have HS1 := Aside0.mk (H.out.s.putU ky kx)
        obtain ⟨a0, a1, a2, a3, a4⟩ := HS1.out.cells
        obtain ⟨t2, t3⟩ := cell_row HS1.out.r hk1 hG.symm
        have HV1 : Aside0 (Kd.R (Kd.int .i64) 3 (wr.setCell ⟨gu, ky, none⟩ (.int .i64 kx)) w.heap.size (fun _ => True) (.slice (some ⟨gp, 0, none⟩) L cp) (flatP ps)) :=
          ⟨row_far HV.out (p := ⟨gu, ky, none⟩) HL0.out.2.1 _⟩
        have HR1 := Aside0.mk (H.out.r.link (c1 := ky) (c2 := kx) (by rw [((Kd.R_reads' H.out.s.u).1).symm]; exact hk2) (by rw [((Kd.R_reads' H.out.s.u).1).symm]; exact hk1) (by have := H.out.u.idem y HXY.out.2; rwa [HKY.out] at this) (by have := H.out.u.idem x HXY.out.1; rwa [HKX.out] at this) hk)
        have HNR := Aside0.mk (jn_nr H.out.u hkn)
        have HLR : Aside0 (rep.length = N) := ⟨((Kd.R_reads' H.out.s.r).1).symm⟩
        have HJ := Aside0.mk (fun st => jn_join (st := st) H.out.u HLR.out hkn)
        rw [HKX.out, HKY.out] at HNR HJ
        rw [← HF.out, ← HG.out] at HJ
        have HKN := Aside0.mk hkn
        clear hF hG hk hkn
        by_cases hg : G < 0
        · have e2 : decide (G < 0) = true := decide_eq_true hg
          have HS2 := Aside0.mk (HS1.out.putR kx F)
          have HV2 : Aside0 (Kd.R (Kd.int .i64) 3 ((wr.setCell ⟨gu, ky, none⟩ (.int .i64 kx)).setCell ⟨gr, kx, none⟩ (.int .i64 F)) w.heap.size (fun _ => True) (.slice (some ⟨gp, 0, none⟩) L cp) (flatP ps)) :=
            ⟨row_far HV1.out (p := ⟨gr, kx, none⟩) HL0.out.2.2 _⟩
          have HU := Aside0.mk (HJ.out ps (.inl ⟨.inr hg, rfl⟩))
          rw [if_pos hg] at HU
          clear hg
          by_cases hf : F < 0
          · have e3 : decide (F < 0) = true := decide_eq_true hf
            clear hf
            go_wp2_with fail
            go_roundg (7 * nr (fun z => if R z = ky then kx else R z) N + ps.length)
            case measure => have hm := HM.out; have := HNR.out; simp at hm; omega
            case rel => exact ⟨_, _, _, ps, ⟨HS2.out, HR1.out, HU.out, HV2.out⟩, ⟨Nat.le_refl _, by have hm := HM.out; have := HNR.out; simp at hm; omega⟩⟩
          · have e3 : decide (F < 0) = false := decide_eq_false hf
            clear hf
            go_wp2_with fail
            go_roundg (7 * nr (fun z => if R z = ky then kx else R z) N + ps.length)
            case measure => have hm := HM.out; have := HNR.out; simp at hm; omega
            case rel => exact ⟨_, _, _, ps, ⟨HS2.out, HR1.out, HU.out, HV2.out⟩, ⟨Nat.le_refl _, by have hm := HM.out; have := HNR.out; simp at hm; omega⟩⟩
        · have e2 : decide (G < 0) = false := decide_eq_false hg
          by_cases hf : F < 0
          · have e3 : decide (F < 0) = true := decide_eq_true hf
            have HU := Aside0.mk (HJ.out ps (.inl ⟨.inl hf, rfl⟩))
            rw [if_neg hg] at HU
            clear hf hg
            go_wp2_with fail
            go_roundg (7 * nr (fun z => if R z = ky then kx else R z) N + ps.length)
            case measure => have hm := HM.out; have := HNR.out; simp at hm; omega
            case rel => exact ⟨_, _, _, ps, ⟨HS1.out, HR1.out, HU.out, HV1.out⟩, ⟨Nat.le_refl _, by have hm := HM.out; have := HNR.out; simp at hm; omega⟩⟩
          · have e3 : decide (F < 0) = false := decide_eq_false hf
            obtain ⟨f, rfl⟩ : ∃ f : Nat, F = f := ⟨F.toNat, by omega⟩
            obtain ⟨q, rfl⟩ : ∃ q : Nat, G = q := ⟨G.toNat, by omega⟩
            have hjf := jn_rep H.out.u (z := y) (.inr rfl) (by rw [HKY.out, ← HF.out]; omega)
            have hjq := jn_rep H.out.u (z := x) (.inl rfl) (by rw [HKX.out, ← HG.out]; omega)
            obtain ⟨f', ef, hfl, _, hfb, _⟩ := hjf
            obtain ⟨q', eq, hql, _, hqb, _⟩ := hjq
            rw [HKY.out, ← HF.out] at ef
            rw [HKX.out, ← HG.out] at eq
            obtain rfl : f' = f := by omega
            obtain rfl : q' = q := by omega
            obtain ⟨gt, ct, ga, ca, Ax, cx, rfl, rfl, hPX⟩ := HT.out.place hfl
            obtain ⟨gt', ct', ga', ca', Ay, cy, ev, eu, hPY⟩ := HT.out.place hql
            cases ev
            cases eu
            obtain ⟨r0, -, -⟩ := hPX _ HS1.out.k
            obtain ⟨r1, -, -⟩ := hPY _ HS1.out.k
            have HPX := Aside0.mk hPX
            have HPY := Aside0.mk hPY
            clear hPX hPY ef eq hf hg
            go_wp2_with fail
            by_cases hs : rd ts f' = rd ts q'
            · have e4 : ((rd ts f') != (rd ts q')) = false := bne_eq_false_iff_eq.2 hs
              have HU := Aside0.mk (HJ.out _ (.inr ⟨f', q', rfl, rfl, hs, rfl⟩))
              rw [if_neg (by omega)] at HU
              have HLL2 : Aside0 ((argR args f').length = (argR args q').length) := ⟨by rw [hfb, hqb, hs]⟩
              have HI : Aside0 (JIn w (wr.setCell ⟨gu, ky, none⟩ (.int .i64 kx)) base g vl (.slice (some ⟨gt, 0, none⟩) ts.length ct) (.slice (some ⟨ga, 0, none⟩) ts.length ca) gu cu gr cr N (up.set ky kx) rep (.slice (some ⟨gp, 0, none⟩) L cp) ps) := ⟨HS1.out, HV1.out⟩
              have H6X := Aside0.mk (H6.out f')
              have H6Y := Aside0.mk (H6.out q')
              clear hs
              go_quiet (fail)
              go_wp2_with fail
              clear c0 c1 c2 c3 c4 d1 d2 t0 t1 t2 t3 a0 a1 a2 a3 a4 r0 r1 e1 e2 e3 e4 HS1 HV1 hfb hqb
              replace HI := Aside0.mk (HI.out.below (pw_below_drewN (Below.refl _ _) nq))
              generalize (wr.setCell ⟨gu, ky, none⟩ (.int .i64 kx)).drewN nq = w6 at *
              generalize hax : argR args f' = ax at *
              generalize hay : argR args q' = ay at *
              clear hax hay
              obtain ⟨wo, hwo⟩ : ∃ wo : World, wo = wr := ⟨_, rfl⟩
              have HPS : Aside0 (ps.length ≤ 80000) := ⟨by have hm := HM.out; have := HN.out; simp at hm; omega⟩
              go_loopg [7, 12] ax.length (fun m a i wi => ∃ k : Nat, i = .int .i64 k ∧ k ≤ ax.length ∧ Aside0 (m = ax.length - k) ∧ Aside0 (JIn w wi base g vl (.slice (some ⟨gt, 0, none⟩) ts.length ct) (.slice (some ⟨ga, 0, none⟩) ts.length ca) gu cu gr cr N (up.set ky kx) rep a (ps ++ zipA ax ay k)))
              case atStart => exact ⟨0, rfl, by omega, ⟨by omega⟩, ⟨by simpa [zipA] using HI.out⟩⟩
              case round =>
                clear HI
                obtain ⟨k, rfl, hk, HMI, HI⟩ := hrel
                obtain ⟨A', c', rfl⟩ := Kd.R_slice HI.out.v
                obtain ⟨-, j1, hR1⟩ := HPX.out _ HI.out.s.k
                obtain ⟨-, j2, hR2⟩ := HPY.out _ HI.out.s.k
                obtain ⟨-, -, j0, -, -⟩ := HI.out.s.cells
                by_cases hlt : k < ax.length
                · have hlt2 : k < ay.length := by rw [← HLL2.out]; exact hlt
                  obtain ⟨dx, ex, hx⟩ := int_at (Kd.R_reads' hR1).2.2 k hlt
                  obtain ⟨dy, ey, hy⟩ := int_at (Kd.R_reads' hR2).2.2 k hlt2
                  cases ex
                  cases ey
                  clear hR1 hR2
                  go_wp2_with fail
                  have hp0 : 0 ≤ rd ax k := H6X.out.2 _ (rd_mem hlt)
                  have hq0 : 0 ≤ rd ay k := H6Y.out.2 _ (rd_mem hlt2)
                  have b0 : (0 : Int) ≤ (k : Int) := by omega
                  have b1 : (k : Int) < (ax.length : Int) := by omega
                  have b2 : (k : Int) < (ay.length : Int) := by omega
                  have hlp : (flatP (ps ++ zipA ax ay k)).length ≤ 900000 := by have := HPS.out; have := H6X.out.1; rw [flatP_len]; simp [zipA]; omega
                  have hws : w.heap.size ≤ wr.heap.size := HI.out.s.k.1
                  have hws2 : ∀ o : Obj, w.heap.size ≤ (wr.alloc o).drew.heap.size := fun o => Nat.le_trans hws (below_alloc (Below.refl wr.heap.size wr) o).size
                  have HLT := Aside0.mk (And.intro hlt hlt2)
                  clear hlt hlt2 hk
                  go_region_held3 (fun w' => w'.cell? ⟨g, 2, none⟩ = some (.slice (some ⟨ga, 0, none⟩) ts.length ca) ∧ w'.cell? ⟨ga, f', none⟩ = some (.slice (some dx) ax.length cx) ∧ w'.cell? ⟨ga, q', none⟩ = some (.slice (some dy) ay.length cy) ∧ w'.cell? (dx.add k) = some (.int .i64 (rd ax k)) ∧ w'.cell? (dy.add k) = some (.int .i64 (rd ay k))) (first | exact ⟨by assumption, by assumption, by assumption, by assumption, by assumption⟩ | go_keep)
                    (first | (refine Kd.R_append_rows_step (Kd.int .i64) (w0 := wr.drew) w.heap.size (by rfl) (.tmp 106) (.tmp 127) 24 3 (.int .i64 0) 8 (by rfl) Try.underlying24 info3 rfl (by decide) (by omega) (.slice A' (flatP (ps ++ zipA ax ay k)).length c') (flatP (ps ++ zipA ax ay k)) [rd ax k, rd ay k] (some ⟨wr.drew.heap.size, 0, none⟩) 2 2 (fun _ => True) (fun _ => False) (by rfl) (by rfl) (Kd.R_below HI.out.v (below_alloc (below_drew (Below.refl _ _)) _)) ((Kd.R_reads' (ints_new wr.drew (rd ax k) (rd ay k))).2.2) (fun _ _ h => h) (fun _ hk => hk.elim) (fun _ _ => trivial) ((below_alloc (Below.refl _ _) _).mono hws) (hws2 _) (by omega) ?_; intro v3 w3 ho3 hb3 hg3 hat3; have HI3 := Aside0.mk ((HI.out.below (below_alloc (below_drew (Below.refl _ _)) _)).app HL0.out hp0 hq0 ho3 hg3); obtain ⟨-, n1, nR1⟩ := HPX.out _ HI3.out.s.k; obtain ⟨-, n2, nR2⟩ := HPY.out _ HI3.out.s.k; obtain ⟨-, -, n0, -, -⟩ := HI3.out.s.cells; obtain ⟨_, ex3, hx3⟩ := int_at (Kd.R_reads' nR1).2.2 k HLT.out.1; cases ex3; obtain ⟨_, ey3, hy3⟩ := int_at (Kd.R_reads' nR2).2.2 k HLT.out.2; cases ey3; clear nR1 nR2 ho3 hb3 hg3 hat3))
                  go_wp2_with fail
                  go_roundg (ax.length - (k + 1))
                  case measure => have := HMI.out; have := HLT.out; omega
                  case rel => exact ⟨k + 1, by have h6 := H6X.out.1; have hl := HLT.out.1; rw [wrap_id (by omega) (by omega)]; simp, by have := HLT.out; omega, ⟨rfl⟩, ⟨by rw [zipA_succ, ← List.append_assoc]; exact HI3.out⟩⟩
                · obtain rfl : k = ax.length := by omega
                  go_wp2_with fail
                  go_roundg (7 * nr (fun z => if R z = ky then kx else R z) N + (ps ++ zipA ax ay ax.length).length)
                  case measure => have hm := HM.out; have := HNR.out; have := H6X.out.1; simp [zipA] at hm ⊢; omega
                  case rel => exact ⟨_, _, _, _, ⟨HI.out.s, HR1.out, HU.out, HI.out.v⟩, ⟨Nat.le_refl _, by have hm := HM.out; have := HNR.out; have := H6X.out.1; simp [zipA] at hm ⊢; omega⟩⟩
            · have e4 : ((rd ts f') != (rd ts q')) = true := bne_iff_ne.2 hs
              have HU := Aside0.mk (jn_clash H.out.u (by rw [HKY.out, ← HF.out]) (by rw [HKX.out, ← HG.out]) hs)
              clear hs
              go_quiet (fail)
              go_wp2_with fail
              go_ret
              exact ⟨false, R, _, _, rfl, HS1.out.below (pw_below_drewN (Below.refl _ _) nq), .inr ⟨rfl, HU.out⟩⟩
end Go.Proofs.Ytadjoaipmcbieaa

/-! B0 -/
namespace Go.Proofs.Ytadjoaipmcbieaa
open Go.RowKit Go.Proofs.YtadjoaipmcbieaaW.PrintWords Go.Proofs.YtadjoaipmcbieaaW.PrintLast Go.Proofs.YtadjoaipmcbieaaW.PrintMore A
theorem bads_iff {L z : Int} (hz : z = 0) : ∀ {t : List Int}, bads L t z = 0 ↔ ∀ n ∈ t, badN L n = 0
  | [] => by simp [bads, hz]
  | n :: r => by
    simp only [bads, List.mem_cons, forall_eq_or_imp]
    by_cases h : badN L n = 0
    · rw [if_pos h, bads_iff hz]; exact ⟨fun x => ⟨h, x⟩, fun x => x.2⟩
    · rw [if_neg h]; exact ⟨fun x => absurd x h, fun x => absurd x.1 h⟩
theorem bads_end_ {L z : Int} : ∀ {t : List Int}, bads L t z = 0 → z = 0
  | [], h => h
  | n :: r, h => by
    simp only [bads] at h
    by_cases hb : badN L n = 0
    · rw [if_pos hb] at h; exact bads_end_ h
    · rw [if_neg hb] at h; exact absurd h hb
theorem shape_ter {l : List S89} (hl : GoodL l) {t : List Int} (h : Ter l t) : shape l t = 0 := by
  have h1 := fin_isT (an_ar hl) h [] 0
  have h2 := h.pos
  unfold shape
  rw [if_neg (by omega), if_pos (by simpa using h1)]
theorem chk_iff {l : List S89} (hl : GoodL l) {t : List Int} : chk l t = 0 ↔ t.length ≤ 2000 ∧ Ter l t ∧ ∀ n ∈ t, badN l.length n = 0 := by
  constructor
  · intro h
    have h2 := chk_len h
    refine ⟨h2, chk_ter hl h, ?_⟩
    unfold chk at h
    rw [if_neg (by omega)] at h
    exact (bads_iff (bads_end_ h)).1 h
  · rintro ⟨h1, h2, h3⟩
    unfold chk
    rw [if_neg (by omega)]
    exact (bads_iff (shape_ter hl h2)).2 h3
section
variable {l : List S89} {t u : List Int} {p : Nat}
end
section
variable {l : List S89} {t t' : List Int} {p : Nat}
end
end Go.Proofs.Ytadjoaipmcbieaa
