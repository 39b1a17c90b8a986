/- The texts MM, S6, N0, L0, Q1, C0, C1, UU, U4, Y1, Y2, Y3, joined by wip/slim.py: what the claim's theorem needs of them. (Those named W.. and G.. were printed by the kit's print.py for this seat.) -/
import Derived.Test.YtadjoaipmcbieaaOC3
import Derived.StillTailTactics
import Derived.StringKeys
import Derived.Laws.CopyOwn

/-! MM -/
namespace Go.Proofs.Ytadjoaipmcbieaa
open Go.RowKit Go.Proofs.YtadjoaipmcbieaaW.PrintWords Go.Proofs.YtadjoaipmcbieaaW.PrintLast Go.Proofs.YtadjoaipmcbieaaW.PrintMore A
open Go.Maps
theorem keyed9 : Keyed Try.prog 9 := string_keyed Try.underlying9
theorem zero3 (w : World) : (zeroValue 3).run Try.prog w = .ok (.int .i64 0) w := by kernel_rfl
/-- The block m is a map that has just these keys. -/
def IdxM (w : World) (m : Nat) (ks : List ByteArray) : Prop :=
  ∃ D : DataW Unit, w.ownsMap Try.prog 9 (plainElem Try.prog 3) m ks.length D ∧ ∀ k : ByteArray, Maps.has D (.string k.data.toList) = ks.any (fun x => decide (x = k))
theorem IdxM.kept {w w' : World} {m : Nat} {ks : List ByteArray} {row : Option Nat} (h : IdxM w m ks) (hg : w.grownBy w' row) (hne : some m ≠ row) : IdxM w' m ks := by
  obtain ⟨D, h1, h2⟩ := h
  exact ⟨D, h1.kept hg hne, h2⟩
theorem IdxM.lt {w : World} {m : Nat} {ks : List ByteArray} (h : IdxM w m ks) : m < w.heap.size := by
  obtain ⟨D, h1, _⟩ := h
  exact h1.lt
theorem IdxM.below {w w' : World} {m : Nat} {ks : List ByteArray} (h : IdxM w m ks) (hb : Below w.heap.size w w') : IdxM w' m ks := h.kept (grown_of_below hb none) (by simp)
theorem new_any (w : World) :
    Calls Try.prog 72 #[] w fun e w' => e = .returned (.pointer (some ⟨w.heap.size + 1, 0, none⟩)) ∧ w' = (w.alloc (.map #[] 0)).alloc (.cells #[.slice none 0 0, .map (some w.heap.size)] 126) := by
  have hmm := @run_makeMap Try.prog
  go_enter Try.func72, Try.ntmps72
  go_wp2
  go_ret
  exact ⟨rfl, rfl⟩
end Go.Proofs.Ytadjoaipmcbieaa
namespace Go.Proofs.Ytadjoaipmcbieaa
open Go.RowKit Go.Proofs.YtadjoaipmcbieaaW.PrintWords Go.Proofs.YtadjoaipmcbieaaW.PrintLast Go.Proofs.YtadjoaipmcbieaaW.PrintMore A
open Go.Maps
set_option linter.unusedSimpArgs false
theorem info89 : (Try.prog.info? 89).map (fun i => (i.zero, i.size, i.bytes)) = some (some (.agg #[.string ⟨#[]⟩, .int .i64 0, .bool false]), 3, 32) := by kernel_rfl
def xV (x : S89) : Value := .agg #[.string x.f0, .int .i64 x.f1, .bool x.f2]
theorem look_any {w : World} {m : Nat} {ks : List ByteArray} (h : IdxM w m ks) (key : ByteArray) (hk : key.size ≤ maxLen) : ∃ c : Int, ∀ W : World, W.heap[m]? = w.heap[m]? →
    (Instr.lookup 124 (.map (some m)) (.string key) true).run Try.prog W = .ok (.tuple #[.int .i64 c, .bool (ks.any (fun x => decide (x = key)))]) W := by
  obtain ⟨D, ho, hh⟩ := h
  have hkey := Go.WideMaps.keyOf_string_mk (P := Try.prog) Try.underlying9 (s := key) hk
  have hw0 : (Lit.int IntKind.i64 0).wf = true := by decide
  obtain ⟨c, hc⟩ : ∃ c : Int, D.atKey (.string key.data.toList) (.lit (.int .i64 0)) = .lit (.int .i64 c) := by
    obtain ⟨v, ps, hrun, hv⟩ := ho.look_ok keyed9 Try.underlying124 (zero3 w) (plainElem_int Try.underlying3 hw0) hkey
    obtain ⟨c, rfl, hc, _⟩ := plainElem_int_inv Try.underlying3 hv
    exact ⟨c, congrArg Prod.fst hc⟩
  refine ⟨c, fun W hW => ?_⟩
  have ho' : W.ownsMap Try.prog 9 (plainElem Try.prog 3) m ks.length D := by
    obtain ⟨es, clock, hb, r⟩ := ho
    exact ⟨es, clock, hW.trans hb, r⟩
  obtain ⟨v, ps, hrun, hv⟩ := ho'.look_ok keyed9 Try.underlying124 (zero3 W) (plainElem_int Try.underlying3 hw0) hkey
  rw [hc] at hv
  obtain ⟨c', rfl, hc', _⟩ := plainElem_int_inv Try.underlying3 hv
  simp only [Prod.mk.injEq, DataW.lit.injEq, Lit.int.injEq, true_and] at hc'
  rw [hrun, hh, hc'.1]
theorem R_ne_map {α : Type} {d : Kd α} {e : Nat} {w : World} {base : Nat} {ok : Nat → Prop} {v : Value} {xs : List α} (h : d.R e w base ok v xs) {m : Nat} {es : Array MapEntry} {clock : Nat} (hm : w.heap[m]? = some (.map es clock)) : d.R e w base (fun k => ok k ∧ k ≠ m) v xs :=
  Kd.R_mono (Kd.R_bound h) (fun k hk => ⟨hk.1, by
    rintro rfl
    obtain ⟨_, _, _, q, _, cells, hc⟩ := hk
    rw [hc] at hm
    cases hm⟩)
theorem ne_of_idx {α : Type} {d : Kd α} {e : Nat} {w : World} {base : Nat} {ok : Nat → Prop} {v : Value} {xs : List α} (h : d.R e w base ok v xs) {m : Nat} {ks : List ByteArray} (hm : IdxM w m ks) : (∀ k, v.ownBlock = some k → k ≠ m) ∧ d.R e w base (fun k => ok k ∧ k ≠ m) v xs := by
  obtain ⟨_, ⟨es, clock, hb, _⟩, _⟩ := hm
  exact ⟨fun k hk => ((R_ne_map h hb).1 k hk).2, R_ne_map h hb⟩
theorem bytes_ext {a b : ByteArray} (h : a.data.toList = b.data.toList) : a = b := by
  cases a; cases b; simp at h; rw [h]
theorem put_has {D : DataW Unit} (hD : IsMap D) {l : List S89} (hh : ∀ k : ByteArray, Maps.has D (.string k.data.toList) = (l.map (·.f0)).any (fun x => decide (x = k))) (x : S89) (d : DataW Unit) (k : ByteArray) :
    Maps.has (D.put (.string x.f0.data.toList) d) (.string k.data.toList) = ((l ++ [x]).map (·.f0)).any (fun x => decide (x = k)) := by
  rw [List.map_append, List.any_append, ← hh k]
  by_cases e : x.f0 = k
  · subst e
    rw [Maps.has_put_same hD (by trivial)]
    simp
  · rw [Maps.has_put_other (by intro h; injection h with h; exact e (bytes_ext h).symm)]
    simp [e]
theorem hat_le {a b : Option Nat} {n m : Nat} (h : a = b ∨ ∃ k, a = some k ∧ n ≤ k) (hle : m ≤ n) : a = b ∨ ∃ k, a = some k ∧ m ≤ k := h.imp id (fun ⟨k, h1, h2⟩ => ⟨k, h1, Nat.le_trans hle h2⟩)
theorem frozen_of_row {w : World} {g : Nat} {cs : Array Value} {t : TypeId} (h : w.heap[g]? = some (.cells cs t (0, 0))) (i : Nat) : w.frozen? ⟨g, i, none⟩ = false := by simp [World.frozen?, h]
theorem blk_set0 {w : World} {g : Nat} {a b : Value} {t : TypeId} (h : w.heap[g]? = some (.cells #[a, b] t (0, 0))) (u : Value) : (w.setCell ⟨g, 0, none⟩ u).heap[g]? = some (.cells #[u, b] t (0, 0)) := by
  simp [World.setCell, Array.getElem?_modify, h]
set_option maxRecDepth 100000 in
set_option maxHeartbeats 2000000 in
theorem add_ok (base g m kk : Nat) (v : Value) (l : List S89) (x : S89) (w : World) (hg : w.heap[g]? = some (.cells #[v, .map (some m)] 126 (0, 0))) (hbg : base ≤ g) (hbm : base ≤ m)
    (hv : Kd.R k89 89 w base (fun _ => True) v l) (hm : IdxM w m (l.map (·.f0))) (hsz : x.f0.size ≤ maxLen)
    (h1 : sig_IsName.f kk x.f0 = some true) (h2 : 0 ≤ x.f1) (h3 : x.f1 ≤ 6) (h4 : (l.map (·.f0)).any (fun y => decide (y = x.f0)) = false) (h5 : l.length < 64) :
    Calls Try.prog 73 #[.pointer (some ⟨g, 0, none⟩), xV x] w fun e w' => ∃ v', e = .returned (.tuple #[.int .i64 l.length, .int .i64 0]) ∧
      w'.heap[g]? = some (.cells #[v', .map (some m)] 126 (0, 0)) ∧ Kd.R k89 89 w' base (fun _ => True) v' (l ++ [x]) ∧ IdxM w' m ((l ++ [x]).map (·.f0)) ∧ Below base w w' ∧ Kept w w' (fun k => k = g ∨ k = m ∨ v.ownBlock = some k) ∧ (v'.ownBlock = v.ownBlock ∨ ∃ b, v'.ownBlock = some b ∧ w.heap.size ≤ b) := by
  have hgl := blk_lt hg
  have hml := hm.lt
  obtain ⟨A, c, rfl⟩ := Kd.R_slice hv
  have e5 : ((l.length : Int) == 64) = false := beq_eq_false_iff_ne.2 (by omega)
  have c0 := cell_alloc (cell_of_row w g 0 _ _ _ hg)
  have c1 := cell_alloc (cell_of_row w g 1 _ _ _ hg)
  obtain ⟨x0, x1, x2⟩ := x
  simp only [xV] at *
  obtain ⟨cz, hlk⟩ := look_any hm x0 hsz
  rw [h4] at hlk
  have hlk1 := fun (O : Obj) (n : Nat) => hlk ((w.alloc O).drewN n) (Below.heap_alloc w O m hml)
  have hlk2 := fun (O : Obj) => hlk (w.alloc O) (Below.heap_alloc w O m hml)
  clear hlk
  go_enter Try.func73, Try.ntmps73
  go_wp2
  go_quiet (fail)
  go_wp2_with (go_at_call 100; refine (sig_IsName.calls kk x0 true _ h1).mono ?_; rintro e w1 ⟨rfl, ⟨nd, rfl⟩⟩)
  obtain ⟨W, hW⟩ : ∃ W : World, W = (w.alloc (Obj.cells #[Value.string x0, Value.int IntKind.i64 x1, Value.bool x2] 89)).drewN (nq + nd) := ⟨_, rfl⟩
  rw [← hW]
  have hBW : Below w.heap.size w W := by rw [hW]; exact pw_below_drewN (below_alloc (Below.refl _ _) _) _
  have hsW : W.heap.size = w.heap.size + 1 := by rw [hW]; simp
  have hX : W.heap[w.heap.size]? = some (.cells #[Value.string x0, Value.int IntKind.i64 x1, Value.bool x2] 89 (0, 0)) := by rw [hW]; exact heap_alloc_new w _
  have hG := (hBW.block g hgl).trans hg
  have hV := Kd.R_below hv hBW
  have hM := hm.below hBW
  have hvl : ∀ k, (Value.slice A l.length c).ownBlock = some k → k < w.heap.size := by
    obtain ⟨inner, hown⟩ := Kd.R_own hv
    exact own_lt hown
  have hBB := hBW.mono (show base ≤ w.heap.size by omega)
  have HKW : Aside0 (Kept w W (fun k => k = g ∨ k = m ∨ (Value.slice A l.length c).ownBlock = some k)) := ⟨Kept.of_below hBW _⟩
  clear hlk1 hlk2 hW hBW hg hv hm
  replace c0 := cell_of_row W g 0 _ _ _ hG
  replace c1 := cell_of_row W g 1 _ _ _ hG
  have b0 := cell_of_row W w.heap.size 0 _ _ _ hX
  have b1 := cell_of_row W w.heap.size 1 _ _ _ hX
  have b2 := cell_of_row W w.heap.size 2 _ _ _ hX
  simp at c0 c1 b0 b1 b2
  go_still_tail 7, (by kernel_rfl)
  change wpList _ _ _ _ _ W.drew
  obtain ⟨D, ho, hh⟩ := hM
  have hkey := Go.WideMaps.keyOf_string_mk (P := Try.prog) Try.underlying9 (s := x0) hsz
  refine wpList_mapUpdate_own _ rfl (.tmp 52) (.tmp 54) (.tmp 55) 124 rfl 9 3 keyed9 Try.underlying124 (plainElem Try.prog 3) m _ D rfl ho.drew (by rw [List.length_map]; unfold maxLen; omega) (.string x0) (.int .i64 l.length) _ rfl rfl hkey (.lit (.int .i64 l.length)) [] (plainElem_int Try.underlying3 (by go_wf)) ?_
  intro w2 ho2 hg2
  have hne : some m ≠ some g := by
    intro e
    injection e with e
    subst e
    obtain ⟨es, clock, hb, _⟩ := ho
    rw [hG] at hb
    injection hb with hb
    cases hb
  have hG2 := (hg2.block g (blk_lt hG) (Ne.symm hne)).trans hG
  have hX2 := (hg2.block w.heap.size (by simp; omega) (by simp; omega)).trans hX
  have hV2 : Kd.R k89 89 w2 base (fun _ => True) (.slice A l.length c) l := by
    obtain ⟨es, clock, hb, _⟩ := ho
    exact Kd.R_mono (Kd.R_grown (R_ne_map (show Kd.R k89 89 W.drew base (fun _ => True) (.slice A l.length c) l from hV) hb) hg2 (fun k hk e => hk.2 (by injection e))) (fun _ hk => hk.1)
  have hB2 : Below base w w2 := hBB.trans ⟨hg2.os, hg2.tape, hg2.output, hg2.size, fun k hk => hg2.block k (by have := hBB.size; simp; omega) (by simp; omega)⟩
  have HK2 : Aside0 (Kept w w2 (fun k => k = g ∨ k = m ∨ (Value.slice A l.length c).ownBlock = some k)) := ⟨Kept.of_grown hg2 (show Kept w W.drew _ from HKW.out) (fun k hk => by injection hk with hk; exact .inl (.inr (.inl hk.symm)))⟩
  clear HKW
  have hM2 : IdxM w2 m ((l ++ [(⟨x0, x1, x2⟩ : S89)]).map (·.f0)) := ⟨_, by simpa using ho2, fun k => put_has ho.isMap hh (⟨x0, x1, x2⟩ : S89) _ k⟩
  clear ho hh hG hX hV ho2 hg2 hne hBB
  replace c0 := cell_of_row w2 g 0 _ _ _ hG2
  replace c1 := cell_of_row w2 g 1 _ _ _ hG2
  replace b0 := cell_of_row w2 w.heap.size 0 _ _ _ hX2
  replace b1 := cell_of_row w2 w.heap.size 1 _ _ _ hX2
  replace b2 := cell_of_row w2 w.heap.size 2 _ _ _ hX2
  simp at c0 c1 b0 b1 b2
  go_wp2
  refine start_ (n := 11) (S := fun w' => w'.cell? ⟨g, 0, none⟩ = some (.slice A l.length c) ∧ w'.cell? ⟨w.heap.size, 0, none⟩ = some (.string x0) ∧ w'.cell? ⟨w.heap.size, 1, none⟩ = some (.int .i64 x1) ∧ w'.cell? ⟨w.heap.size, 2, none⟩ = some (.bool x2)) (ds := [10]) #[false, false, false, false, false, false, false, false, false, false, false] (by kernel_rfl) rfl rfl ⟨c0, b0, b1, b2⟩ (fun hHeld => ?_)
  replace hV2 : Kd.R k89 89 w2.drew base (fun _ => True) (.slice A l.length c) l := hV2
  replace hB2 : Below base w w2.drew := hB2.drew
  replace HK2 : Aside0 (Kept w w2.drew (fun k => k = g ∨ k = m ∨ (Value.slice A l.length c).ownBlock = some k)) := HK2
  replace hM2 : IdxM w2.drew m ((l ++ [(⟨x0, x1, x2⟩ : S89)]).map (·.f0)) := hM2
  replace hG2 : w2.drew.heap[g]? = some (.cells #[.slice A l.length c, .map (some m)] 126 (0, 0)) := hG2
  replace hX2 : w2.drew.heap[w.heap.size]? = some (.cells #[Value.string x0, Value.int IntKind.i64 x1, Value.bool x2] 89 (0, 0)) := hX2
  have hb2s : base ≤ w2.drew.heap.size := by have := blk_lt hG2; omega
  have hxs : w.heap.size < w2.drew.heap.size := blk_lt hX2
  clear c0 c1 b0 b1 b2
  generalize w2.drew = w5 at *
  have HV2 := Aside0.mk hV2
  have HB2 := Aside0.mk hB2
  have HM2 := Aside0.mk hM2
  have HG2 := Aside0.mk hG2
  have HX2 := Aside0.mk hX2
  replace hvl : ∀ k, (Value.slice A l.length c).ownBlock = some k → k ≠ w.heap.size := fun k hk => by have := hvl k hk; omega
  clear hV2 hB2 hM2 hG2 hX2
  refine pure_ (i := 0) (N := some 56) (v := ?_) (a' := ?_) #[true, false, false, false, false, false, false, false, false, false, false] rfl rfl (by kernel_rfl) (fun _ _ _ h => h) (Or.inl ⟨by rfl, ?_⟩) ?_ ?_
  rotate_left
  · intro w'
    go_simp
    with_reducible rfl
  rotate_left
  · simp only [Act.put, List.setIfInBounds_toArray, List.set_cons_zero, List.set_cons_succ, i64_w, i32_w]
    rfl
  refine pure_ (i := 1) (N := some 57) (v := ?_) (a' := ?_) #[true, true, false, false, false, false, false, false, false, false, false] rfl rfl (by kernel_rfl) (fun _ _ _ h => h) (Or.inl ⟨by rfl, ?_⟩) ?_ ?_
  rotate_left
  · intro w'
    go_simp
    with_reducible rfl
  rotate_left
  · simp only [Act.put, List.setIfInBounds_toArray, List.set_cons_zero, List.set_cons_succ, i64_w, i32_w]
    rfl
  refine pure_ (i := 2) (N := some 58) (v := ?_) (a' := ?_) #[true, true, true, false, false, false, false, false, false, false, false] rfl rfl (by kernel_rfl) (fun _ _ _ h => h) (Or.inl ⟨by rfl, ?_⟩) ?_ ?_
  rotate_left
  · intro w'
    go_simp
    with_reducible rfl
  rotate_left
  · simp only [Act.put, List.setIfInBounds_toArray, List.set_cons_zero, List.set_cons_succ, i64_w, i32_w]
    rfl
  refine pure_ (i := 3) (N := some 59) (v := ?_) (a' := ?_) #[true, true, true, true, false, false, false, false, false, false, false] rfl rfl (by kernel_rfl) (fun _ _ _ h => h) (Or.inl ⟨by rfl, ?_⟩) ?_ ?_
  rotate_left
  · intro w'
    go_simp
    with_reducible rfl
  rotate_left
  · simp only [Act.put, List.setIfInBounds_toArray, List.set_cons_zero, List.set_cons_succ, i64_w, i32_w]
    rfl
  refine take_ (i := 4) (N := some 60) (v := ?_) (a' := ?_) #[true, true, true, true, true, false, false, false, false, false, false] rfl rfl (by kernel_rfl) (fun _ _ _ h => h) (Or.inl ⟨by rfl, ?_⟩) hHeld ?_ ?_
  rotate_left
  · rintro w' ⟨s0, s1, s2, s3⟩
    go_simp
    with_reducible rfl
  rotate_left
  · simp only [Act.put, List.setIfInBounds_toArray, List.set_cons_zero, List.set_cons_succ, i64_w, i32_w]
    rfl
  refine take_ (i := 5) (N := some 61) (v := ?_) (a' := ?_) #[true, true, true, true, true, true, false, false, false, false, false] rfl rfl (by kernel_rfl) (fun _ _ _ h => h) (Or.inl ⟨by rfl, ?_⟩) hHeld ?_ ?_
  rotate_left
  · rintro w' ⟨s0, s1, s2, s3⟩
    go_simp
    with_reducible rfl
  rotate_left
  · simp only [Act.put, List.setIfInBounds_toArray, List.set_cons_zero, List.set_cons_succ, i64_w, i32_w]
    rfl
  refine one_ (i := 6) (N := some 62) #[true, true, true, true, true, true, true, false, false, false, false] rfl rfl (by kernel_rfl) (by decide) (fun K hK => ?_)
  refine value_ (w1 := ?_) (v := ?_) (by rfl) rfl ?_ ?_
  rotate_left 2
  · go_simp
    constructor
    · rfl
    · rfl
  refine hK.out _ _ ⟨(cell_alloc hHeld.1 _), (cell_alloc hHeld.2.1 _), (cell_alloc hHeld.2.2.1 _), (cell_alloc hHeld.2.2.2 _)⟩ (fun hHeld => ?_)
  clear hK K
  refine norm_ (a' := ?_) ?_ ?_
  rotate_left
  · show Act.put _ (some 62) _ = _
    simp only [Act.put, List.setIfInBounds_toArray, List.set_cons_zero, List.set_cons_succ, i64_w, i32_w]
    rfl
  refine one_ (i := 7) (N := some 63) #[true, true, true, true, true, true, true, true, false, false, false] rfl rfl (by kernel_rfl) (by decide) (fun K hK => ?_)
  refine Kd.R_append_step (W := w5) k89 (w0 := w) base (by rfl) (.tmp 60) (.tmp 62) 23 89 (.agg #[.string ⟨#[]⟩, .int .i64 0, .bool false]) 32 (by rfl) Try.underlying23 info89 rfl (by decide) (by omega) (.slice A l.length c) l ⟨x0, x1, x2⟩ [.string x0, .int .i64 x1, .bool x2] (fun _ => True) (fun _ => False) (by rfl) (by rfl) (k89_mkM _ _ _ _) (fun _ hk => hk.elim) (fun _ _ => trivial) HV2.out HB2.out hb2s (by omega) ?_
  intro v3 w3 ho3 hb3 hg3 hat3
  have hG3 := (hg3.block g (blk_lt HG2.out) (Kd.R_ne HV2.out HG2.out (by decide))).trans HG2.out
  have hX3 := (hg3.block w.heap.size hxs (fun e => hvl w.heap.size e.symm rfl)).trans HX2.out
  have c03 := cell_of_row w3 g 0 _ _ _ hG3
  have f03 := frozen_of_row hG3 0
  obtain ⟨A3, c3, rfl⟩ := Kd.R_slice ho3
  rw [List.length_append, List.length_singleton] at ho3 hat3 ⊢
  simp at c03
  refine hK.out _ _ ⟨c03, (cell_of_row w3 w.heap.size 0 _ _ _ hX3), (cell_of_row w3 w.heap.size 1 _ _ _ hX3), (cell_of_row w3 w.heap.size 2 _ _ _ hX3)⟩ (fun hHeld => ?_)
  clear hK K
  refine norm_ (a' := ?_) ?_ ?_
  rotate_left
  · show Act.put _ (some 63) _ = _
    simp only [Act.put, List.setIfInBounds_toArray, List.set_cons_zero, List.set_cons_succ, i64_w, i32_w]
    rfl
  refine pure_ (i := 8) (N := some 64) (v := ?_) (a' := ?_) #[true, true, true, true, true, true, true, true, true, false, false] rfl rfl (by kernel_rfl) (fun _ _ _ h => h) (Or.inl ⟨by rfl, ?_⟩) ?_ ?_
  rotate_left
  · intro w'
    go_simp
    with_reducible rfl
  rotate_left
  · simp only [Act.put, List.setIfInBounds_toArray, List.set_cons_zero, List.set_cons_succ, i64_w, i32_w]
    rfl
  refine pure_ (i := 9) (N := some 65) (v := ?_) (a' := ?_) #[true, true, true, true, true, true, true, true, true, true, false] rfl rfl (by kernel_rfl) (fun _ _ _ h => h) (Or.inl ⟨by rfl, ?_⟩) ?_ ?_
  rotate_left
  · intro w'
    go_simp
    with_reducible rfl
  rotate_left
  · simp only [Act.put, List.setIfInBounds_toArray, List.set_cons_zero, List.set_cons_succ, i64_w, i32_w]
    rfl
  refine last_ (i := 10) (N := none) #[true, true, true, true, true, true, true, true, true, true, true] rfl rfl (by kernel_rfl) (by decide) (fun K hK => ?_)
  refine skip_ (w1 := ?_) (by rfl) rfl ?_ ?_
  rotate_left
  · go_simp
    rfl
  refine hK.out _ _ ?_
  clear hK K
  refine done_ (by kernel_rfl) ?_
  go_wp2
  go_ret2
  have hM3 : IdxM w3 m ((l ++ [(⟨x0, x1, x2⟩ : S89)]).map (·.f0)) := HM2.out.kept hg3 (fun e => (ne_of_idx HV2.out HM2.out).1 m (by rw [← e]) rfl)
  have hgm : m ≠ g := by
    rintro rfl
    obtain ⟨_, ⟨es, clock, hb, _⟩, _⟩ := hM3
    rw [hG3] at hb
    cases hb
  refine ⟨_, rfl, blk_set0 hG3 _, Kd.R_set ho3 hG3 (by decide) 0 _, ?_, hb3.setCell (p := ⟨g, 0, none⟩) hbg _, (Kept.of_grown hg3 HK2.out (fun k hk => .inl (.inr (.inr hk)))).setCell (p := ⟨g, 0, none⟩) (.inl (.inl rfl)) _, hat_le hat3 HK2.out.1⟩
  obtain ⟨D3, h31, h32⟩ := hM3
  exact ⟨D3, h31.setCell (a := ⟨g, 0, none⟩) hgm _, h32⟩
end Go.Proofs.Ytadjoaipmcbieaa
namespace Go.Proofs.Ytadjoaipmcbieaa
open Go.RowKit Go.Proofs.YtadjoaipmcbieaaW.PrintWords Go.Proofs.YtadjoaipmcbieaaW.PrintLast Go.Proofs.YtadjoaipmcbieaaW.PrintMore A
open Go.Maps
set_option maxRecDepth 100000 in
set_option maxHeartbeats 2000000 in
theorem add_bad (g m kk : Nat) (A : Option Addr) (c : Nat) (l : List S89) (x : S89) (e : Int) (w : World) (hg : w.heap[g]? = some (.cells #[.slice A l.length c, .map (some m)] 126 (0, 0)))
    (hm : IdxM w m (l.map (·.f0))) (hsz : x.f0.size ≤ maxLen) (nm : Bool) (h1 : sig_IsName.f kk x.f0 = some nm)
    (he : (nm = false ∧ e = 10) ∨ (nm = true ∧ (x.f1 < 0 ∨ 6 < x.f1) ∧ e = 11) ∨ (nm = true ∧ 0 ≤ x.f1 ∧ x.f1 ≤ 6 ∧ (l.map (·.f0)).any (fun y => decide (y = x.f0)) = true ∧ e = 12) ∨ (nm = true ∧ 0 ≤ x.f1 ∧ x.f1 ≤ 6 ∧ (l.map (·.f0)).any (fun y => decide (y = x.f0)) = false ∧ l.length = 64 ∧ e = 13)) :
    Calls Try.prog 73 #[.pointer (some ⟨g, 0, none⟩), xV x] w fun e' w' => e' = .returned (.tuple #[.int .i64 0, .int .i64 e]) ∧ Below w.heap.size w w' := by
  have hgl := blk_lt hg
  have hml := hm.lt
  have c0 := cell_alloc (cell_of_row w g 0 _ _ _ hg)
  have c1 := cell_alloc (cell_of_row w g 1 _ _ _ hg)
  obtain ⟨x0, x1, x2⟩ := x
  simp only [xV] at *
  obtain ⟨cz, hlk⟩ := look_any hm x0 hsz
  have hb0 : ∀ (O : Obj) n, Below w.heap.size w ((w.alloc O).drewN n) := fun O n => pw_below_drewN (below_alloc (Below.refl _ _) _) _
  have HB0 := Aside0.mk hb0
  clear hb0
  rcases he with ⟨rfl, rfl⟩ | ⟨rfl, h2, rfl⟩ | ⟨rfl, h2, h3, h4, rfl⟩ | ⟨rfl, h2, h3, h4, h5, rfl⟩
  · generalize (l.map (·.f0)).any (fun y => decide (y = x0)) = th at hlk
    have hlk1 := fun (O : Obj) (n : Nat) => hlk ((w.alloc O).drewN n) (Below.heap_alloc w O m hml)
    have hlk2 := fun (O : Obj) => hlk (w.alloc O) (Below.heap_alloc w O m hml)
    clear hlk
    go_enter Try.func73, Try.ntmps73
    go_wp2
    go_quiet (fail)
    go_wp2_with (go_at_call 100; refine (sig_IsName.calls kk x0 false _ h1).mono ?_; rintro e w1 ⟨rfl, ⟨nd, rfl⟩⟩)
    go_ret2
    exact ⟨rfl, HB0.out _ _⟩
  · generalize (l.map (·.f0)).any (fun y => decide (y = x0)) = th at hlk
    have hlk1 := fun (O : Obj) (n : Nat) => hlk ((w.alloc O).drewN n) (Below.heap_alloc w O m hml)
    have hlk2 := fun (O : Obj) => hlk (w.alloc O) (Below.heap_alloc w O m hml)
    clear hlk
    rcases h2 with h2 | h2
    · have e1 : decide (x1 < 0) = true := decide_eq_true h2
      go_enter Try.func73, Try.ntmps73
      go_wp2
      go_quiet (fail)
      go_wp2_with (go_at_call 100; refine (sig_IsName.calls kk x0 true _ h1).mono ?_; rintro e w1 ⟨rfl, ⟨nd, rfl⟩⟩)
      go_ret2
      exact ⟨rfl, HB0.out _ _⟩
    · have e1 : decide (x1 < 0) = false := decide_eq_false (by omega)
      have e2 : decide (6 < x1) = true := decide_eq_true h2
      go_enter Try.func73, Try.ntmps73
      go_wp2
      go_quiet (fail)
      go_wp2_with (go_at_call 100; refine (sig_IsName.calls kk x0 true _ h1).mono ?_; rintro e w1 ⟨rfl, ⟨nd, rfl⟩⟩)
      go_ret2
      exact ⟨rfl, HB0.out _ _⟩
  · rw [h4] at hlk
    have hlk1 := fun (O : Obj) (n : Nat) => hlk ((w.alloc O).drewN n) (Below.heap_alloc w O m hml)
    have hlk2 := fun (O : Obj) => hlk (w.alloc O) (Below.heap_alloc w O m hml)
    clear hlk
    go_enter Try.func73, Try.ntmps73
    go_wp2
    go_quiet (fail)
    go_wp2_with (go_at_call 100; refine (sig_IsName.calls kk x0 true _ h1).mono ?_; rintro e w1 ⟨rfl, ⟨nd, rfl⟩⟩)
    go_ret2
    exact ⟨rfl, HB0.out _ _⟩
  · rw [h4] at hlk
    have hlk1 := fun (O : Obj) (n : Nat) => hlk ((w.alloc O).drewN n) (Below.heap_alloc w O m hml)
    have hlk2 := fun (O : Obj) => hlk (w.alloc O) (Below.heap_alloc w O m hml)
    clear hlk
    have e5 : ((l.length : Int) == 64) = true := beq_iff_eq.2 (by omega)
    clear h5
    go_enter Try.func73, Try.ntmps73
    go_wp2
    go_quiet (fail)
    go_wp2_with (go_at_call 100; refine (sig_IsName.calls kk x0 true _ h1).mono ?_; rintro e w1 ⟨rfl, ⟨nd, rfl⟩⟩)
    go_ret2
    exact ⟨rfl, HB0.out _ _⟩
end Go.Proofs.Ytadjoaipmcbieaa
namespace Go.Proofs.Ytadjoaipmcbieaa
open Go.RowKit Go.Proofs.YtadjoaipmcbieaaW.PrintWords Go.Proofs.YtadjoaipmcbieaaW.PrintLast Go.Proofs.YtadjoaipmcbieaaW.PrintMore A
set_option linter.unusedSimpArgs false
theorem quiet_add_drawn {P : Program} {f : FuncId} {args : Array Value} {w : World} {a n : Nat} {v : Value}
    (h : Calls P f args (w.drewN (a + n)) fun e w' => e = .returned v ∧ Drawn0 (w.drewN (a + n)) w') : Calls P f args (w.drewN (a + n)) fun e w'' => e = .returned v ∧ ∃ m, w'' = w.drewN (a + m) :=
  h.mono fun _ _ ⟨he, ⟨m, hm⟩⟩ => ⟨he, n + m, by rw [hm, World.drewN_drewN, Nat.add_assoc]⟩
theorem blk_set00 {w : World} {g : Nat} {a : Value} {t : TypeId} (h : w.heap[g]? = some (.cells #[a] t (0, 0))) (u : Value) : (w.setCell ⟨g, 0, none⟩ u).heap[g]? = some (.cells #[u] t (0, 0)) := by
  simp [World.setCell, Array.getElem?_modify, h]
set_option maxRecDepth 100000 in
set_option maxHeartbeats 2000000 in
theorem radd_ok (base g kk k2 : Nat) (v : Value) (l : List S89) (x : S89) (w : World) (hg : w.heap[g]? = some (.cells #[v] 93 (0, 0))) (hbg : base ≤ g)
    (hv : Kd.R k89 89 w base (fun _ => True) v l)
    (h1 : ropewalkref01_IsName.f kk x.f0 = some true) (h2 : 0 ≤ x.f1) (h3 : x.f1 ≤ 6) (fd : Int) (h4 : ropewalkref01_Find.f k2 l x.f0 = some fd) (hfd : fd < 0) (h5 : l.length < 64) :
    Calls Try.prog 74 #[.pointer (some ⟨g, 0, none⟩), xV x] w fun e w' => ∃ v', e = .returned (.tuple #[.int .i64 l.length, .int .i64 0]) ∧
      w'.heap[g]? = some (.cells #[v'] 93 (0, 0)) ∧ Kd.R k89 89 w' base (fun _ => True) v' (l ++ [x]) ∧ Below base w w' ∧ Kept w w' (fun k => k = g ∨ v.ownBlock = some k) ∧ (v'.ownBlock = v.ownBlock ∨ ∃ b, v'.ownBlock = some b ∧ w.heap.size ≤ b) := by
  have hgl := blk_lt hg
  obtain ⟨A, c, rfl, hlc, hC⟩ := Kd.R_reads hv
  have e5 : decide (64 ≤ (l.length : Int)) = false := decide_eq_false (by omega)
  have e6 : decide (0 ≤ fd) = false := decide_eq_false (by omega)
  have c0 := cell_alloc (cell_of_row w g 0 _ _ _ hg)
  obtain ⟨x0, x1, x2⟩ := x
  simp only [xV] at *
  have HC0 : Aside0 (∀ W, Below w.heap.size w W → Kd.C k89 W A l.length l) := ⟨fun W hW => Kd.C_below hC hW⟩
  clear hC
  go_enter Try.func74, Try.ntmps74
  go_wp2_with (go_at_call 101; refine (ropewalkref01_IsName.calls kk x0 true _ h1).mono ?_; rintro e w1 ⟨rfl, ⟨nd, rfl⟩⟩)
  go_quiet ((go_at_call 102; exact quiet_add_drawn (ropewalkref01_Find.calls k2 A c l x0 fd _ (HC0.out _ (pw_below_drewN (below_alloc (Below.refl _ _) _) _)) hlc h4)))
  go_wp2
  obtain ⟨w2, hW⟩ : ∃ W : World, W = (w.alloc (Obj.cells #[Value.string x0, Value.int IntKind.i64 x1, Value.bool x2] 89)).drewN (nd + nq) := ⟨_, rfl⟩
  rw [← hW]
  have hBW : Below w.heap.size w w2 := by rw [hW]; exact pw_below_drewN (below_alloc (Below.refl _ _) _) _
  have hX2 : w2.heap[w.heap.size]? = some (.cells #[Value.string x0, Value.int IntKind.i64 x1, Value.bool x2] 89 (0, 0)) := by rw [hW]; exact heap_alloc_new w _
  have hG2 := (hBW.block g hgl).trans hg
  have hV2 := Kd.R_below hv hBW
  have hvl : ∀ k, (Value.slice A l.length c).ownBlock = some k → k < w.heap.size := by
    obtain ⟨inner, hown⟩ := Kd.R_own hv
    exact own_lt hown
  have hB2 := hBW.mono (show base ≤ w.heap.size by omega)
  have HK2 : Aside0 (Kept w w2 (fun k => k = g ∨ (Value.slice A l.length c).ownBlock = some k)) := ⟨Kept.of_below hBW _⟩
  clear hW hBW hg hv
  replace c0 := cell_of_row w2 g 0 _ _ _ hG2
  have b0 := cell_of_row w2 w.heap.size 0 _ _ _ hX2
  have b1 := cell_of_row w2 w.heap.size 1 _ _ _ hX2
  have b2 := cell_of_row w2 w.heap.size 2 _ _ _ hX2
  simp at c0 b0 b1 b2
  refine start_ (n := 11) (S := fun w' => w'.cell? ⟨g, 0, none⟩ = some (.slice A l.length c) ∧ w'.cell? ⟨w.heap.size, 0, none⟩ = some (.string x0) ∧ w'.cell? ⟨w.heap.size, 1, none⟩ = some (.int .i64 x1) ∧ w'.cell? ⟨w.heap.size, 2, none⟩ = some (.bool x2)) (ds := [10]) #[false, false, false, false, false, false, false, false, false, false, false] (by kernel_rfl) rfl rfl ⟨c0, b0, b1, b2⟩ (fun hHeld => ?_)
  replace hV2 : Kd.R k89 89 w2.drew base (fun _ => True) (.slice A l.length c) l := hV2
  replace hB2 : Below base w w2.drew := hB2.drew
  replace HK2 : Aside0 (Kept w w2.drew (fun k => k = g ∨ (Value.slice A l.length c).ownBlock = some k)) := HK2
  replace hG2 : w2.drew.heap[g]? = some (.cells #[.slice A l.length c] 93 (0, 0)) := hG2
  replace hX2 : w2.drew.heap[w.heap.size]? = some (.cells #[Value.string x0, Value.int IntKind.i64 x1, Value.bool x2] 89 (0, 0)) := hX2
  have hb2s : base ≤ w2.drew.heap.size := by have := blk_lt hG2; omega
  have hxs : w.heap.size < w2.drew.heap.size := blk_lt hX2
  clear c0 b0 b1 b2
  generalize w2.drew = w5 at *
  have HV2 := Aside0.mk hV2
  have HB2 := Aside0.mk hB2
  have HG2 := Aside0.mk hG2
  have HX2 := Aside0.mk hX2
  replace hvl : ∀ k, (Value.slice A l.length c).ownBlock = some k → k ≠ w.heap.size := fun k hk => by have := hvl k hk; omega
  clear hV2 hB2 hG2 hX2
  refine pure_ (i := 0) (N := some 34) (v := ?_) (a' := ?_) #[true, false, false, false, false, false, false, false, false, false, false] rfl rfl (by kernel_rfl) (fun _ _ _ h => h) (Or.inl ⟨by rfl, ?_⟩) ?_ ?_
  rotate_left
  · intro w'
    go_simp
    with_reducible rfl
  rotate_left
  · simp only [Act.put, List.setIfInBounds_toArray, List.set_cons_zero, List.set_cons_succ, i64_w, i32_w]
    rfl
  refine pure_ (i := 1) (N := some 35) (v := ?_) (a' := ?_) #[true, true, false, false, false, false, false, false, false, false, false] rfl rfl (by kernel_rfl) (fun _ _ _ h => h) (Or.inl ⟨by rfl, ?_⟩) ?_ ?_
  rotate_left
  · intro w'
    go_simp
    with_reducible rfl
  rotate_left
  · simp only [Act.put, List.setIfInBounds_toArray, List.set_cons_zero, List.set_cons_succ, i64_w, i32_w]
    rfl
  refine pure_ (i := 2) (N := some 36) (v := ?_) (a' := ?_) #[true, true, true, false, false, false, false, false, false, false, false] rfl rfl (by kernel_rfl) (fun _ _ _ h => h) (Or.inl ⟨by rfl, ?_⟩) ?_ ?_
  rotate_left
  · intro w'
    go_simp
    with_reducible rfl
  rotate_left
  · simp only [Act.put, List.setIfInBounds_toArray, List.set_cons_zero, List.set_cons_succ, i64_w, i32_w]
    rfl
  refine pure_ (i := 3) (N := some 37) (v := ?_) (a' := ?_) #[true, true, true, true, false, false, false, false, false, false, false] rfl rfl (by kernel_rfl) (fun _ _ _ h => h) (Or.inl ⟨by rfl, ?_⟩) ?_ ?_
  rotate_left
  · intro w'
    go_simp
    with_reducible rfl
  rotate_left
  · simp only [Act.put, List.setIfInBounds_toArray, List.set_cons_zero, List.set_cons_succ, i64_w, i32_w]
    rfl
  refine take_ (i := 4) (N := some 38) (v := ?_) (a' := ?_) #[true, true, true, true, true, false, false, false, false, false, false] rfl rfl (by kernel_rfl) (fun _ _ _ h => h) (Or.inl ⟨by rfl, ?_⟩) hHeld ?_ ?_
  rotate_left
  · rintro w' ⟨s0, s1, s2, s3⟩
    go_simp
    with_reducible rfl
  rotate_left
  · simp only [Act.put, List.setIfInBounds_toArray, List.set_cons_zero, List.set_cons_succ, i64_w, i32_w]
    rfl
  refine take_ (i := 5) (N := some 39) (v := ?_) (a' := ?_) #[true, true, true, true, true, true, false, false, false, false, false] rfl rfl (by kernel_rfl) (fun _ _ _ h => h) (Or.inl ⟨by rfl, ?_⟩) hHeld ?_ ?_
  rotate_left
  · rintro w' ⟨s0, s1, s2, s3⟩
    go_simp
    with_reducible rfl
  rotate_left
  · simp only [Act.put, List.setIfInBounds_toArray, List.set_cons_zero, List.set_cons_succ, i64_w, i32_w]
    rfl
  refine one_ (i := 6) (N := some 40) #[true, true, true, true, true, true, true, false, false, false, false] rfl rfl (by kernel_rfl) (by decide) (fun K hK => ?_)
  refine value_ (w1 := ?_) (v := ?_) (by rfl) rfl ?_ ?_
  rotate_left 2
  · go_simp
    constructor
    · rfl
    · rfl
  refine hK.out _ _ ⟨(cell_alloc hHeld.1 _), (cell_alloc hHeld.2.1 _), (cell_alloc hHeld.2.2.1 _), (cell_alloc hHeld.2.2.2 _)⟩ (fun hHeld => ?_)
  clear hK K
  refine norm_ (a' := ?_) ?_ ?_
  rotate_left
  · show Act.put _ (some 40) _ = _
    simp only [Act.put, List.setIfInBounds_toArray, List.set_cons_zero, List.set_cons_succ, i64_w, i32_w]
    rfl
  refine one_ (i := 7) (N := some 41) #[true, true, true, true, true, true, true, true, false, false, false] rfl rfl (by kernel_rfl) (by decide) (fun K hK => ?_)
  refine Kd.R_append_step (W := w5) k89 (w0 := w) base (by rfl) (.tmp 38) (.tmp 40) 23 89 (.agg #[.string ⟨#[]⟩, .int .i64 0, .bool false]) 32 (by rfl) Try.underlying23 info89 rfl (by decide) (by omega) (.slice A l.length c) l ⟨x0, x1, x2⟩ [.string x0, .int .i64 x1, .bool x2] (fun _ => True) (fun _ => False) (by rfl) (by rfl) (k89_mkM _ _ _ _) (fun _ hk => hk.elim) (fun _ _ => trivial) HV2.out HB2.out hb2s (by omega) ?_
  intro v3 w3 ho3 hb3 hg3 hat3
  have hG3 := (hg3.block g (blk_lt HG2.out) (Kd.R_ne HV2.out HG2.out (by decide))).trans HG2.out
  have hX3 := (hg3.block w.heap.size hxs (fun e => hvl w.heap.size e.symm rfl)).trans HX2.out
  have c03 := cell_of_row w3 g 0 _ _ _ hG3
  have f03 := frozen_of_row hG3 0
  obtain ⟨A3, c3, rfl⟩ := Kd.R_slice ho3
  rw [List.length_append, List.length_singleton] at ho3 hat3 ⊢
  simp at c03
  refine hK.out _ _ ⟨c03, (cell_of_row w3 w.heap.size 0 _ _ _ hX3), (cell_of_row w3 w.heap.size 1 _ _ _ hX3), (cell_of_row w3 w.heap.size 2 _ _ _ hX3)⟩ (fun hHeld => ?_)
  clear hK K
  refine norm_ (a' := ?_) ?_ ?_
  rotate_left
  · show Act.put _ (some 41) _ = _
    simp only [Act.put, List.setIfInBounds_toArray, List.set_cons_zero, List.set_cons_succ, i64_w, i32_w]
    rfl
  refine pure_ (i := 8) (N := some 42) (v := ?_) (a' := ?_) #[true, true, true, true, true, true, true, true, true, false, false] rfl rfl (by kernel_rfl) (fun _ _ _ h => h) (Or.inl ⟨by rfl, ?_⟩) ?_ ?_
  rotate_left
  · intro w'
    go_simp
    with_reducible rfl
  rotate_left
  · simp only [Act.put, List.setIfInBounds_toArray, List.set_cons_zero, List.set_cons_succ, i64_w, i32_w]
    rfl
  refine pure_ (i := 9) (N := some 43) (v := ?_) (a' := ?_) #[true, true, true, true, true, true, true, true, true, true, false] rfl rfl (by kernel_rfl) (fun _ _ _ h => h) (Or.inl ⟨by rfl, ?_⟩) ?_ ?_
  rotate_left
  · intro w'
    go_simp
    with_reducible rfl
  rotate_left
  · simp only [Act.put, List.setIfInBounds_toArray, List.set_cons_zero, List.set_cons_succ, i64_w, i32_w]
    rfl
  refine last_ (i := 10) (N := none) #[true, true, true, true, true, true, true, true, true, true, true] rfl rfl (by kernel_rfl) (by decide) (fun K hK => ?_)
  refine skip_ (w1 := ?_) (by rfl) rfl ?_ ?_
  rotate_left
  · go_simp
    rfl
  refine hK.out _ _ ?_
  clear hK K
  refine done_ (by kernel_rfl) ?_
  go_wp2
  go_ret2
  exact ⟨_, rfl, blk_set00 hG3 _, Kd.R_set ho3 hG3 (by decide) 0 _, hb3.setCell (p := ⟨g, 0, none⟩) hbg _, (Kept.of_grown hg3 HK2.out (fun k hk => .inl (.inr hk))).setCell (p := ⟨g, 0, none⟩) (.inl (.inl rfl)) _, hat_le hat3 HK2.out.1⟩
set_option maxRecDepth 100000 in
set_option maxHeartbeats 2000000 in
theorem radd_bad (g kk k2 : Nat) (A : Option Addr) (c : Nat) (l : List S89) (x : S89) (e : Int) (w : World) (hg : w.heap[g]? = some (.cells #[.slice A l.length c] 93 (0, 0)))
    (hlc : l.length ≤ c) (hC : Kd.C k89 w A l.length l)
    (nm : Bool) (h1 : ropewalkref01_IsName.f kk x.f0 = some nm) (fd : Int) (h4 : ropewalkref01_Find.f k2 l x.f0 = some fd)
    (he : (nm = false ∧ e = 10) ∨ (nm = true ∧ (x.f1 < 0 ∨ 6 < x.f1) ∧ e = 11) ∨ (nm = true ∧ 0 ≤ x.f1 ∧ x.f1 ≤ 6 ∧ 0 ≤ fd ∧ e = 12) ∨ (nm = true ∧ 0 ≤ x.f1 ∧ x.f1 ≤ 6 ∧ fd < 0 ∧ 64 ≤ l.length ∧ e = 13)) :
    Calls Try.prog 74 #[.pointer (some ⟨g, 0, none⟩), xV x] w fun e' w' => e' = .returned (.tuple #[.int .i64 0, .int .i64 e]) ∧ Below w.heap.size w w' := by
  have hgl := blk_lt hg
  have c0 := cell_alloc (cell_of_row w g 0 _ _ _ hg)
  obtain ⟨x0, x1, x2⟩ := x
  simp only [xV] at *
  have HC0 : Aside0 (∀ W, Below w.heap.size w W → Kd.C k89 W A l.length l) := ⟨fun W hW => Kd.C_below hC hW⟩
  clear hC
  have hb0 : ∀ (O : Obj) n, Below w.heap.size w ((w.alloc O).drewN n) := fun O n => pw_below_drewN (below_alloc (Below.refl _ _) _) _
  have HB0 := Aside0.mk hb0
  clear hb0
  rcases he with ⟨rfl, rfl⟩ | ⟨rfl, h2, rfl⟩ | ⟨rfl, h2, h3, h5, rfl⟩ | ⟨rfl, h2, h3, h5, h6, rfl⟩
  · go_enter Try.func74, Try.ntmps74
    go_wp2_with (go_at_call 101; refine (ropewalkref01_IsName.calls kk x0 false _ h1).mono ?_; rintro e w1 ⟨rfl, ⟨nd, rfl⟩⟩)
    go_ret2
    exact ⟨rfl, by first | exact HB0.out _ _ | exact pw_below_drewN (HB0.out _ _) _⟩
  · rcases h2 with h2 | h2
    · have e1 : decide (x1 < 0) = true := decide_eq_true h2
      go_enter Try.func74, Try.ntmps74
      go_wp2_with (go_at_call 101; refine (ropewalkref01_IsName.calls kk x0 true _ h1).mono ?_; rintro e w1 ⟨rfl, ⟨nd, rfl⟩⟩)
      go_ret2
      exact ⟨rfl, by first | exact HB0.out _ _ | exact pw_below_drewN (HB0.out _ _) _⟩
    · have e1 : decide (x1 < 0) = false := decide_eq_false (by omega)
      have e2 : decide (6 < x1) = true := decide_eq_true h2
      go_enter Try.func74, Try.ntmps74
      go_wp2_with (go_at_call 101; refine (ropewalkref01_IsName.calls kk x0 true _ h1).mono ?_; rintro e w1 ⟨rfl, ⟨nd, rfl⟩⟩)
      go_ret2
      exact ⟨rfl, by first | exact HB0.out _ _ | exact pw_below_drewN (HB0.out _ _) _⟩
  · have e6 : decide (0 ≤ fd) = true := decide_eq_true h5
    go_enter Try.func74, Try.ntmps74
    go_wp2_with (go_at_call 101; refine (ropewalkref01_IsName.calls kk x0 true _ h1).mono ?_; rintro e w1 ⟨rfl, ⟨nd, rfl⟩⟩)
    go_quiet ((go_at_call 102; exact quiet_add_drawn (ropewalkref01_Find.calls k2 A c l x0 fd _ (HC0.out _ (pw_below_drewN (below_alloc (Below.refl _ _) _) _)) hlc h4)))
    go_wp2
    go_ret2
    exact ⟨rfl, by first | exact HB0.out _ _ | exact pw_below_drewN (HB0.out _ _) _⟩
  · have e5 : decide (64 ≤ (l.length : Int)) = true := decide_eq_true (by omega)
    have e6 : decide (0 ≤ fd) = false := decide_eq_false (by omega)
    go_enter Try.func74, Try.ntmps74
    go_wp2_with (go_at_call 101; refine (ropewalkref01_IsName.calls kk x0 true _ h1).mono ?_; rintro e w1 ⟨rfl, ⟨nd, rfl⟩⟩)
    go_quiet ((go_at_call 102; exact quiet_add_drawn (ropewalkref01_Find.calls k2 A c l x0 fd _ (HC0.out _ (pw_below_drewN (below_alloc (Below.refl _ _) _) _)) hlc h4)))
    go_wp2
    go_ret2
    exact ⟨rfl, by first | exact HB0.out _ _ | exact pw_below_drewN (HB0.out _ _) _⟩
end Go.Proofs.Ytadjoaipmcbieaa
namespace Go.Proofs.Ytadjoaipmcbieaa
open Go.RowKit Go.Proofs.YtadjoaipmcbieaaW.PrintWords Go.Proofs.YtadjoaipmcbieaaW.PrintLast Go.Proofs.YtadjoaipmcbieaaW.PrintMore A
def smB (c : Int) : Bool := if c ≥ 97 then decide (c ≤ 122) else false
def dgB (c : Int) : Bool := if c ≥ 48 then decide (c ≤ 57) else false
theorem sm1 (c : Int) : sig_small.f c = some (smB c) := by unfold sig_small.f smB; split <;> rfl
theorem dg1 (c : Int) : sig_digit.f c = some (dgB c) := by unfold sig_digit.f dgB; split <;> rfl
theorem sm2 (c : Int) : ropewalkref01_small.f c = some (smB c) := by unfold ropewalkref01_small.f smB; split <;> rfl
theorem dg2 (c : Int) : ropewalkref01_digit.f c = some (dgB c) := by unfold ropewalkref01_digit.f dgB; split <;> rfl
def allB (f : Nat → Bool) : Nat → Nat → Bool
  | 0, _ => true
  | n + 1, i => f i && allB f n (i + 1)
def okB (a : ByteArray) (i : Nat) : Bool := smB (bt a i) || dgB (bt a i)
/-- May a symbol be called so? -/
def isNm (a : ByteArray) : Bool := if a.size = 0 then false else if 12 < a.size then false else if smB (bt a 0) = true then allB (okB a) (a.size - 1) 1 else false
theorem wrap_succ (i : Nat) (h : i < 1000) : wrap64 ((i : Int) + 1) = ((i + 1 : Nat) : Int) := by unfold wrap64; omega
theorem sig_l0 (a : ByteArray) (h12 : a.size ≤ 12) : ∀ (n i k : Nat), i + n = a.size → n < k → sig_IsName.l0 k a (a.size : Int) i = some (allB (okB a) n i)
  | 0, i, k + 1, h, _ => by simp only [sig_IsName.l0]; rw [if_neg (by omega)]; rfl
  | n + 1, i, k + 1, h, hk => by
    simp only [sig_IsName.l0]
    rw [if_pos (by omega), if_pos (by omega), if_pos (by omega), sm1, dg1]
    simp only [Option.bind_some]
    rw [wrap_succ i (by omega)]
    have ih := sig_l0 a h12 n (i + 1) k (by omega) (by omega)
    simp only [allB, okB]
    by_cases h1 : smB (bt a i) = true
    · rw [if_pos h1, ih, h1]; simp
    · rw [if_neg h1]
      by_cases h2 : dgB (bt a i) = true
      · rw [if_pos h2, ih, h2]; simp
      · rw [if_neg h2]; simp [h1, h2]
theorem sig_isName (a : ByteArray) : sig_IsName.f 20 a = some (isNm a) := by
  unfold sig_IsName.f isNm
  by_cases h0 : a.size = 0
  · rw [if_pos (by omega), if_pos h0]; simp [sig_IsName.j0]
  · rw [if_neg (by omega), if_neg h0]
    by_cases h1 : 12 < a.size
    · rw [if_pos (by omega), if_pos h1]; simp [sig_IsName.j0]
    · rw [if_neg (by omega), if_neg h1, if_pos (by omega), sm1]
      simp only [Option.bind_some, sig_IsName.j0]
      have h2 := sig_l0 a (by omega) a.size 0 19 (by omega) (by omega)
      by_cases h3 : smB (bt a 0) = true
      · rw [h3]
        simp only [Bool.not_true, if_true]
        rw [if_neg (by simp)]
        refine h2.trans ?_
        obtain ⟨n, hn⟩ : ∃ n, a.size = n + 1 := ⟨a.size - 1, by omega⟩
        rw [hn, Nat.add_sub_cancel]
        have h4 : okB a 0 = true := by unfold okB; rw [show ((0 : Nat) : Int) = 0 from rfl, h3]; rfl
        simp [allB, h4]
      · simp [h3]
theorem ref_l0 (a : ByteArray) (h12 : a.size ≤ 12) : ∀ (n i k : Nat), 0 < i → i + n = a.size → n < k → ropewalkref01_IsName.l0 k a i = some (allB (okB a) n i)
  | 0, i, k + 1, _, h, _ => by simp only [ropewalkref01_IsName.l0]; rw [if_neg (by omega)]; rfl
  | n + 1, i, k + 1, h0, h, hk => by
    simp only [ropewalkref01_IsName.l0]
    rw [if_pos (by omega), if_pos (by omega), sm2, dg2]
    simp only [Option.bind_some]
    rw [wrap_succ i (by omega)]
    have ih := ref_l0 a h12 n (i + 1) k (by omega) (by omega) (by omega)
    simp only [allB, okB]
    by_cases h1 : smB (bt a i) = true
    · rw [if_pos h1, ih, h1]; simp
    · rw [if_neg h1, if_neg (by omega)]
      by_cases h2 : dgB (bt a i) = true
      · rw [if_pos h2, ih, h2]; simp
      · rw [if_neg h2]; simp [h1, h2]
theorem ref_l00 (a : ByteArray) (h0 : a.size ≠ 0) (h12 : a.size ≤ 12) (k : Nat) (hk : 13 ≤ k) : ropewalkref01_IsName.l0 (k + 1) a 0 = some (if smB (bt a 0) = true then allB (okB a) (a.size - 1) 1 else false) := by
  simp only [ropewalkref01_IsName.l0]
  rw [if_pos (by omega), if_pos (by omega), sm2, dg2]
  simp only [Option.bind_some]
  by_cases h3 : smB (bt a 0) = true
  · rw [if_pos h3, if_pos h3, show wrap64 (0 + 1) = ((1 : Nat) : Int) by unfold wrap64; omega]
    exact ref_l0 a (by omega) (a.size - 1) 1 k (by omega) (by omega) (by omega)
  · rw [if_neg h3, if_neg h3, if_pos trivial]
theorem ref_isName (a : ByteArray) : ropewalkref01_IsName.f 20 a = some (isNm a) := by
  unfold ropewalkref01_IsName.f isNm
  by_cases h0 : a.size = 0
  · rw [if_pos (by omega), if_pos h0]; simp [ropewalkref01_IsName.j0]
  · rw [if_neg (by omega), if_neg h0]
    simp only [ropewalkref01_IsName.j0]
    by_cases h1 : 12 < a.size
    · rw [if_pos h1, if_pos (by simp; omega)]
    · rw [if_neg h1, if_neg (by simp; omega)]
      exact ref_l00 a h0 (by omega) 18 (by omega)
theorem toList_inj {a b : ByteArray} : a.toList = b.toList ↔ a = b := by
  constructor
  · intro h
    rw [ByteArray.toList_eq, ByteArray.toList_eq] at h
    exact bytes_ext h
  · rintro rfl; rfl
theorem find_l0 (l : List S89) (a : ByteArray) (hl : l.length ≤ 64) : ∀ (n i k : Nat), i + n = l.length → n < k →
    ∃ r : Int, ropewalkref01_Find.l0 k l a i = some r ∧ (0 ≤ r ↔ ((l.drop i).map (·.f0)).any (fun y => decide (y = a)) = true)
  | 0, i, k + 1, h, _ => ⟨-1, by simp only [ropewalkref01_Find.l0]; rw [if_neg (by omega)], by rw [List.drop_eq_nil_of_le (by omega)]; simp⟩
  | n + 1, i, k + 1, h, hk => by
    have hi : i < l.length := by omega
    have e : (rd_T89 l i) = l[i] := by simp [rd_T89, List.getD_eq_getElem?_getD, List.getElem?_eq_getElem hi]
    rw [List.drop_eq_getElem_cons hi]
    simp only [ropewalkref01_Find.l0]
    rw [if_pos (by omega), if_pos (by omega), e, wrap_succ i (by omega)]
    by_cases h1 : l[i].f0 = a
    · exact ⟨i, by rw [if_pos (by rw [h1])], by rw [List.map_cons, List.any_cons, decide_eq_true h1, Bool.true_or]; exact ⟨fun _ => rfl, fun _ => by omega⟩⟩
    · obtain ⟨r, hr, hr2⟩ := find_l0 l a hl n (i + 1) k (by omega) (by omega)
      exact ⟨r, by rw [if_neg (fun h => h1 (toList_inj.1 h))]; exact hr, by rw [hr2, List.map_cons, List.any_cons, decide_eq_false h1, Bool.false_or]⟩
theorem ref_find (l : List S89) (a : ByteArray) (hl : l.length ≤ 64) : ∃ r : Int, ropewalkref01_Find.f 66 l a = some r ∧ (0 ≤ r ↔ (l.map (·.f0)).any (fun y => decide (y = a)) = true) := by
  obtain ⟨r, hr, h⟩ := find_l0 l a hl l.length 0 66 (by omega) (by omega)
  exact ⟨r, hr, by simpa using h⟩
/-- What is wrong with a symbol that is to be added. -/
def addE (l : List S89) (x : S89) : Int :=
  if isNm x.f0 = false then 10 else if x.f1 < 0 ∨ 6 < x.f1 then 11 else if (l.map (·.f0)).any (fun y => decide (y = x.f0)) = true then 12 else if 64 ≤ l.length then 13 else 0
/-- The symbols that are taken, one behind the other. -/
def addL (l : List S89) (x : S89) : List S89 := if addE l x = 0 then l ++ [x] else l
def madeL (L : List S89) : List S89 := L.foldl addL []
theorem addL_good {l : List S89} {x : S89} (h : GoodL l) : GoodL (addL l x) := by
  unfold addL
  split
  · rename_i he
    unfold addE at he
    split at he
    · omega
    · split at he
      · omega
      · rename_i h2
        split at he
        · omega
        · split at he
          · omega
          · refine ⟨by rw [List.length_append, List.length_singleton]; omega, fun y hy => ?_⟩
            rcases List.mem_append.1 hy with hy | hy
            · exact h.ar y hy
            · rw [List.mem_singleton.1 hy]; omega
  · exact h
theorem made_good (L : List S89) : GoodL (madeL L) := by
  have key : ∀ (L : List S89) (l : List S89), GoodL l → GoodL (L.foldl addL l) := by
    intro L
    induction L with
    | nil => intro l h; exact h
    | cons x L ih => intro l h; exact ih _ (addL_good h)
  exact key L [] ⟨by simp, by simp⟩
end Go.Proofs.Ytadjoaipmcbieaa
namespace Go.Proofs.Ytadjoaipmcbieaa
open Go.RowKit Go.Proofs.YtadjoaipmcbieaaW.PrintWords Go.Proofs.YtadjoaipmcbieaaW.PrintLast Go.Proofs.YtadjoaipmcbieaaW.PrintMore A
/-- The program's signature while it is made. -/
structure SigW (w : World) (base g m : Nat) (v : Value) (l : List S89) : Prop where
  blk : w.heap[g]? = some (.cells #[v, .map (some m)] 126 (0, 0))
  bg : base ≤ g
  bm : base ≤ m
  row : Kd.R k89 89 w base (fun _ => True) v l
  idx : IdxM w m (l.map (·.f0))
  good : GoodL l
/-- The document's. -/
structure RefW (w : World) (base g : Nat) (v : Value) (l : List S89) : Prop where
  blk : w.heap[g]? = some (.cells #[v] 93 (0, 0))
  bg : base ≤ g
  row : Kd.R k89 89 w base (fun _ => True) v l
/-- Both, apart. -/
structure Two (w : World) (base g m g2 : Nat) (v v2 : Value) (l l2 : List S89) : Prop where
  sig : SigW w base g m v l
  ref : RefW w base g2 v2 l2
  ne : ∀ k, v.ownBlock = some k → v2.ownBlock ≠ some k
theorem Two.m_ne {w : World} {base g m g2 : Nat} {v v2 : Value} {l l2 : List S89} (h : Two w base g m g2 v v2 l l2) : m ≠ g ∧ m ≠ g2 ∧ g ≠ g2 := by
  obtain ⟨_, ⟨es, clock, hb, _⟩, _⟩ := h.sig.idx
  refine ⟨fun e => ?_, fun e => ?_, blk_ne h.sig.blk h.ref.blk (by decide)⟩
  · subst e; rw [h.sig.blk] at hb; cases hb
  · subst e; rw [h.ref.blk] at hb; cases hb
/-- What keeps both: new memory alone. -/
theorem Two.below {w w' : World} {base g m g2 : Nat} {v v2 : Value} {l l2 : List S89} (h : Two w base g m g2 v v2 l l2) (hb : Below w.heap.size w w') : Two w' base g m g2 v v2 l l2 :=
  ⟨⟨(hb.block _ (blk_lt h.sig.blk)).trans h.sig.blk, h.sig.bg, h.sig.bm, Kd.R_below h.sig.row hb, h.sig.idx.below hb, h.sig.good⟩,
   ⟨(hb.block _ (blk_lt h.ref.blk)).trans h.ref.blk, h.ref.bg, Kd.R_below h.ref.row hb⟩, h.ne⟩
theorem row_lt {w : World} {base : Nat} {v : Value} {l : List S89} (h : Kd.R k89 89 w base (fun _ => True) v l) : ∀ k, v.ownBlock = some k → k < w.heap.size := by
  obtain ⟨inner, hown⟩ := Kd.R_own h
  exact own_lt hown
/-- Which blocks a list of symbols may lie in: the row alone. -/
theorem reok {w : World} {base : Nat} {ok ok' : Nat → Prop} {v : Value} {l : List S89} (h : Kd.R k89 89 w base ok v l) (h' : ∀ k, v.ownBlock = some k → ok' k) : Kd.R k89 89 w base ok' v l := ⟨h', h.2⟩
theorem sigadd (base g m g2 : Nat) (v v2 : Value) (l l2 : List S89) (x : S89) (w : World) (h : Two w base g m g2 v v2 l l2) (hbw : base ≤ w.heap.size) (hsz : x.f0.size ≤ maxLen) :
    Calls Try.prog 73 #[.pointer (some ⟨g, 0, none⟩), xV x] w fun e w' => ∃ (n : Int) (v' : Value), e = .returned (.tuple #[.int .i64 n, .int .i64 (addE l x)]) ∧ Two w' base g m g2 v' v2 (addL l x) l2 ∧ Below base w w' := by
  by_cases he : addE l x = 0
  · have ha : addL l x = l ++ [x] := if_pos he
    have hg := addL_good (x := x) h.sig.good
    rw [ha] at hg ⊢
    rw [he]
    have hh := he
    unfold addE at hh
    split at hh
    · omega
    · rename_i h1
      split at hh
      · omega
      · rename_i h2
        split at hh
        · omega
        · rename_i h3
          split at hh
          · omega
          · rename_i h4
            refine (add_ok base g m 20 v l x w h.sig.blk h.sig.bg h.sig.bm h.sig.row h.sig.idx hsz (by rw [sig_isName]; simpa using h1) (by omega) (by omega) (by simpa using h3) (by omega)).mono ?_
            rintro e w' ⟨v', rfl, hb', hr', hi', hbel, hk, hat⟩
            obtain ⟨n1, n2, n3⟩ := h.m_ne
            refine ⟨_, v', rfl, ⟨⟨hb', h.sig.bg, h.sig.bm, hr', hi', hg⟩, ⟨?_, h.ref.bg, ?_⟩, ?_⟩, hbel⟩
            · refine (hk.2 _ (blk_lt h.ref.blk) ?_).trans h.ref.blk
              rintro (e | e | e)
              · exact n3 e.symm
              · exact n2 e.symm
              · exact (Kd.R_ne h.sig.row h.ref.blk (by decide)) e.symm
            · refine reok (Kd.R_kept (reok (ok' := fun k => ¬ (k = g ∨ k = m ∨ v.ownBlock = some k)) h.ref.row ?_) hk (fun k hk => hk)) (fun _ _ => trivial)
              rintro k hkk (e | e | e)
              · subst e; exact (Kd.R_ne h.ref.row h.sig.blk (by decide)) hkk.symm
              · subst e; exact (ne_of_idx h.ref.row h.sig.idx).1 k hkk rfl
              · exact h.ne k e hkk
            · intro k hk' hk2
              rcases hat with e | ⟨b, e, hle⟩
              · exact h.ne k (e ▸ hk') hk2
              · rw [e] at hk'
                injection hk' with hk'
                have := row_lt h.ref.row k hk2
                omega
  · have ha : addL l x = l := if_neg he
    rw [ha]
    obtain ⟨A, c, rfl⟩ := Kd.R_slice h.sig.row
    refine (add_bad g m 20 A c l x (addE l x) w h.sig.blk h.sig.idx hsz (isNm x.f0) (sig_isName _) ?_).mono ?_
    · unfold addE at he ⊢
      split
      · rename_i h1; exact .inl ⟨h1, rfl⟩
      · rename_i h1
        simp only [Bool.not_eq_false] at h1
        split
        · rename_i h2; exact .inr (.inl ⟨h1, h2, rfl⟩)
        · rename_i h2
          split
          · rename_i h3; exact .inr (.inr (.inl ⟨h1, by omega, by omega, h3, rfl⟩))
          · rename_i h3
            split
            · rename_i h4; exact .inr (.inr (.inr ⟨h1, by omega, by omega, by simpa using h3, by have := h.sig.good.len; omega, rfl⟩))
            · rename_i h4; rw [if_neg (by simp [h1]), if_neg h2, if_neg h3, if_neg h4] at he; exact absurd rfl he
    · rintro e w' ⟨rfl, hb⟩
      exact ⟨0, _, rfl, h.below hb, hb.mono hbw⟩
theorem refadd (base g m g2 : Nat) (v v2 : Value) (l l2 : List S89) (x : S89) (w : World) (h : Two w base g m g2 v v2 l l2) (hbw : base ≤ w.heap.size) (hl2 : GoodL l2) :
    Calls Try.prog 74 #[.pointer (some ⟨g2, 0, none⟩), xV x] w fun e w' => ∃ (n : Int) (v' : Value), e = .returned (.tuple #[.int .i64 n, .int .i64 (addE l2 x)]) ∧ Two w' base g m g2 v v' l (addL l2 x) ∧ Below base w w' := by
  obtain ⟨fd, hfd, hfd2⟩ := ref_find l2 x.f0 hl2.len
  obtain ⟨n1, n2, n3⟩ := h.m_ne
  by_cases he : addE l2 x = 0
  · have ha : addL l2 x = l2 ++ [x] := if_pos he
    rw [ha]
    rw [he]
    have hh := he
    unfold addE at hh
    split at hh
    · omega
    · rename_i h1
      split at hh
      · omega
      · rename_i h2
        split at hh
        · omega
        · rename_i h3
          split at hh
          · omega
          · rename_i h4
            refine (radd_ok base g2 20 66 v2 l2 x w h.ref.blk h.ref.bg h.ref.row (by rw [ref_isName]; simpa using h1) (by omega) (by omega) fd hfd (by rw [← hfd2] at h3; omega) (by omega)).mono ?_
            rintro e w' ⟨v', rfl, hb', hr', hbel, hk, hat⟩
            obtain ⟨D, hD, hh2⟩ := h.sig.idx
            have hne2 : ∀ k, v2.ownBlock = some k → k ≠ m := (ne_of_idx h.ref.row h.sig.idx).1
            refine ⟨_, v', rfl, ⟨⟨?_, h.sig.bg, h.sig.bm, ?_, ?_, h.sig.good⟩, ⟨hb', h.ref.bg, hr'⟩, ?_⟩, hbel⟩
            · refine (hk.2 _ (blk_lt h.sig.blk) ?_).trans h.sig.blk
              rintro (e | e)
              · exact n3 e
              · exact (Kd.R_ne h.ref.row h.sig.blk (by decide)) e.symm
            · refine reok (Kd.R_kept (reok (ok' := fun k => ¬ (k = g2 ∨ v2.ownBlock = some k)) h.sig.row ?_) hk (fun k hk => hk)) (fun _ _ => trivial)
              rintro k hkk (e | e)
              · subst e; exact (Kd.R_ne h.sig.row h.ref.blk (by decide)) hkk.symm
              · exact h.ne k hkk e
            · obtain ⟨es, clock, hb, r⟩ := hD
              refine ⟨D, ⟨es, clock, (hk.2 m (Array.getElem?_eq_some_iff.1 hb).1 ?_).trans hb, r⟩, hh2⟩
              rintro (e | e)
              · exact n2 e
              · exact hne2 m e rfl
            · intro k hk' hk2
              rcases hat with e | ⟨b, e, hle⟩
              · exact h.ne k hk' (e ▸ hk2)
              · rw [e] at hk2
                injection hk2 with hk2
                have := row_lt h.sig.row k hk'
                omega
  · have ha : addL l2 x = l2 := if_neg he
    rw [ha]
    obtain ⟨A, c, rfl, hlc, hC⟩ := Kd.R_reads h.ref.row
    refine (radd_bad g2 20 66 A c l2 x (addE l2 x) w h.ref.blk hlc hC (isNm x.f0) (ref_isName _) fd hfd ?_).mono ?_
    · unfold addE at he ⊢
      split
      · rename_i h1; exact .inl ⟨h1, rfl⟩
      · rename_i h1
        simp only [Bool.not_eq_false] at h1
        split
        · rename_i h2; exact .inr (.inl ⟨h1, h2, rfl⟩)
        · rename_i h2
          split
          · rename_i h3; exact .inr (.inr (.inl ⟨h1, by omega, by omega, hfd2.2 h3, rfl⟩))
          · rename_i h3
            split
            · rename_i h4; exact .inr (.inr (.inr ⟨h1, by omega, by omega, by rw [← hfd2] at h3; omega, h4, rfl⟩))
            · rename_i h4; rw [if_neg (by simp [h1]), if_neg h2, if_neg h3, if_neg h4] at he; exact absurd rfl he
    · rintro e w' ⟨rfl, hb⟩
      exact ⟨0, _, rfl, h.below hb, hb.mono hbw⟩
end Go.Proofs.Ytadjoaipmcbieaa
namespace Go.Proofs.Ytadjoaipmcbieaa
open Go.RowKit Go.Proofs.YtadjoaipmcbieaaW.PrintWords Go.Proofs.YtadjoaipmcbieaaW.PrintLast Go.Proofs.YtadjoaipmcbieaaW.PrintMore A
set_option linter.unusedSimpArgs false
theorem madeL_snoc (L : List S89) (p : Nat) (hp : p < L.length) : madeL (L.take (p + 1)) = addL (madeL (L.take p)) (rd_T89 L p) := by
  unfold madeL
  rw [List.take_succ_eq_append_getElem hp, List.foldl_append]
  simp [rd_T89, List.getD_eq_getElem?_getD, List.getElem?_eq_getElem hp]
theorem two_start (w : World) : Two (((w.alloc (.map #[] 0)).alloc (.cells #[.slice none 0 0, .map (some w.heap.size)] 126)).alloc (.cells #[.slice none 0 0] 93)) w.heap.size (w.heap.size + 1) w.heap.size (w.heap.size + 1 + 1) (.slice none 0 0) (.slice none 0 0) [] [] := by
  have h0 := World.ownsMap_made w Try.prog 9 (plainElem (H := Unit) Try.prog 3)
  refine ⟨⟨?_, by omega, by omega, Kd.R_nil _ _ _ _ _, ⟨_, (h0.alloc _).alloc _, fun k => rfl⟩, ⟨by simp, by simp⟩⟩, ⟨?_, by omega, Kd.R_nil _ _ _ _ _⟩, fun k hk => by simp [Value.ownBlock] at hk⟩
  · rw [Below.heap_alloc _ _ _ (by simp)]
    have := heap_alloc_new (w.alloc (.map #[] 0)) (.cells #[.slice none 0 0, .map (some w.heap.size)] 126)
    simpa using this
  · have := heap_alloc_new ((w.alloc (.map #[] 0)).alloc (.cells #[.slice none 0 0, .map (some w.heap.size)] 126)) (.cells #[.slice none 0 0] 93)
    simpa using this
/-- A made signature, as the readers take it. -/
theorem SigW.sigC {w : World} {base g m : Nat} {v : Value} {l : List S89} (h : SigW w base g m v l) : SigC w g l := by
  obtain ⟨A, c, rfl, hl, hC⟩ := Kd.R_reads h.row
  exact ⟨A, c, cell_of_row w g 0 _ _ _ h.blk, hl, hC⟩
set_option maxRecDepth 100000 in
set_option maxHeartbeats 2000000 in
theorem made_any (A : Option Addr) (c : Nat) (L : List S89) (w : World) (hL : Kd.C k89 w A L.length L) (hn : ∀ x ∈ L, x.f0.size ≤ maxLen) :
    Calls Try.prog 26 #[.slice A L.length c] w fun e w' => ∃ (g : Nat) (v : Value), e = .returned (.tuple #[.pointer (some ⟨g, 0, none⟩), v]) ∧
      SigC w' g (madeL L) ∧ Kd.R k89 89 w' w.heap.size (fun _ => True) v (madeL L) ∧ Below w.heap.size w w' := by
  have hm := hL.2.1
  have HL := Aside0.mk hL
  have HN := Aside0.mk hn
  clear hL hn
  have hts := two_start w
  go_enter Try.func26, Try.ntmps26
  go_wp2_with (go_at_call 72; refine (new_any w).mono ?_; rintro e w1 ⟨rfl, rfl⟩)
  have hb0 : Below w.heap.size w (((w.alloc (.map #[] 0)).alloc (.cells #[.slice none 0 0, .map (some w.heap.size)] 126)).alloc (.cells #[.slice none 0 0] 93)) := below_alloc (below_alloc (below_alloc (Below.refl _ _) _) _) _
  generalize (((w.alloc (.map #[] 0)).alloc (.cells #[.slice none 0 0, .map (some w.heap.size)] 126)).alloc (.cells #[.slice none 0 0] 93)) = w2 at *
  generalize hG : w.heap.size + 1 = G at *
  have HTS := Aside0.mk hts
  have HB0 := Aside0.mk hb0
  clear hts hb0 hG
  go_loopw [6, 7, 8, 9, 10] (fun i _ _ _ _ wr => ∃ (p : Nat) (v v2 : Value), i = .int .i64 p ∧ p ≤ L.length ∧ Aside0 (Two wr w.heap.size G w.heap.size (G + 1) v v2 (madeL (L.take p)) (madeL (L.take p))) ∧ Aside0 (Below w.heap.size w wr)) (fun i _ _ _ _ _ => L.length - (intOf i).toNat)
  case atStart => exact ⟨0, _, _, rfl, by omega, HTS, HB0⟩
  case round =>
    clear HTS HB0
    obtain ⟨p, v, v2, rfl, hp, HT, HB⟩ := hrel
    by_cases hlt : p < L.length
    · obtain ⟨ad, e, hc0, hc1, hc2⟩ := at_T89 HL.out p (by omega) (by omega)
      cases e
      have hsn := madeL_snoc L p hlt
      have hx : (rd_T89 L p).f0.size ≤ maxLen := by
        refine HN.out _ ?_
        simp [rd_T89, List.getD_eq_getElem?_getD, List.getElem?_eq_getElem hlt]
      generalize rd_T89 L p = x at *
      rw [Int.toNat_natCast] at hc0 hc1 hc2
      have HC : Aside0 (∀ W, Below w.heap.size w W → W.cell? (ad.add (p * 3)) = some (.string x.f0) ∧ W.cell? ⟨(ad.add (p * 3)).block, (ad.add (p * 3)).off + 1, none⟩ = some (.int .i64 x.f1) ∧ W.cell? ⟨(ad.add (p * 3)).block, (ad.add (p * 3)).off + 2, none⟩ = some (.bool x.f2)) := ⟨fun W hW => ⟨pw_cell_below hW hc0, pw_cell_below hW hc1, pw_cell_below hW hc2⟩⟩
      clear hc0 hc1 hc2
      obtain ⟨k0, k1, k2⟩ := HC.out _ HB.out
      have HS := Aside0.mk hsn
      have HG := Aside0.mk (made_good (L.take p))
      clear hsn
      have hbs := HB.out.size
      generalize madeL (L.take p) = l at *
      have hee : (addE l x != addE l x) = false := by simp
      go_wp2_with (first
        | (go_at_call 73; refine (sigadd _ _ _ _ v v2 _ _ x _ HT.out hbs hx).mono ?_; rintro e w3 ⟨n, v3, rfl, ht3, hb3⟩; have HT3 := Aside0.mk ht3; have HB3 := Aside0.mk (Below.trans HB.out hb3); clear ht3 hb3 k0 k1 k2; obtain ⟨k0, k1, k2⟩ := HC.out _ HB3.out)
        | (go_at_call 74; refine (refadd _ _ _ _ v3 v2 _ _ x _ HT3.out HB3.out.size HG.out).mono ?_; rintro e w4 ⟨n2, v4, rfl, ht4, hb4⟩))
      go_roundw
      case rel => exact ⟨p + 1, v3, v4, by go_num, by omega, ⟨by rw [HS.out]; exact ht4⟩, ⟨Below.trans HB3.out hb4⟩⟩
      case measure => simp [intOf]; omega
    · have hT := HT.out
      rw [List.take_of_length_le (by omega)] at hT
      have c0 := cell_of_row wr G 0 _ _ _ hT.sig.blk
      have c1 := cell_of_row wr (G + 1) 0 _ _ _ hT.ref.blk
      obtain ⟨A2, c2, rfl⟩ := Kd.R_slice hT.ref.row
      simp at c0 c1
      have HT2 := Aside0.mk hT
      clear HT hT
      go_wp2
      go_quiet (fail)
      go_wp2
      go_ret2
      have hbn : Below wr.heap.size wr (wr.drewN nq) := pw_below_drewN (Below.refl _ _) _
      have hT := HT2.out.below hbn
      exact ⟨G, _, rfl, hT.sig.sigC, hT.ref.row, pw_below_drewN HB.out _⟩
end Go.Proofs.Ytadjoaipmcbieaa

/-! S6 -/
namespace Go.Proofs.Ytadjoaipmcbieaa
open Go.RowKit Go.Proofs.YtadjoaipmcbieaaW.PrintWords Go.Proofs.YtadjoaipmcbieaaW.PrintLast Go.Proofs.YtadjoaipmcbieaaW.PrintMore A
/-- make([]int, n), n being told as a sum. -/
theorem make_ints (x : Int) (N : Nat) (hx : x = N) (hN : N ≤ 17592186044416) : ∃ Z : List Value, Z.length = N ∧ (∀ (i : Nat) (u : Value), Z[i]? = some u → u = Value.int .i64 0) ∧
    ∀ W : World, (Instr.makeSlice 25 (.int .i64 x) (.int .i64 x)).run Try.prog W = .ok (.slice (some ⟨W.heap.size, 0, none⟩) N N) (W.alloc (.cells Z.toArray 3)) := by
  subst hx
  obtain ⟨i0, hi, hz0, hz1, hz2⟩ := info_parts info3
  refine ⟨(madeCells #[.int .i64 0] N).toList, by simp [size_madeCells], fun i u hu => ?_, fun W => ?_⟩
  · simp [madeCells] at hu
    obtain ⟨a, ha, rfl⟩ := hu
    simp [Nat.mod_one]
  · have hr := run_make (P := Try.prog) W 25 3 i0 (.int .i64 0) Try.underlying25 hi hz0 .i64 .i64 N N (by omega) (by omega) (by rw [hz2]; omega) (by omega)
    rw [hz1] at hr
    simpa [Value.cells] using hr
theorem nums_cells {w : World} {A : Option Addr} {n : Nat} {xs : List Int} (h : Kd.C (Kd.int .i64) w A n xs) : 0 < n → ∃ ad, A = some ad ∧ ∀ (j : Nat) (v : Value), (nums .i64 xs)[j]? = some v → w.cell? (ad.add j) = some v := by
  intro hn
  obtain ⟨ad, e, _⟩ := int_at h 0 hn
  refine ⟨ad, e, fun j v hv => ?_⟩
  have hl : xs.length = n := h.1
  have hj : j < xs.length := by have := (List.getElem?_eq_some_iff.1 hv).1; simpa [nums] using this
  obtain ⟨ad', e', hc⟩ := int_at h j (by omega)
  rw [e] at e'
  obtain rfl := Option.some.inj e'
  rw [hc, ← hv]
  simp [nums, List.getElem?_eq_getElem hj, rd, List.getD_eq_getElem?_getD]
theorem nums_one (k : IntKind) (xs : List Int) : ∀ v ∈ nums k xs, v.oneCell' = true := by
  intro v hv
  simp only [nums, List.mem_map] at hv
  obtain ⟨x, _, rfl⟩ := hv
  rfl
/-- A block that holds just numbers, and the slice over all of it. -/
theorem ints_own {W : World} {g N base : Nat} {R : List Int} (h : W.heap[g]? = some (.cells (nums .i64 R).toArray 3 (0, 0))) (hN : R.length = N) (hb : base ≤ g) (hm : N ≤ 17592186044416) : Kd.R (Kd.int .i64) 3 W base (fun _ => True) (.slice (some ⟨g, 0, none⟩) N N) R := by
  subst hN
  exact Kd.R_of_own (enc := Value.int .i64) ⟨by simp [encs], .inr ⟨g, R.length, _, rfl, hb, h, Nat.le_refl _, by unfold maxLen; omega, by simp [nums_length], by rw [List.take_of_length_le (by simp [nums_length])]; rfl⟩⟩ (fun _ _ => trivial)
/-- t with u in the place of the subterm at p. -/
def putL (l : List S89) (t : List Int) (p : Nat) (u : List Int) : List Int := t.take p ++ (u ++ t.drop (endN l t p))
set_option maxRecDepth 100000 in
set_option maxHeartbeats 2000000 in
theorem Put_ok (g : Nat) (l : List S89) (A B : Option Addr) (c d : Nat) (t u : List Int) (p : Nat) (w : World) (hs : SigC w g l) (hl : GoodL l)
    (ht : Kd.C (Kd.int .i64) w A t.length t) (hc : t.length ≤ c) (hu : Kd.C (Kd.int .i64) w B u.length u) (hp : plc l t p = 0) (hk : chk l u = 0) (hlong : (putL l t p u).length ≤ 2000) :
    Calls Try.prog 31 #[.pointer (some ⟨g, 0, none⟩), .slice A t.length c, .int .i64 p, .slice B u.length d] w fun e w' => ∃ v, e = .returned (.tuple #[v, .int .i64 0]) ∧ Kd.R (Kd.int .i64) 3 w' w.heap.size (fun _ => True) v (putL l t p u) ∧ Below w.heap.size w w' := by
  obtain ⟨h1, h2, h3⟩ := plc_ok hp
  have h4 := chk_len h1
  have h5 := chk_len hk
  have hu1 := (chk_ter hl hk).pos
  have h6 := endN_le hl (chk_ter hl h1) (show p < t.length by omega)
  have e1 : (plc l t (p : Int) != 0) = false := bne_eq_false_iff_eq.2 hp
  have e2 : (chk l u != 0) = false := bne_eq_false_iff_eq.2 hk
  have HC := Aside0.mk (endN_cast (l := l) (t := t) (p := p))
  have h7 : (putL l t p u).length = p + u.length + (t.length - endN l t p) := by simp [putL]; omega
  rw [h7] at hlong
  have HP : Aside0 (putL l t p u = t.take p ++ (u ++ t.drop (endN l t p))) := ⟨rfl⟩
  generalize putL l t p u = R at *
  have HS := Aside0.mk hs
  have HT := Aside0.mk ht
  have HU := Aside0.mk hu
  clear hp hk h1 hs ht hu
  generalize endN l t p = E at *
  obtain ⟨N, hN⟩ : ∃ N : Nat, N = p + u.length + (t.length - E) := ⟨_, rfl⟩
  have hNI : ((p : Int) + u.length + t.length - E) = (N : Int) := by omega
  have HN := Aside0.mk hNI
  clear h7 hNI
  obtain ⟨Z, hZ, -, hmk⟩ := make_ints _ N HN.out (by omega)
  have HZ := Aside0.mk hZ
  obtain ⟨X1, hX1⟩ : ∃ X1, X1 = nums .i64 (t.take p) := ⟨_, rfl⟩
  obtain ⟨X2, hX2⟩ : ∃ X2, X2 = nums .i64 u := ⟨_, rfl⟩
  obtain ⟨X3, hX3⟩ : ∃ X3, X3 = nums .i64 (t.drop E) := ⟨_, rfl⟩
  have L1 : X1.length = Nat.min p N := by rw [hX1, nums_length, List.length_take]; simp only [Nat.min_def]; split <;> split <;> omega
  have L2 : X2.length = Nat.min u.length (N - p) := by rw [hX2, nums_length]; simp only [Nat.min_def]; split <;> omega
  have L3 : X3.length = Nat.min (t.length - E) (N - (p + u.length)) := by rw [hX3, nums_length, List.length_drop]; simp only [Nat.min_def]; split <;> omega
  have P1 : ∀ W, Below w.heap.size w W → 0 < X1.length → ∃ ad, A = some ad ∧ ∀ (j : Nat) (v : Value), X1[j]? = some v → W.cell? (ad.add j) = some v := by
    intro W hW h0
    have h := nums_cells (Kd.C_take (m := p) (Kd.C_below HT.out hW) (by omega))
    rw [← hX1] at h
    exact h (by rw [hX1, nums_length] at h0; exact h0)
  have P2 : ∀ W, Below w.heap.size w W → 0 < X2.length → ∃ ad, B = some ad ∧ ∀ (j : Nat) (v : Value), X2[j]? = some v → W.cell? (ad.add j) = some v := by
    intro W hW h0
    have h := nums_cells (Kd.C_below HU.out hW)
    rw [← hX2] at h
    exact h (by omega)
  have P3 : ∀ W, Below w.heap.size w W → 0 < X3.length → ∃ ad, (if c = E then A else A.map (·.add E)) = some ad ∧ ∀ (j : Nat) (v : Value), X3[j]? = some v → W.cell? (ad.add j) = some v := by
    intro W hW h0
    have h := nums_cells (Kd.C_drop (m := E) (c := c) (Kd.C_below HT.out hW) (by omega) hc)
    rw [← hX3] at h
    rw [hX3, nums_length] at h0
    simpa [Kd.int, Kd.scalar] using h h0
  have O1 : ∀ v ∈ X1, v.oneCell' = true := by rw [hX1]; exact nums_one _ _
  have O2 : ∀ v ∈ X2, v.oneCell' = true := by rw [hX2]; exact nums_one _ _
  have O3 : ∀ v ∈ X3, v.oneCell' = true := by rw [hX3]; exact nums_one _ _
  have l1 : X1.length = p := by rw [hX1, nums_length, List.length_take]; omega
  have l2 : X2.length = u.length := by rw [hX2, nums_length]
  have l3 : X3.length = t.length - E := by rw [hX3, nums_length, List.length_drop]
  have HF : Aside0 (splice (splice (splice Z 0 X1) p X2) (p + u.length) X3 = nums .i64 R) := ⟨by
    rw [splice_splice_splice Z X1 X2 X3 p u.length l1 l2 (by rw [hZ, l3, hN]), HP.out, nums_append, nums_append, hX1, hX2, hX3]⟩
  have F1 : 0 + X1.length ≤ Z.length := by omega
  have F2 : p + X2.length ≤ (splice Z 0 X1).length := by rw [length_splice _ _ _ F1]; omega
  have F3 : (p + u.length) + X3.length ≤ (splice (splice Z 0 X1) p X2).length := by rw [length_splice _ _ _ F2, length_splice _ _ _ F1]; omega
  have HL1 := Aside0.mk L1
  have HL2 := Aside0.mk L2
  have HL3 := Aside0.mk L3
  have HP1 := Aside0.mk P1
  have HP2 := Aside0.mk P2
  have HP3 := Aside0.mk P3
  have HO1 := Aside0.mk O1
  have HO2 := Aside0.mk O2
  have HO3 := Aside0.mk O3
  have HF1 := Aside0.mk F1
  have HF2 := Aside0.mk F2
  have HF3 := Aside0.mk F3
  have HNN := Aside0.mk hN
  clear hZ hX1 hX2 hX3 L1 L2 L3 P1 P2 P3 O1 O2 O3 l1 l2 l3 F1 F2 F3
  have hpN : p + u.length ≤ N := by omega
  clear hN
  go_enter Try.func31, Try.ntmps31
  go_wp2_with (first
    | (go_at_call 76; refine (place_any g l A c t p _ HS.out hl HT.out).mono ?_; rintro e w1 ⟨rfl, hb⟩) | (go_at_call 38; refine (check_any g l B d u _ (HS.out.below hb) hl (Kd.C_below HU.out hb)).mono ?_; rintro e w2 ⟨rfl, hb2⟩; have hb3 := below_then hb hb.size hb2) | (go_at_call 77; refine (end_any g l _ c t p _ (HS.out.below hb3) hl (Kd.C_below HT.out hb3) h4 (by omega)).mono ?_; rintro e w4 ⟨rfl, hb4⟩; rw [← HC.out]; have hb5 := below_then hb3 hb3.size hb4)
    | (refine wpList_copy_splice rfl (.tmp 45) (.tmp 48) 25 25 rfl 3 Try.underlying25 rfl (some ⟨w4.heap.size, 0, none⟩) A N N p c rfl rfl w4.heap.size 0 Z 3 (heap_alloc_new w4 _) X1 HL1.out (fun h0 => ⟨rfl, HP1.out _ (below_alloc hb5 _) h0⟩) HF1.out HO1.out w.heap.size w (below_alloc hb5 _) hb5.size ?_; intro w6 HG6 hb6)
    | (refine wpList_copy_splice rfl (.tmp 52) (.tmp 53) 25 25 rfl 3 Try.underlying25 rfl (some ⟨w4.heap.size, p, none⟩) B (N - p) (N - p) u.length d rfl rfl w4.heap.size p (splice Z 0 X1) 3 HG6.out X2 HL2.out (fun h0 => ⟨rfl, HP2.out _ hb6 h0⟩) HF2.out HO2.out w.heap.size w hb6 hb5.size ?_; intro w7 HG7 hb7))
  obtain ⟨i0, hi0, -, hz1, -⟩ := info_parts info3
  have c1 := cut_from (P := Try.prog) 25 3 .i64 Try.underlying25 hi0 1 hz1 (some ⟨w4.heap.size, 0, none⟩) N N ((p : Int) + u.length) (by omega) (by omega)
  have c2 := cut_from (P := Try.prog) 25 3 .i64 Try.underlying25 hi0 1 hz1 A t.length c (E : Int) (by omega) (by omega)
  have hw : IntKind.i64.wrap ((p : Int) + u.length) = (p : Int) + u.length := IntWalk.i64_in _ (by omega)
  rw [show ((p : Int) + u.length).toNat = p + u.length by omega, Nat.mul_one] at c1
  rw [Int.toNat_natCast, Nat.mul_one] at c2
  have D1 : 0 < X3.length → (if N = p + u.length then some (⟨w4.heap.size, 0, none⟩ : Addr) else (some (⟨w4.heap.size, 0, none⟩ : Addr)).map (·.add (p + u.length))) = some ⟨w4.heap.size, p + u.length, none⟩ := by
    intro h0
    rw [if_neg (by have := HL3.out; have h3 := HNN.out; simp only [Nat.min_def] at this; split at this <;> omega)]
    simp [add_plain]
  generalize (if N = p + u.length then some (⟨w4.heap.size, 0, none⟩ : Addr) else (some (⟨w4.heap.size, 0, none⟩ : Addr)).map (·.add (p + u.length))) = dp at c1 D1
  have HP4 : Aside0 (∀ W, Below w.heap.size w W → 0 < X3.length → ∃ ad, (if c = E then A else A.map (·.add E)) = some ad ∧ ∀ (j : Nat) (v : Value), X3[j]? = some v → W.cell? (ad.add j) = some v) := HP3
  generalize (if c = E then A else A.map (·.add E)) = sp at c2 HP4
  have HD1 := Aside0.mk D1
  clear D1 HP3
  go_still_tail 9, (by kernel_rfl)
  clear c1 c2 hw
  refine wpList_copy_splice rfl (.tmp 60) (.tmp 63) 25 25 rfl 3 Try.underlying25 rfl dp sp (N - (p + u.length)) (N - (p + u.length)) (t.length - E) (c - E) rfl rfl w4.heap.size (p + u.length) (splice (splice Z 0 X1) p X2) 3 HG7.out X3 HL3.out (fun h0 => ⟨HD1.out h0, HP4.out _ (below_drew hb7) h0⟩) HF3.out HO3.out w.heap.size w (below_drew hb7) hb5.size ?_
  intro w8 HG8 hb8
  go_wp2
  go_ret2
  have hG := HG8.out
  rw [HF.out] at hG
  have hRN : R.length = N := by rw [HP.out, HNN.out]; simp only [List.length_append, List.length_take, List.length_drop]; omega
  exact ⟨_, rfl, ints_own hG hRN hb5.size (by have := HNN.out; omega), hb8⟩
end Go.Proofs.Ytadjoaipmcbieaa

/-! N0 -/
namespace Go.Proofs.Ytadjoaipmcbieaa
open Go.RowKit Go.Proofs.YtadjoaipmcbieaaW.PrintWords Go.Proofs.YtadjoaipmcbieaaW.PrintLast Go.Proofs.YtadjoaipmcbieaaW.PrintMore A
set_option linter.unusedSimpArgs false
/-- The three symbols of awake. -/
def L3 : List S89 := [⟨⟨#[122]⟩, 0, false⟩, ⟨⟨#[115]⟩, 1, false⟩, ⟨⟨#[97, 100, 100]⟩, 2, true⟩]
theorem made3 : madeL L3 = L3 := by rfl
theorem good3 : GoodL L3 := by rw [← made3]; exact made_good _
/-- A new block of numbers reads as the numbers. -/
theorem C_new (w : World) (e : TypeId) (xs : List Int) (h : xs.length ≤ 9223372036854775807) : Kd.C (Kd.int .i64) (w.alloc (.cells (nums .i64 xs).toArray e)) (some ⟨w.heap.size, 0, none⟩) xs.length xs :=
  ⟨rfl, h, fun _ => ⟨_, rfl, fun j p hj => ⟨[.int .i64 p], rfl, rfl, fun i u hu => by
    cases i with
    | zero =>
      simp at hu
      subst hu
      rw [add_plain, show j * (Kd.int .i64).sz + 0 = j from by show j * 1 + 0 = j; omega, cell_of_row _ _ _ _ _ _ (heap_alloc_new w _)]
      simp [nums, hj]
    | succ i => simp at hu⟩⟩⟩
theorem C_newL (w : World) : Kd.C k89 (w.alloc (.cells #[.string ⟨#[122]⟩, .int .i64 0, .bool false, .string ⟨#[115]⟩, .int .i64 1, .bool false, .string ⟨#[97, 100, 100]⟩, .int .i64 2, .bool true] 89)) (some ⟨w.heap.size, 0, none⟩) L3.length L3 := by
  refine ⟨rfl, by decide, fun _ => ⟨_, rfl, fun j p hj => ?_⟩⟩
  refine ⟨[.string p.f0, .int .i64 p.f1, .bool p.f2], rfl, k89_mk _ _, fun i u hu => ?_⟩
  rw [add_plain, cell_of_row _ _ _ _ _ _ (heap_alloc_new w _)]
  have hi : i < 3 := (List.getElem?_eq_some_iff.1 hu).1
  have hj3 : j < 3 := (List.getElem?_eq_some_iff.1 hj).1
  match j, hj3, i, hi with
  | 0, _, 0, _ | 0, _, 1, _ | 0, _, 2, _ | 1, _, 0, _ | 1, _, 1, _ | 1, _, 2, _ | 2, _, 0, _ | 2, _, 1, _ | 2, _, 2, _ =>
    simp [L3] at hj; subst hj; exact hu
theorem below_alloc' {B : Nat} {a w : World} (h : Below B a w) (o : Obj) (hB : B ≤ w.heap.size) : Below B a (w.alloc o) := h.alloc hB o
set_option maxRecDepth 100000 in
set_option maxHeartbeats 2000000 in
theorem awake02 (w : World) : Calls Try.prog 25 #[] w fun e w' => e = .returned (.bool true) ∧ Below w.heap.size w w' := by
  go_enter Try.func25, Try.ntmps25
  go_wp2_with (go_at_call 26; refine (made_any (some ⟨w.heap.size, 0, none⟩) 3 L3 _ (C_newL w) (by decide)).mono ?_; rintro e w1 ⟨g, v, rfl, hs1, hr1, hb1⟩)
  rw [made3] at hs1
  have HB1 : Aside0 (Below w.heap.size w w1) := ⟨below_then (below_alloc (Below.refl _ _) _) (by simp) hb1⟩
  have HS : Aside0 (∀ W, Below w1.heap.size w1 W → SigC W g L3) := ⟨fun W hW => hs1.below hW⟩
  have HT : Aside0 (∀ W, Below (w1.heap.size + 1) (w1.alloc (.cells (nums .i64 [2, 1, 0, -1]).toArray 3)) W → Kd.C (Kd.int .i64) W (some ⟨w1.heap.size, 0, none⟩) 4 [2, 1, 0, -1]) := ⟨fun W hW => Kd.C_below (C_new w1 3 [2, 1, 0, -1] (by decide)) (by simpa using hW)⟩
  clear hs1 hr1 hb1
  refine (End_ok g L3 (some ⟨w1.heap.size, 0, none⟩) 4 [2, 1, 0, -1] 1 _ (HS.out _ (below_alloc (Below.refl _ _) _)) good3 (HT.out _ (Below.refl _ _)) (by decide)).mono ?_
  rintro e w2 ⟨rfl, hb2⟩
  rw [show endN L3 [2, 1, 0, -1] (1 : Int).toNat = 3 by rfl]
  have HB2 : Aside0 (Below (w1.heap.size + 1) (w1.alloc (.cells (nums .i64 [2, 1, 0, -1]).toArray 3)) w2) := ⟨by simpa using hb2⟩
  have hz2 := HB2.out.size
  simp at hz2
  have HC2 : Aside0 (Below w1.heap.size w1 w2) := ⟨below_then (below_alloc (Below.refl _ _) _) (by simp) hb2⟩
  clear hb2
  go_wp2_with fail
  refine (Put_ok g L3 (some ⟨w1.heap.size, 0, none⟩) (some ⟨w2.heap.size, 0, none⟩) 4 1 [2, 1, 0, -1] [-5] 1 _ (HS.out _ (below_alloc' HC2.out _ (by omega))) good3 (HT.out _ (below_alloc' HB2.out _ (by omega))) (by decide) (C_new w2 3 [-5] (by decide)) (by decide) (by decide) (by decide)).mono ?_
  rintro e w3 ⟨v3, rfl, hr3, hb3⟩
  rw [show putL L3 [2, 1, 0, -1] 1 [-5] = [2, -5, -1] by rfl] at hr3
  have hz3 := hb3.size
  simp at hz3
  have HB3 : Aside0 (Below (w1.heap.size + 1) (w1.alloc (.cells (nums .i64 [2, 1, 0, -1]).toArray 3)) w3) := ⟨below_then (below_alloc' HB2.out _ (by omega)) (by simp; omega) hb3⟩
  have HC3 : Aside0 (Below w1.heap.size w1 w3) := ⟨below_then (below_alloc' HC2.out _ (by omega)) (by simp; omega) hb3⟩
  obtain ⟨A3, c3, rfl, hc3, hC3⟩ := Kd.R_reads hr3
  have HR3 := Aside0.mk hC3
  clear hb3 hr3 hC3
  go_wp2_with fail
  refine (Place_ok g L3 (some ⟨w1.heap.size, 0, none⟩) (some ⟨w3.heap.size, 0, none⟩) 4 2 [2, 1, 0, -1] [0, 0] _ (HS.out _ (below_alloc' HC3.out _ (by omega))) good3 (HT.out _ (below_alloc' HB3.out _ (by omega))) (C_new w3 3 [0, 0] (by decide)) (by decide)).mono ?_
  rintro e w4 ⟨rfl, hb4⟩
  rw [show placeV (fromL L3 [2, 1, 0, -1] [0, 0] 0) = .tuple #[.int .i64 2, .int .i64 0] by rfl]
  have hz4 := hb4.size
  simp at hz4
  have HC4 : Aside0 (Below w1.heap.size w1 w4) := ⟨below_then (below_alloc' HC3.out _ (by omega)) (by simp; omega) hb4⟩
  have HR4 : Aside0 (Kd.C (Kd.int .i64) w4 A3 3 [2, -5, -1]) := ⟨Kd.C_below HR3.out (below_then (below_alloc (Below.refl _ _) _) (by simp) hb4)⟩
  clear hb4
  go_wp2_with fail
  refine (same_n A3 3 c3 [2, -5, -1] (some ⟨w4.heap.size, 0, none⟩) 3 3 [2, -5, -1] _ (Kd.C_below HR4.out (below_alloc (Below.refl _ _) _)) hc3 (C_new w4 3 [2, -5, -1] (by decide)) (by decide)).mono ?_
  rintro e w5 ⟨rfl, hd5⟩
  rw [show decide (([2, -5, -1] : List Int) = [2, -5, -1]) = true by rfl]
  have hb5 := hd5.below
  have hz5 := hb5.size
  simp at hz5
  have HC5 : Aside0 (Below w1.heap.size w1 w5) := ⟨below_then (below_alloc' HC4.out _ (by omega)) (by simp; omega) hb5⟩
  clear hb5 hd5
  go_wp2_with fail
  refine (check_any g L3 (some ⟨w5.heap.size, 0, none⟩) 3 [2, 1, 0] _ (HS.out _ (below_alloc' HC5.out _ (by omega))) good3 (C_new w5 3 [2, 1, 0] (by decide))).mono ?_
  rintro e w6 ⟨rfl, hb6⟩
  rw [show chk L3 [2, 1, 0] = 23 by rfl]
  have HC6 : Aside0 (Below w1.heap.size w1 w6) := ⟨below_then (below_alloc' HC5.out _ (by omega)) (by simp; omega) hb6⟩
  clear hb6
  go_wp2_with fail
  go_ret
  exact ⟨rfl, below_then HB1.out HB1.out.size HC6.out⟩
end Go.Proofs.Ytadjoaipmcbieaa

/-! L0 -/
namespace Go.Proofs.Ytadjoaipmcbieaa
end Go.Proofs.Ytadjoaipmcbieaa

/-! Q1 -/
namespace Go.Proofs.Ytadjoaipmcbieaa
end Go.Proofs.Ytadjoaipmcbieaa

/-! C0 -/
namespace Go.Proofs.Ytadjoaipmcbieaa
end Go.Proofs.Ytadjoaipmcbieaa

/-! C1 -/
namespace Go.Proofs.Ytadjoaipmcbieaa
open Go.RowKit Go.Proofs.YtadjoaipmcbieaaW.PrintWords Go.Proofs.YtadjoaipmcbieaaW.PrintLast Go.Proofs.YtadjoaipmcbieaaW.PrintMore A
/-- An own row of numbers whose block lies in lo .. hi. -/
def Rw (W : World) (lo hi : Nat) (v : Value) (xs : List Int) : Prop := Kd.R (Kd.int .i64) 3 W lo (fun k => lo ≤ k ∧ k < hi) v xs
theorem Rw.mk {W : World} {lo : Nat} {v : Value} {xs : List Int} (h : Kd.R (Kd.int .i64) 3 W lo (fun _ => True) v xs) : Rw W lo W.heap.size v xs := Kd.R_mono (Kd.R_bound h) (fun _ hk => ⟨hk.2.1, hk.2.2.1⟩)
theorem Rw.below {W W' : World} {lo hi : Nat} {v : Value} {xs : List Int} (h : Rw W lo hi v xs) (hb : Below W.heap.size W W') : Rw W' lo hi v xs := Kd.R_below h hb
theorem Rw.kept {W W' : World} {lo hi : Nat} {v : Value} {xs : List Int} {S : Nat → Prop} (h : Rw W lo hi v xs) (hk : Kept W W' S) (hS : ∀ k, lo ≤ k → k < hi → ¬ S k) : Rw W' lo hi v xs := Kd.R_kept h hk (fun k hk => hS k hk.1 hk.2)
theorem Rw.own {W : World} {lo hi : Nat} {v : Value} {xs : List Int} (h : Rw W lo hi v xs) : ∀ k, v.ownBlock = some k → lo ≤ k ∧ k < hi := h.1
theorem Rw.all {W : World} {lo hi : Nat} {v : Value} {xs : List Int} (h : Rw W lo hi v xs) : Kd.R (Kd.int .i64) 3 W lo (fun _ => True) v xs := Kd.R_mono h (fun _ _ => trivial)
theorem Rw.at_ {W : World} {lo hi g n c : Nat} {xs : List Int} (h : Rw W lo hi (.slice (some ⟨g, 0, none⟩) n c) xs) : lo ≤ g ∧ g < hi := h.1 g rfl
theorem Rw.reads {W : World} {lo hi : Nat} {v : Value} {xs : List Int} (h : Rw W lo hi v xs) : ∃ A c, v = .slice A xs.length c ∧ xs.length ≤ c ∧ Kd.C (Kd.int .i64) W A xs.length xs := Kd.R_reads h
/-- apart of three rows that lie apart. -/
theorem apart_rw (w0 w : World) (hB : Below w0.heap.size w0 w) (l : List Int) (hl : l.length ≤ 100000) {va vb vc : Value} {la ha lb hb lc hc : Nat} (h0 : w0.heap.size ≤ la)
    (a : Rw w la ha va l) (b : Rw w lb hb vb l) (c : Rw w lc hc vc l) (hab : ha ≤ lb ∨ hb ≤ la) (hac : ha ≤ lc ∨ hc ≤ la) :
    Calls Try.prog 33 #[va, vb, vc] w fun e w' => e = .returned (.bool true) ∧ Below w0.heap.size w0 w' ∧ Kept w w' (fun k => la ≤ k ∧ k < ha) := by
  refine (apart_any w0 w hB l hl va vb vc _ _ _ _ (Kd.R_lower a.all h0) b (fun k hk e => ?_) c (fun k hk e => ?_)).mono ?_
  · have := a.own k e.symm; omega
  · have := a.own k e.symm; omega
  · rintro e w' ⟨he, hb, hk⟩
    exact ⟨he, hb, hk.mono (fun k hk => a.own k hk.symm)⟩
end Go.Proofs.Ytadjoaipmcbieaa

/-! UU -/
namespace Go.Proofs.Ytadjoaipmcbieaa
open Go.RowKit Go.Proofs.YtadjoaipmcbieaaW.PrintWords Go.Proofs.YtadjoaipmcbieaaW.PrintLast Go.Proofs.YtadjoaipmcbieaaW.PrintMore A
/-- A part: its symbol, its arguments' parts. -/
abbrev Pt := Int × List Int
end Go.Proofs.Ytadjoaipmcbieaa
namespace Go.Proofs.Ytadjoaipmcbieaa
open Go.Proofs.YtadjoaipmcbieaaW.PrintWords
end Go.Proofs.Ytadjoaipmcbieaa
namespace Go.Proofs.Ytadjoaipmcbieaa
open Go.Proofs.YtadjoaipmcbieaaW.PrintWords
section
variable {b : Int → Nat} {parts : List Pt} {tm : Nat → List Int} {ra rb x y : Nat} {R : Nat → Nat} {ps : List (Nat × Nat)}
end
end Go.Proofs.Ytadjoaipmcbieaa
namespace Go.Proofs.Ytadjoaipmcbieaa
open Go.RowKit Go.Proofs.YtadjoaipmcbieaaW.PrintWords Go.Proofs.YtadjoaipmcbieaaW.PrintLast Go.Proofs.YtadjoaipmcbieaaW.PrintMore A
end Go.Proofs.Ytadjoaipmcbieaa

/-! U4 -/
namespace Go.Proofs.Ytadjoaipmcbieaa
open Go.RowKit Go.Proofs.YtadjoaipmcbieaaW.PrintWords Go.Proofs.YtadjoaipmcbieaaW.PrintLast Go.Proofs.YtadjoaipmcbieaaW.PrintMore A
theorem rd_mem {xs : List Int} {k : Nat} (h : k < xs.length) : rd xs k ∈ xs := by
  simp only [rd, Int.toNat_natCast]; rw [List.getD_eq_getElem?_getD, List.getElem?_eq_getElem h]; exact List.getElem_mem h
end Go.Proofs.Ytadjoaipmcbieaa

/-! Y1 -/
namespace Go.Proofs.Ytadjoaipmcbieaa
open Go.RowKit Go.Proofs.YtadjoaipmcbieaaW.PrintWords Go.Proofs.YtadjoaipmcbieaaW.PrintLast Go.Proofs.YtadjoaipmcbieaaW.PrintMore A
section
variable {w0 W W' : World} {base g : Nat} {vl vt va : Value} {gu cu gr cr N : Nat} {up rep : List Int}
theorem cell_row {W : World} {base gx n c : Nat} {ok : Nat → Prop} {xs : List Int} (h : Kd.R (Kd.int .i64) 3 W base ok (.slice (some ⟨gx, 0, none⟩) n c) xs) {i : Nat} (hi : i < n) {x : Int} (hx : rd xs i = x) : W.cell? ⟨gx, i, none⟩ = some (.int .i64 x) ∧ W.frozen? ⟨gx, i, none⟩ = false := by
  obtain ⟨hx1, hf1⟩ := Kd.R_celln 0 h (i : Int) (by omega) (by omega)
  rw [Int.toNat_natCast] at hx1 hf1
  rw [show rdOf (0 : Int) xs (i : Int) = x from hx] at hx1
  exact ⟨hx1, hf1⟩
end
end Go.Proofs.Ytadjoaipmcbieaa

/-! Y2 -/
namespace Go.Proofs.Ytadjoaipmcbieaa
end Go.Proofs.Ytadjoaipmcbieaa

/-! Y3 -/
namespace Go.Proofs.Ytadjoaipmcbieaa
end Go.Proofs.Ytadjoaipmcbieaa
