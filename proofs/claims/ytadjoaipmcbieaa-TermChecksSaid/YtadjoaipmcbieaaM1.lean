/- (*Sig).Add: a symbol put behind the others. -/
import Derived.Test.YtadjoaipmcbieaaM0
import Derived.StringKeys
import Derived.Deep.RegionHeld3
namespace Go.Proofs.Ytadjoaipmcbieaa
open Go.RowKit Go.Proofs.YtadjoaipmcbieaaW.PrintWords Go.Proofs.YtadjoaipmcbieaaW.PrintLast Go.Proofs.YtadjoaipmcbieaaW.PrintMore A
open Go.Maps
set_option linter.unusedSimpArgs false

theorem info89 : (Try.prog.info? 89).map (fun i => (i.zero, i.size, i.bytes)) = some (some (.agg #[.string ⟨#[]⟩, .int .i64 0, .bool false]), 3, 32) := by kernel_rfl
def xV (x : S89) : Value := .agg #[.string x.f0, .int .i64 x.f1, .bool x.f2]

theorem look_any {w : World} {m : Nat} {ks : List ByteArray} (h : IdxM w m ks) (key : ByteArray) (hk : key.size ≤ maxLen) : ∃ c : Int, ∀ W : World, W.heap[m]? = w.heap[m]? →
    (Instr.lookup 124 (.map (some m)) (.string key) true).run Try.prog W = .ok (.tuple #[.int .i64 c, .bool (ks.any (fun x => decide (x = key)))]) W := by
  obtain ⟨D, ho, hh⟩ := h
  have hkey := Go.WideMaps.keyOf_string_mk (P := Try.prog) Try.underlying9 (s := key) hk
  have hw0 : (Lit.int IntKind.i64 0).wf = true := by decide
  obtain ⟨c, hc⟩ : ∃ c : Int, D.atKey (.string key.data.toList) (.lit (.int .i64 0)) = .lit (.int .i64 c) := by
    obtain ⟨v, ps, hrun, hv⟩ := ho.look_ok keyed9 Try.underlying124 (zero3 w) (plainElem_int Try.underlying3 hw0) hkey
    obtain ⟨c, rfl, hc, _⟩ := plainElem_int_inv Try.underlying3 hv
    exact ⟨c, congrArg Prod.fst hc⟩
  refine ⟨c, fun W hW => ?_⟩
  have ho' : W.ownsMap Try.prog 9 (plainElem Try.prog 3) m ks.length D := by
    obtain ⟨es, clock, hb, r⟩ := ho
    exact ⟨es, clock, hW.trans hb, r⟩
  obtain ⟨v, ps, hrun, hv⟩ := ho'.look_ok keyed9 Try.underlying124 (zero3 W) (plainElem_int Try.underlying3 hw0) hkey
  rw [hc] at hv
  obtain ⟨c', rfl, hc', _⟩ := plainElem_int_inv Try.underlying3 hv
  simp only [Prod.mk.injEq, DataW.lit.injEq, Lit.int.injEq, true_and] at hc'
  rw [hrun, hh, hc'.1]

theorem R_ne_map {α : Type} {d : Kd α} {e : Nat} {w : World} {base : Nat} {ok : Nat → Prop} {v : Value} {xs : List α} (h : d.R e w base ok v xs) {m : Nat} {es : Array MapEntry} {clock : Nat} (hm : w.heap[m]? = some (.map es clock)) : d.R e w base (fun k => ok k ∧ k ≠ m) v xs :=
  Kd.R_mono (Kd.R_bound h) (fun k hk => ⟨hk.1, by
    rintro rfl
    obtain ⟨_, _, _, q, _, cells, hc⟩ := hk
    rw [hc] at hm
    cases hm⟩)
theorem ne_of_idx {α : Type} {d : Kd α} {e : Nat} {w : World} {base : Nat} {ok : Nat → Prop} {v : Value} {xs : List α} (h : d.R e w base ok v xs) {m : Nat} {ks : List ByteArray} (hm : IdxM w m ks) : (∀ k, v.ownBlock = some k → k ≠ m) ∧ d.R e w base (fun k => ok k ∧ k ≠ m) v xs := by
  obtain ⟨_, ⟨es, clock, hb, _⟩, _⟩ := hm
  exact ⟨fun k hk => ((R_ne_map h hb).1 k hk).2, R_ne_map h hb⟩
theorem bytes_ext {a b : ByteArray} (h : a.data.toList = b.data.toList) : a = b := by
  cases a; cases b; simp at h; rw [h]
theorem put_has {D : DataW Unit} (hD : IsMap D) {l : List S89} (hh : ∀ k : ByteArray, Maps.has D (.string k.data.toList) = (l.map (·.f0)).any (fun x => decide (x = k))) (x : S89) (d : DataW Unit) (k : ByteArray) :
    Maps.has (D.put (.string x.f0.data.toList) d) (.string k.data.toList) = ((l ++ [x]).map (·.f0)).any (fun x => decide (x = k)) := by
  rw [List.map_append, List.any_append, ← hh k]
  by_cases e : x.f0 = k
  · subst e
    rw [Maps.has_put_same hD (by trivial)]
    simp
  · rw [Maps.has_put_other (by intro h; injection h with h; exact e (bytes_ext h).symm)]
    simp [e]
theorem hat_le {a b : Option Nat} {n m : Nat} (h : a = b ∨ ∃ k, a = some k ∧ n ≤ k) (hle : m ≤ n) : a = b ∨ ∃ k, a = some k ∧ m ≤ k := h.imp id (fun ⟨k, h1, h2⟩ => ⟨k, h1, Nat.le_trans hle h2⟩)
theorem frozen_of_row {w : World} {g : Nat} {cs : Array Value} {t : TypeId} (h : w.heap[g]? = some (.cells cs t (0, 0))) (i : Nat) : w.frozen? ⟨g, i, none⟩ = false := by simp [World.frozen?, h]
theorem blk_set0 {w : World} {g : Nat} {a b : Value} {t : TypeId} (h : w.heap[g]? = some (.cells #[a, b] t (0, 0))) (u : Value) : (w.setCell ⟨g, 0, none⟩ u).heap[g]? = some (.cells #[u, b] t (0, 0)) := by
  simp [World.setCell, Array.getElem?_modify, h]

set_option maxRecDepth 100000 in
set_option maxHeartbeats 2000000 in
theorem add_ok (base g m kk : Nat) (v : Value) (l : List S89) (x : S89) (w : World) (hg : w.heap[g]? = some (.cells #[v, .map (some m)] 126 (0, 0))) (hbg : base ≤ g) (hbm : base ≤ m)
    (hv : Kd.R k89 89 w base (fun _ => True) v l) (hm : IdxM w m (l.map (·.f0))) (hsz : x.f0.size ≤ maxLen)
    (h1 : sig_IsName.f kk x.f0 = some true) (h2 : 0 ≤ x.f1) (h3 : x.f1 ≤ 6) (h4 : (l.map (·.f0)).any (fun y => decide (y = x.f0)) = false) (h5 : l.length < 64) :
    Calls Try.prog 73 #[.pointer (some ⟨g, 0, none⟩), xV x] w fun e w' => ∃ v', e = .returned (.tuple #[.int .i64 l.length, .int .i64 0]) ∧
      w'.heap[g]? = some (.cells #[v', .map (some m)] 126 (0, 0)) ∧ Kd.R k89 89 w' base (fun _ => True) v' (l ++ [x]) ∧ IdxM w' m ((l ++ [x]).map (·.f0)) ∧ Below base w w' ∧ Kept w w' (fun k => k = g ∨ k = m ∨ v.ownBlock = some k) ∧ (v'.ownBlock = v.ownBlock ∨ ∃ b, v'.ownBlock = some b ∧ w.heap.size ≤ b) := by
  have hgl := blk_lt hg
  have hml := hm.lt
  obtain ⟨A, c, rfl⟩ := Kd.R_slice hv
  have e5 : ((l.length : Int) == 64) = false := beq_eq_false_iff_ne.2 (by omega)
  have c0 := cell_alloc (cell_of_row w g 0 _ _ _ hg)
  have c1 := cell_alloc (cell_of_row w g 1 _ _ _ hg)
  obtain ⟨x0, x1, x2⟩ := x
  simp only [xV] at *
  obtain ⟨cz, hlk⟩ := look_any hm x0 hsz
  rw [h4] at hlk
  have hlk1 := fun (O : Obj) (n : Nat) => hlk ((w.alloc O).drewN n) (Below.heap_alloc w O m hml)
  have hlk2 := fun (O : Obj) => hlk (w.alloc O) (Below.heap_alloc w O m hml)
  clear hlk
  go_enter Try.func73, Try.ntmps73
  go_wp2
  go_quiet (fail)
  go_wp2_with (go_at_call 100; refine (sig_IsName.calls kk x0 true _ h1).mono ?_; rintro e w1 ⟨rfl, ⟨nd, rfl⟩⟩)
  obtain ⟨W, hW⟩ : ∃ W : World, W = (w.alloc (Obj.cells #[Value.string x0, Value.int IntKind.i64 x1, Value.bool x2] 89)).drewN (nq + nd) := ⟨_, rfl⟩
  rw [← hW]
  have hBW : Below w.heap.size w W := by rw [hW]; exact pw_below_drewN (below_alloc (Below.refl _ _) _) _
  have hsW : W.heap.size = w.heap.size + 1 := by rw [hW]; simp
  have hX : W.heap[w.heap.size]? = some (.cells #[Value.string x0, Value.int IntKind.i64 x1, Value.bool x2] 89 (0, 0)) := by rw [hW]; exact heap_alloc_new w _
  have hG := (hBW.block g hgl).trans hg
  have hV := Kd.R_below hv hBW
  have hM := hm.below hBW
  have hvl : ∀ k, (Value.slice A l.length c).ownBlock = some k → k < w.heap.size := by
    obtain ⟨inner, hown⟩ := Kd.R_own hv
    exact own_lt hown
  have hBB := hBW.mono (show base ≤ w.heap.size by omega)
  have HKW : Aside0 (Kept w W (fun k => k = g ∨ k = m ∨ (Value.slice A l.length c).ownBlock = some k)) := ⟨Kept.of_below hBW _⟩
  clear hlk1 hlk2 hW hBW hg hv hm
  replace c0 := cell_of_row W g 0 _ _ _ hG
  replace c1 := cell_of_row W g 1 _ _ _ hG
  have b0 := cell_of_row W w.heap.size 0 _ _ _ hX
  have b1 := cell_of_row W w.heap.size 1 _ _ _ hX
  have b2 := cell_of_row W w.heap.size 2 _ _ _ hX
  simp at c0 c1 b0 b1 b2
  go_still_tail 7, (by kernel_rfl)
  change wpList _ _ _ _ _ W.drew
  obtain ⟨D, ho, hh⟩ := hM
  have hkey := Go.WideMaps.keyOf_string_mk (P := Try.prog) Try.underlying9 (s := x0) hsz
  refine wpList_mapUpdate_own _ rfl (.tmp 52) (.tmp 54) (.tmp 55) 124 rfl 9 3 keyed9 Try.underlying124 (plainElem Try.prog 3) m _ D rfl ho.drew (by rw [List.length_map]; unfold maxLen; omega) (.string x0) (.int .i64 l.length) _ rfl rfl hkey (.lit (.int .i64 l.length)) [] (plainElem_int Try.underlying3 (by go_wf)) ?_
  intro w2 ho2 hg2
  have hne : some m ≠ some g := by
    intro e
    injection e with e
    subst e
    obtain ⟨es, clock, hb, _⟩ := ho
    rw [hG] at hb
    injection hb with hb
    cases hb
  have hG2 := (hg2.block g (blk_lt hG) (Ne.symm hne)).trans hG
  have hX2 := (hg2.block w.heap.size (by simp; omega) (by simp; omega)).trans hX
  have hV2 : Kd.R k89 89 w2 base (fun _ => True) (.slice A l.length c) l := by
    obtain ⟨es, clock, hb, _⟩ := ho
    exact Kd.R_mono (Kd.R_grown (R_ne_map (show Kd.R k89 89 W.drew base (fun _ => True) (.slice A l.length c) l from hV) hb) hg2 (fun k hk e => hk.2 (by injection e))) (fun _ hk => hk.1)
  have hB2 : Below base w w2 := hBB.trans ⟨hg2.os, hg2.tape, hg2.output, hg2.size, fun k hk => hg2.block k (by have := hBB.size; simp; omega) (by simp; omega)⟩
  have HK2 : Aside0 (Kept w w2 (fun k => k = g ∨ k = m ∨ (Value.slice A l.length c).ownBlock = some k)) := ⟨Kept.of_grown hg2 (show Kept w W.drew _ from HKW.out) (fun k hk => by injection hk with hk; exact .inl (.inr (.inl hk.symm)))⟩
  clear HKW
  have hM2 : IdxM w2 m ((l ++ [(⟨x0, x1, x2⟩ : S89)]).map (·.f0)) := ⟨_, by simpa using ho2, fun k => put_has ho.isMap hh (⟨x0, x1, x2⟩ : S89) _ k⟩
  clear ho hh hG hX hV ho2 hg2 hne hBB
  replace c0 := cell_of_row w2 g 0 _ _ _ hG2
  replace c1 := cell_of_row w2 g 1 _ _ _ hG2
  replace b0 := cell_of_row w2 w.heap.size 0 _ _ _ hX2
  replace b1 := cell_of_row w2 w.heap.size 1 _ _ _ hX2
  replace b2 := cell_of_row w2 w.heap.size 2 _ _ _ hX2
  simp at c0 c1 b0 b1 b2
  go_wp2
  refine start_ (n := 11) (S := fun w' => w'.cell? ⟨g, 0, none⟩ = some (.slice A l.length c) ∧ w'.cell? ⟨w.heap.size, 0, none⟩ = some (.string x0) ∧ w'.cell? ⟨w.heap.size, 1, none⟩ = some (.int .i64 x1) ∧ w'.cell? ⟨w.heap.size, 2, none⟩ = some (.bool x2)) (ds := [10]) #[false, false, false, false, false, false, false, false, false, false, false] (by kernel_rfl) rfl rfl ⟨c0, b0, b1, b2⟩ (fun hHeld => ?_)
  replace hV2 : Kd.R k89 89 w2.drew base (fun _ => True) (.slice A l.length c) l := hV2
  replace hB2 : Below base w w2.drew := hB2.drew
  replace HK2 : Aside0 (Kept w w2.drew (fun k => k = g ∨ k = m ∨ (Value.slice A l.length c).ownBlock = some k)) := HK2
  replace hM2 : IdxM w2.drew m ((l ++ [(⟨x0, x1, x2⟩ : S89)]).map (·.f0)) := hM2
  replace hG2 : w2.drew.heap[g]? = some (.cells #[.slice A l.length c, .map (some m)] 126 (0, 0)) := hG2
  replace hX2 : w2.drew.heap[w.heap.size]? = some (.cells #[Value.string x0, Value.int IntKind.i64 x1, Value.bool x2] 89 (0, 0)) := hX2
  have hb2s : base ≤ w2.drew.heap.size := by have := blk_lt hG2; omega
  have hxs : w.heap.size < w2.drew.heap.size := blk_lt hX2
  clear c0 c1 b0 b1 b2
  generalize w2.drew = w5 at *
  have HV2 := Aside0.mk hV2
  have HB2 := Aside0.mk hB2
  have HM2 := Aside0.mk hM2
  have HG2 := Aside0.mk hG2
  have HX2 := Aside0.mk hX2
  replace hvl : ∀ k, (Value.slice A l.length c).ownBlock = some k → k ≠ w.heap.size := fun k hk => by have := hvl k hk; omega
  clear hV2 hB2 hM2 hG2 hX2
  refine pure_ (i := 0) (N := some 56) (v := ?_) (a' := ?_) #[true, false, false, false, false, false, false, false, false, false, false] rfl rfl (by kernel_rfl) (fun _ _ _ h => h) (Or.inl ⟨by rfl, ?_⟩) ?_ ?_
  rotate_left
  · intro w'
    go_simp
    with_reducible rfl
  rotate_left
  · simp only [Act.put, List.setIfInBounds_toArray, List.set_cons_zero, List.set_cons_succ, i64_w, i32_w]
    rfl
  refine pure_ (i := 1) (N := some 57) (v := ?_) (a' := ?_) #[true, true, false, false, false, false, false, false, false, false, false] rfl rfl (by kernel_rfl) (fun _ _ _ h => h) (Or.inl ⟨by rfl, ?_⟩) ?_ ?_
  rotate_left
  · intro w'
    go_simp
    with_reducible rfl
  rotate_left
  · simp only [Act.put, List.setIfInBounds_toArray, List.set_cons_zero, List.set_cons_succ, i64_w, i32_w]
    rfl
  refine pure_ (i := 2) (N := some 58) (v := ?_) (a' := ?_) #[true, true, true, false, false, false, false, false, false, false, false] rfl rfl (by kernel_rfl) (fun _ _ _ h => h) (Or.inl ⟨by rfl, ?_⟩) ?_ ?_
  rotate_left
  · intro w'
    go_simp
    with_reducible rfl
  rotate_left
  · simp only [Act.put, List.setIfInBounds_toArray, List.set_cons_zero, List.set_cons_succ, i64_w, i32_w]
    rfl
  refine pure_ (i := 3) (N := some 59) (v := ?_) (a' := ?_) #[true, true, true, true, false, false, false, false, false, false, false] rfl rfl (by kernel_rfl) (fun _ _ _ h => h) (Or.inl ⟨by rfl, ?_⟩) ?_ ?_
  rotate_left
  · intro w'
    go_simp
    with_reducible rfl
  rotate_left
  · simp only [Act.put, List.setIfInBounds_toArray, List.set_cons_zero, List.set_cons_succ, i64_w, i32_w]
    rfl
  refine take_ (i := 4) (N := some 60) (v := ?_) (a' := ?_) #[true, true, true, true, true, false, false, false, false, false, false] rfl rfl (by kernel_rfl) (fun _ _ _ h => h) (Or.inl ⟨by rfl, ?_⟩) hHeld ?_ ?_
  rotate_left
  · rintro w' ⟨s0, s1, s2, s3⟩
    go_simp
    with_reducible rfl
  rotate_left
  · simp only [Act.put, List.setIfInBounds_toArray, List.set_cons_zero, List.set_cons_succ, i64_w, i32_w]
    rfl
  refine take_ (i := 5) (N := some 61) (v := ?_) (a' := ?_) #[true, true, true, true, true, true, false, false, false, false, false] rfl rfl (by kernel_rfl) (fun _ _ _ h => h) (Or.inl ⟨by rfl, ?_⟩) hHeld ?_ ?_
  rotate_left
  · rintro w' ⟨s0, s1, s2, s3⟩
    go_simp
    with_reducible rfl
  rotate_left
  · simp only [Act.put, List.setIfInBounds_toArray, List.set_cons_zero, List.set_cons_succ, i64_w, i32_w]
    rfl
  refine one_ (i := 6) (N := some 62) #[true, true, true, true, true, true, true, false, false, false, false] rfl rfl (by kernel_rfl) (by decide) (fun K hK => ?_)
  refine value_ (w1 := ?_) (v := ?_) (by rfl) rfl ?_ ?_
  rotate_left 2
  · go_simp
    constructor
    · rfl
    · rfl
  refine hK.out _ _ ⟨(cell_alloc hHeld.1 _), (cell_alloc hHeld.2.1 _), (cell_alloc hHeld.2.2.1 _), (cell_alloc hHeld.2.2.2 _)⟩ (fun hHeld => ?_)
  clear hK K
  refine norm_ (a' := ?_) ?_ ?_
  rotate_left
  · show Act.put _ (some 62) _ = _
    simp only [Act.put, List.setIfInBounds_toArray, List.set_cons_zero, List.set_cons_succ, i64_w, i32_w]
    rfl
  refine one_ (i := 7) (N := some 63) #[true, true, true, true, true, true, true, true, false, false, false] rfl rfl (by kernel_rfl) (by decide) (fun K hK => ?_)
  refine Kd.R_append_step (W := w5) k89 (w0 := w) base (by rfl) (.tmp 60) (.tmp 62) 23 89 (.agg #[.string ⟨#[]⟩, .int .i64 0, .bool false]) 32 (by rfl) Try.underlying23 info89 rfl (by decide) (by omega) (.slice A l.length c) l ⟨x0, x1, x2⟩ [.string x0, .int .i64 x1, .bool x2] (fun _ => True) (fun _ => False) (by rfl) (by rfl) (k89_mkM _ _ _ _) (fun _ hk => hk.elim) (fun _ _ => trivial) HV2.out HB2.out hb2s (by omega) ?_
  intro v3 w3 ho3 hb3 hg3 hat3
  have hG3 := (hg3.block g (blk_lt HG2.out) (Kd.R_ne HV2.out HG2.out (by decide))).trans HG2.out
  have hX3 := (hg3.block w.heap.size hxs (fun e => hvl w.heap.size e.symm rfl)).trans HX2.out
  have c03 := cell_of_row w3 g 0 _ _ _ hG3
  have f03 := frozen_of_row hG3 0
  obtain ⟨A3, c3, rfl⟩ := Kd.R_slice ho3
  rw [List.length_append, List.length_singleton] at ho3 hat3 ⊢
  simp at c03
  refine hK.out _ _ ⟨c03, (cell_of_row w3 w.heap.size 0 _ _ _ hX3), (cell_of_row w3 w.heap.size 1 _ _ _ hX3), (cell_of_row w3 w.heap.size 2 _ _ _ hX3)⟩ (fun hHeld => ?_)
  clear hK K
  refine norm_ (a' := ?_) ?_ ?_
  rotate_left
  · show Act.put _ (some 63) _ = _
    simp only [Act.put, List.setIfInBounds_toArray, List.set_cons_zero, List.set_cons_succ, i64_w, i32_w]
    rfl
  refine pure_ (i := 8) (N := some 64) (v := ?_) (a' := ?_) #[true, true, true, true, true, true, true, true, true, false, false] rfl rfl (by kernel_rfl) (fun _ _ _ h => h) (Or.inl ⟨by rfl, ?_⟩) ?_ ?_
  rotate_left
  · intro w'
    go_simp
    with_reducible rfl
  rotate_left
  · simp only [Act.put, List.setIfInBounds_toArray, List.set_cons_zero, List.set_cons_succ, i64_w, i32_w]
    rfl
  refine pure_ (i := 9) (N := some 65) (v := ?_) (a' := ?_) #[true, true, true, true, true, true, true, true, true, true, false] rfl rfl (by kernel_rfl) (fun _ _ _ h => h) (Or.inl ⟨by rfl, ?_⟩) ?_ ?_
  rotate_left
  · intro w'
    go_simp
    with_reducible rfl
  rotate_left
  · simp only [Act.put, List.setIfInBounds_toArray, List.set_cons_zero, List.set_cons_succ, i64_w, i32_w]
    rfl
  refine last_ (i := 10) (N := none) #[true, true, true, true, true, true, true, true, true, true, true] rfl rfl (by kernel_rfl) (by decide) (fun K hK => ?_)
  refine skip_ (w1 := ?_) (by rfl) rfl ?_ ?_
  rotate_left
  · go_simp
    rfl
  refine hK.out _ _ ?_
  clear hK K
  refine done_ (by kernel_rfl) ?_
  go_wp2
  go_ret2
  have hM3 : IdxM w3 m ((l ++ [(⟨x0, x1, x2⟩ : S89)]).map (·.f0)) := HM2.out.kept hg3 (fun e => (ne_of_idx HV2.out HM2.out).1 m (by rw [← e]) rfl)
  have hgm : m ≠ g := by
    rintro rfl
    obtain ⟨_, ⟨es, clock, hb, _⟩, _⟩ := hM3
    rw [hG3] at hb
    cases hb
  refine ⟨_, rfl, blk_set0 hG3 _, Kd.R_set ho3 hG3 (by decide) 0 _, ?_, hb3.setCell (p := ⟨g, 0, none⟩) hbg _, (Kept.of_grown hg3 HK2.out (fun k hk => .inl (.inr (.inr hk)))).setCell (p := ⟨g, 0, none⟩) (.inl (.inl rfl)) _, hat_le hat3 HK2.out.1⟩
  obtain ⟨D3, h31, h32⟩ := hM3
  exact ⟨D3, h31.setCell (a := ⟨g, 0, none⟩) hgm _, h32⟩
end Go.Proofs.Ytadjoaipmcbieaa
