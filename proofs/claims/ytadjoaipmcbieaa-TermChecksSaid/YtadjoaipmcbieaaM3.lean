/- (*ref01.Sig).Add: the document's signature: a symbol put behind the others, or refused. -/
import Derived.Test.YtadjoaipmcbieaaM1
import Derived.Deep.QuietTactic
import Derived.BigQuiet
namespace Go.Proofs.Ytadjoaipmcbieaa
open Go.RowKit Go.Proofs.YtadjoaipmcbieaaW.PrintWords Go.Proofs.YtadjoaipmcbieaaW.PrintLast Go.Proofs.YtadjoaipmcbieaaW.PrintMore A
set_option linter.unusedSimpArgs false

theorem quiet_drawn {P : Program} {f : FuncId} {args : Array Value} {w : World} {n : Nat} {v : Value}
    (h : Calls P f args (w.drewN n) fun e w' => e = .returned v ∧ Drawn0 (w.drewN n) w') : Calls P f args (w.drewN n) fun e w'' => e = .returned v ∧ ∃ m, w'' = w.drewN m :=
  h.mono fun _ _ ⟨he, ⟨m, hm⟩⟩ => ⟨he, n + m, by rw [hm, World.drewN_drewN]⟩
theorem quiet_add_drawn {P : Program} {f : FuncId} {args : Array Value} {w : World} {a n : Nat} {v : Value}
    (h : Calls P f args (w.drewN (a + n)) fun e w' => e = .returned v ∧ Drawn0 (w.drewN (a + n)) w') : Calls P f args (w.drewN (a + n)) fun e w'' => e = .returned v ∧ ∃ m, w'' = w.drewN (a + m) :=
  h.mono fun _ _ ⟨he, ⟨m, hm⟩⟩ => ⟨he, n + m, by rw [hm, World.drewN_drewN, Nat.add_assoc]⟩
theorem blk_set00 {w : World} {g : Nat} {a : Value} {t : TypeId} (h : w.heap[g]? = some (.cells #[a] t (0, 0))) (u : Value) : (w.setCell ⟨g, 0, none⟩ u).heap[g]? = some (.cells #[u] t (0, 0)) := by
  simp [World.setCell, Array.getElem?_modify, h]

set_option maxRecDepth 100000 in
set_option maxHeartbeats 2000000 in
theorem radd_ok (base g kk k2 : Nat) (v : Value) (l : List S89) (x : S89) (w : World) (hg : w.heap[g]? = some (.cells #[v] 93 (0, 0))) (hbg : base ≤ g)
    (hv : Kd.R k89 89 w base (fun _ => True) v l)
    (h1 : ropewalkref01_IsName.f kk x.f0 = some true) (h2 : 0 ≤ x.f1) (h3 : x.f1 ≤ 6) (fd : Int) (h4 : ropewalkref01_Find.f k2 l x.f0 = some fd) (hfd : fd < 0) (h5 : l.length < 64) :
    Calls Try.prog 74 #[.pointer (some ⟨g, 0, none⟩), xV x] w fun e w' => ∃ v', e = .returned (.tuple #[.int .i64 l.length, .int .i64 0]) ∧
      w'.heap[g]? = some (.cells #[v'] 93 (0, 0)) ∧ Kd.R k89 89 w' base (fun _ => True) v' (l ++ [x]) ∧ Below base w w' ∧ Kept w w' (fun k => k = g ∨ v.ownBlock = some k) ∧ (v'.ownBlock = v.ownBlock ∨ ∃ b, v'.ownBlock = some b ∧ w.heap.size ≤ b) := by
  have hgl := blk_lt hg
  obtain ⟨A, c, rfl, hlc, hC⟩ := Kd.R_reads hv
  have e5 : decide (64 ≤ (l.length : Int)) = false := decide_eq_false (by omega)
  have e6 : decide (0 ≤ fd) = false := decide_eq_false (by omega)
  have c0 := cell_alloc (cell_of_row w g 0 _ _ _ hg)
  obtain ⟨x0, x1, x2⟩ := x
  simp only [xV] at *
  have HC0 : Aside0 (∀ W, Below w.heap.size w W → Kd.C k89 W A l.length l) := ⟨fun W hW => Kd.C_below hC hW⟩
  clear hC
  go_enter Try.func74, Try.ntmps74
  go_wp2_with (go_at_call 101; refine (ropewalkref01_IsName.calls kk x0 true _ h1).mono ?_; rintro e w1 ⟨rfl, ⟨nd, rfl⟩⟩)
  go_quiet ((go_at_call 102; exact quiet_add_drawn (ropewalkref01_Find.calls k2 A c l x0 fd _ (HC0.out _ (pw_below_drewN (below_alloc (Below.refl _ _) _) _)) hlc h4)))
  go_wp2
  obtain ⟨w2, hW⟩ : ∃ W : World, W = (w.alloc (Obj.cells #[Value.string x0, Value.int IntKind.i64 x1, Value.bool x2] 89)).drewN (nd + nq) := ⟨_, rfl⟩
  rw [← hW]
  have hBW : Below w.heap.size w w2 := by rw [hW]; exact pw_below_drewN (below_alloc (Below.refl _ _) _) _
  have hX2 : w2.heap[w.heap.size]? = some (.cells #[Value.string x0, Value.int IntKind.i64 x1, Value.bool x2] 89 (0, 0)) := by rw [hW]; exact heap_alloc_new w _
  have hG2 := (hBW.block g hgl).trans hg
  have hV2 := Kd.R_below hv hBW
  have hvl : ∀ k, (Value.slice A l.length c).ownBlock = some k → k < w.heap.size := by
    obtain ⟨inner, hown⟩ := Kd.R_own hv
    exact own_lt hown
  have hB2 := hBW.mono (show base ≤ w.heap.size by omega)
  have HK2 : Aside0 (Kept w w2 (fun k => k = g ∨ (Value.slice A l.length c).ownBlock = some k)) := ⟨Kept.of_below hBW _⟩
  clear hW hBW hg hv
  replace c0 := cell_of_row w2 g 0 _ _ _ hG2
  have b0 := cell_of_row w2 w.heap.size 0 _ _ _ hX2
  have b1 := cell_of_row w2 w.heap.size 1 _ _ _ hX2
  have b2 := cell_of_row w2 w.heap.size 2 _ _ _ hX2
  simp at c0 b0 b1 b2
  refine start_ (n := 11) (S := fun w' => w'.cell? ⟨g, 0, none⟩ = some (.slice A l.length c) ∧ w'.cell? ⟨w.heap.size, 0, none⟩ = some (.string x0) ∧ w'.cell? ⟨w.heap.size, 1, none⟩ = some (.int .i64 x1) ∧ w'.cell? ⟨w.heap.size, 2, none⟩ = some (.bool x2)) (ds := [10]) #[false, false, false, false, false, false, false, false, false, false, false] (by kernel_rfl) rfl rfl ⟨c0, b0, b1, b2⟩ (fun hHeld => ?_)
  replace hV2 : Kd.R k89 89 w2.drew base (fun _ => True) (.slice A l.length c) l := hV2
  replace hB2 : Below base w w2.drew := hB2.drew
  replace HK2 : Aside0 (Kept w w2.drew (fun k => k = g ∨ (Value.slice A l.length c).ownBlock = some k)) := HK2
  replace hG2 : w2.drew.heap[g]? = some (.cells #[.slice A l.length c] 93 (0, 0)) := hG2
  replace hX2 : w2.drew.heap[w.heap.size]? = some (.cells #[Value.string x0, Value.int IntKind.i64 x1, Value.bool x2] 89 (0, 0)) := hX2
  have hb2s : base ≤ w2.drew.heap.size := by have := blk_lt hG2; omega
  have hxs : w.heap.size < w2.drew.heap.size := blk_lt hX2
  clear c0 b0 b1 b2
  generalize w2.drew = w5 at *
  have HV2 := Aside0.mk hV2
  have HB2 := Aside0.mk hB2
  have HG2 := Aside0.mk hG2
  have HX2 := Aside0.mk hX2
  replace hvl : ∀ k, (Value.slice A l.length c).ownBlock = some k → k ≠ w.heap.size := fun k hk => by have := hvl k hk; omega
  clear hV2 hB2 hG2 hX2
  refine pure_ (i := 0) (N := some 34) (v := ?_) (a' := ?_) #[true, false, false, false, false, false, false, false, false, false, false] rfl rfl (by kernel_rfl) (fun _ _ _ h => h) (Or.inl ⟨by rfl, ?_⟩) ?_ ?_
  rotate_left
  · intro w'
    go_simp
    with_reducible rfl
  rotate_left
  · simp only [Act.put, List.setIfInBounds_toArray, List.set_cons_zero, List.set_cons_succ, i64_w, i32_w]
    rfl
  refine pure_ (i := 1) (N := some 35) (v := ?_) (a' := ?_) #[true, true, false, false, false, false, false, false, false, false, false] rfl rfl (by kernel_rfl) (fun _ _ _ h => h) (Or.inl ⟨by rfl, ?_⟩) ?_ ?_
  rotate_left
  · intro w'
    go_simp
    with_reducible rfl
  rotate_left
  · simp only [Act.put, List.setIfInBounds_toArray, List.set_cons_zero, List.set_cons_succ, i64_w, i32_w]
    rfl
  refine pure_ (i := 2) (N := some 36) (v := ?_) (a' := ?_) #[true, true, true, false, false, false, false, false, false, false, false] rfl rfl (by kernel_rfl) (fun _ _ _ h => h) (Or.inl ⟨by rfl, ?_⟩) ?_ ?_
  rotate_left
  · intro w'
    go_simp
    with_reducible rfl
  rotate_left
  · simp only [Act.put, List.setIfInBounds_toArray, List.set_cons_zero, List.set_cons_succ, i64_w, i32_w]
    rfl
  refine pure_ (i := 3) (N := some 37) (v := ?_) (a' := ?_) #[true, true, true, true, false, false, false, false, false, false, false] rfl rfl (by kernel_rfl) (fun _ _ _ h => h) (Or.inl ⟨by rfl, ?_⟩) ?_ ?_
  rotate_left
  · intro w'
    go_simp
    with_reducible rfl
  rotate_left
  · simp only [Act.put, List.setIfInBounds_toArray, List.set_cons_zero, List.set_cons_succ, i64_w, i32_w]
    rfl
  refine take_ (i := 4) (N := some 38) (v := ?_) (a' := ?_) #[true, true, true, true, true, false, false, false, false, false, false] rfl rfl (by kernel_rfl) (fun _ _ _ h => h) (Or.inl ⟨by rfl, ?_⟩) hHeld ?_ ?_
  rotate_left
  · rintro w' ⟨s0, s1, s2, s3⟩
    go_simp
    with_reducible rfl
  rotate_left
  · simp only [Act.put, List.setIfInBounds_toArray, List.set_cons_zero, List.set_cons_succ, i64_w, i32_w]
    rfl
  refine take_ (i := 5) (N := some 39) (v := ?_) (a' := ?_) #[true, true, true, true, true, true, false, false, false, false, false] rfl rfl (by kernel_rfl) (fun _ _ _ h => h) (Or.inl ⟨by rfl, ?_⟩) hHeld ?_ ?_
  rotate_left
  · rintro w' ⟨s0, s1, s2, s3⟩
    go_simp
    with_reducible rfl
  rotate_left
  · simp only [Act.put, List.setIfInBounds_toArray, List.set_cons_zero, List.set_cons_succ, i64_w, i32_w]
    rfl
  refine one_ (i := 6) (N := some 40) #[true, true, true, true, true, true, true, false, false, false, false] rfl rfl (by kernel_rfl) (by decide) (fun K hK => ?_)
  refine value_ (w1 := ?_) (v := ?_) (by rfl) rfl ?_ ?_
  rotate_left 2
  · go_simp
    constructor
    · rfl
    · rfl
  refine hK.out _ _ ⟨(cell_alloc hHeld.1 _), (cell_alloc hHeld.2.1 _), (cell_alloc hHeld.2.2.1 _), (cell_alloc hHeld.2.2.2 _)⟩ (fun hHeld => ?_)
  clear hK K
  refine norm_ (a' := ?_) ?_ ?_
  rotate_left
  · show Act.put _ (some 40) _ = _
    simp only [Act.put, List.setIfInBounds_toArray, List.set_cons_zero, List.set_cons_succ, i64_w, i32_w]
    rfl
  refine one_ (i := 7) (N := some 41) #[true, true, true, true, true, true, true, true, false, false, false] rfl rfl (by kernel_rfl) (by decide) (fun K hK => ?_)
  refine Kd.R_append_step (W := w5) k89 (w0 := w) base (by rfl) (.tmp 38) (.tmp 40) 23 89 (.agg #[.string ⟨#[]⟩, .int .i64 0, .bool false]) 32 (by rfl) Try.underlying23 info89 rfl (by decide) (by omega) (.slice A l.length c) l ⟨x0, x1, x2⟩ [.string x0, .int .i64 x1, .bool x2] (fun _ => True) (fun _ => False) (by rfl) (by rfl) (k89_mkM _ _ _ _) (fun _ hk => hk.elim) (fun _ _ => trivial) HV2.out HB2.out hb2s (by omega) ?_
  intro v3 w3 ho3 hb3 hg3 hat3
  have hG3 := (hg3.block g (blk_lt HG2.out) (Kd.R_ne HV2.out HG2.out (by decide))).trans HG2.out
  have hX3 := (hg3.block w.heap.size hxs (fun e => hvl w.heap.size e.symm rfl)).trans HX2.out
  have c03 := cell_of_row w3 g 0 _ _ _ hG3
  have f03 := frozen_of_row hG3 0
  obtain ⟨A3, c3, rfl⟩ := Kd.R_slice ho3
  rw [List.length_append, List.length_singleton] at ho3 hat3 ⊢
  simp at c03
  refine hK.out _ _ ⟨c03, (cell_of_row w3 w.heap.size 0 _ _ _ hX3), (cell_of_row w3 w.heap.size 1 _ _ _ hX3), (cell_of_row w3 w.heap.size 2 _ _ _ hX3)⟩ (fun hHeld => ?_)
  clear hK K
  refine norm_ (a' := ?_) ?_ ?_
  rotate_left
  · show Act.put _ (some 41) _ = _
    simp only [Act.put, List.setIfInBounds_toArray, List.set_cons_zero, List.set_cons_succ, i64_w, i32_w]
    rfl
  refine pure_ (i := 8) (N := some 42) (v := ?_) (a' := ?_) #[true, true, true, true, true, true, true, true, true, false, false] rfl rfl (by kernel_rfl) (fun _ _ _ h => h) (Or.inl ⟨by rfl, ?_⟩) ?_ ?_
  rotate_left
  · intro w'
    go_simp
    with_reducible rfl
  rotate_left
  · simp only [Act.put, List.setIfInBounds_toArray, List.set_cons_zero, List.set_cons_succ, i64_w, i32_w]
    rfl
  refine pure_ (i := 9) (N := some 43) (v := ?_) (a' := ?_) #[true, true, true, true, true, true, true, true, true, true, false] rfl rfl (by kernel_rfl) (fun _ _ _ h => h) (Or.inl ⟨by rfl, ?_⟩) ?_ ?_
  rotate_left
  · intro w'
    go_simp
    with_reducible rfl
  rotate_left
  · simp only [Act.put, List.setIfInBounds_toArray, List.set_cons_zero, List.set_cons_succ, i64_w, i32_w]
    rfl
  refine last_ (i := 10) (N := none) #[true, true, true, true, true, true, true, true, true, true, true] rfl rfl (by kernel_rfl) (by decide) (fun K hK => ?_)
  refine skip_ (w1 := ?_) (by rfl) rfl ?_ ?_
  rotate_left
  · go_simp
    rfl
  refine hK.out _ _ ?_
  clear hK K
  refine done_ (by kernel_rfl) ?_
  go_wp2
  go_ret2
  exact ⟨_, rfl, blk_set00 hG3 _, Kd.R_set ho3 hG3 (by decide) 0 _, hb3.setCell (p := ⟨g, 0, none⟩) hbg _, (Kept.of_grown hg3 HK2.out (fun k hk => .inl (.inr hk))).setCell (p := ⟨g, 0, none⟩) (.inl (.inl rfl)) _, hat_le hat3 HK2.out.1⟩

set_option maxRecDepth 100000 in
set_option maxHeartbeats 2000000 in
theorem radd_bad (g kk k2 : Nat) (A : Option Addr) (c : Nat) (l : List S89) (x : S89) (e : Int) (w : World) (hg : w.heap[g]? = some (.cells #[.slice A l.length c] 93 (0, 0)))
    (hlc : l.length ≤ c) (hC : Kd.C k89 w A l.length l)
    (nm : Bool) (h1 : ropewalkref01_IsName.f kk x.f0 = some nm) (fd : Int) (h4 : ropewalkref01_Find.f k2 l x.f0 = some fd)
    (he : (nm = false ∧ e = 10) ∨ (nm = true ∧ (x.f1 < 0 ∨ 6 < x.f1) ∧ e = 11) ∨ (nm = true ∧ 0 ≤ x.f1 ∧ x.f1 ≤ 6 ∧ 0 ≤ fd ∧ e = 12) ∨ (nm = true ∧ 0 ≤ x.f1 ∧ x.f1 ≤ 6 ∧ fd < 0 ∧ 64 ≤ l.length ∧ e = 13)) :
    Calls Try.prog 74 #[.pointer (some ⟨g, 0, none⟩), xV x] w fun e' w' => e' = .returned (.tuple #[.int .i64 0, .int .i64 e]) ∧ Below w.heap.size w w' := by
  have hgl := blk_lt hg
  have c0 := cell_alloc (cell_of_row w g 0 _ _ _ hg)
  obtain ⟨x0, x1, x2⟩ := x
  simp only [xV] at *
  have HC0 : Aside0 (∀ W, Below w.heap.size w W → Kd.C k89 W A l.length l) := ⟨fun W hW => Kd.C_below hC hW⟩
  clear hC
  have hb0 : ∀ (O : Obj) n, Below w.heap.size w ((w.alloc O).drewN n) := fun O n => pw_below_drewN (below_alloc (Below.refl _ _) _) _
  have HB0 := Aside0.mk hb0
  clear hb0
  rcases he with ⟨rfl, rfl⟩ | ⟨rfl, h2, rfl⟩ | ⟨rfl, h2, h3, h5, rfl⟩ | ⟨rfl, h2, h3, h5, h6, rfl⟩
  · go_enter Try.func74, Try.ntmps74
    go_wp2_with (go_at_call 101; refine (ropewalkref01_IsName.calls kk x0 false _ h1).mono ?_; rintro e w1 ⟨rfl, ⟨nd, rfl⟩⟩)
    go_ret2
    exact ⟨rfl, by first | exact HB0.out _ _ | exact pw_below_drewN (HB0.out _ _) _⟩
  · rcases h2 with h2 | h2
    · have e1 : decide (x1 < 0) = true := decide_eq_true h2
      go_enter Try.func74, Try.ntmps74
      go_wp2_with (go_at_call 101; refine (ropewalkref01_IsName.calls kk x0 true _ h1).mono ?_; rintro e w1 ⟨rfl, ⟨nd, rfl⟩⟩)
      go_ret2
      exact ⟨rfl, by first | exact HB0.out _ _ | exact pw_below_drewN (HB0.out _ _) _⟩
    · have e1 : decide (x1 < 0) = false := decide_eq_false (by omega)
      have e2 : decide (6 < x1) = true := decide_eq_true h2
      go_enter Try.func74, Try.ntmps74
      go_wp2_with (go_at_call 101; refine (ropewalkref01_IsName.calls kk x0 true _ h1).mono ?_; rintro e w1 ⟨rfl, ⟨nd, rfl⟩⟩)
      go_ret2
      exact ⟨rfl, by first | exact HB0.out _ _ | exact pw_below_drewN (HB0.out _ _) _⟩
  · have e6 : decide (0 ≤ fd) = true := decide_eq_true h5
    go_enter Try.func74, Try.ntmps74
    go_wp2_with (go_at_call 101; refine (ropewalkref01_IsName.calls kk x0 true _ h1).mono ?_; rintro e w1 ⟨rfl, ⟨nd, rfl⟩⟩)
    go_quiet ((go_at_call 102; exact quiet_add_drawn (ropewalkref01_Find.calls k2 A c l x0 fd _ (HC0.out _ (pw_below_drewN (below_alloc (Below.refl _ _) _) _)) hlc h4)))
    go_wp2
    go_ret2
    exact ⟨rfl, by first | exact HB0.out _ _ | exact pw_below_drewN (HB0.out _ _) _⟩
  · have e5 : decide (64 ≤ (l.length : Int)) = true := decide_eq_true (by omega)
    have e6 : decide (0 ≤ fd) = false := decide_eq_false (by omega)
    go_enter Try.func74, Try.ntmps74
    go_wp2_with (go_at_call 101; refine (ropewalkref01_IsName.calls kk x0 true _ h1).mono ?_; rintro e w1 ⟨rfl, ⟨nd, rfl⟩⟩)
    go_quiet ((go_at_call 102; exact quiet_add_drawn (ropewalkref01_Find.calls k2 A c l x0 fd _ (HC0.out _ (pw_below_drewN (below_alloc (Below.refl _ _) _) _)) hlc h4)))
    go_wp2
    go_ret2
    exact ⟨rfl, by first | exact HB0.out _ _ | exact pw_below_drewN (HB0.out _ _) _⟩
end Go.Proofs.Ytadjoaipmcbieaa
