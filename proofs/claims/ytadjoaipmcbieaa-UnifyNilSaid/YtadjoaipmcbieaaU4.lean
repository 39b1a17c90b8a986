/- graph.unify: two parts are made one, and all that must be then. -/
import Derived.Test.YtadjoaipmcbieaaUU
import Derived.Deep.RegionHeld3
import Derived.Deep.DeepCutAuto
import Derived.Deep.CutBlock
import Derived.Test.YtadjoaipmcbieaaQ0
namespace Go.Proofs.Ytadjoaipmcbieaa
open Go.RowKit Go.Proofs.YtadjoaipmcbieaaW.PrintWords Go.Proofs.YtadjoaipmcbieaaW.PrintLast Go.Proofs.YtadjoaipmcbieaaW.PrintMore A

def kpp : Kd (Int × Int) := Kd.pair (Kd.int .i64) (Kd.int .i64)
def toPP (ps : List (Nat × Nat)) : List (Int × Int) := ps.map fun p => ((p.1 : Int), (p.2 : Int))
theorem info158 : (Try.prog.info? 157).map (fun i => (i.zero, i.size, i.bytes)) = some (some (.agg #[.int .i64 0, .int .i64 0]), 2, 16) := by kernel_rfl

theorem kpp_M (W : World) (base : Nat) (ok : Nat → Prop) (x : Int × Int) : kpp.M W base ok x [.int .i64 x.1, .int .i64 x.2] := ⟨[_], [_], rfl, rfl, rfl⟩
theorem kpp_K {W : World} {x : Int × Int} {c : List Value} (h : kpp.K W x c) : c = [.int .i64 x.1, .int .i64 x.2] := by
  obtain ⟨c0, c1, rfl, h0, h1⟩ := h
  rw [show c0 = [_] from h0, show c1 = [_] from h1]; rfl
/-- The last pair's cells. -/
theorem last_pair {w : World} {base gp c n : Nat} {ok : Nat → Prop} {ps : List (Nat × Nat)} {x y : Nat} (h : Kd.R kpp 157 w base ok (.slice (some ⟨gp, 0, none⟩) n c) (toPP (ps ++ [(x, y)]))) :
    w.cell? ⟨gp, ps.length * 2, none⟩ = some (.int .i64 x) ∧ w.cell? ⟨gp, ps.length * 2 + 1, none⟩ = some (.int .i64 y) := by
  have hn : n = ps.length + 1 := by have := (Kd.R_reads' h).1; simpa [toPP] using this
  obtain ⟨cs, hl, hm, hc, _⟩ := Kd.R_elem h (0, 0) (ps.length : Int) (by omega) (by omega)
  have e : cs = [.int .i64 x, .int .i64 y] := by
    have := kpp_K (kpp.K_of_M hm)
    simpa [toPP] using this
  subst e
  rw [Int.toNat_natCast] at hc
  exact ⟨hc 0 _ rfl, hc 1 _ rfl⟩

theorem pairs_new (w : World) (x y : Nat) : Kd.R kpp 157 (w.alloc (.cells #[.int .i64 x, .int .i64 y] 157)) w.heap.size (fun _ => True) (.slice (some ⟨w.heap.size, 0, none⟩) 1 1) (toPP [(x, y)]) := by
  refine ⟨fun _ _ => trivial, [.int .i64 x, .int .i64 y], ?_, rfl, fun j p hj => ?_⟩
  · have h2 := World.ownsRow_lit (base := w.heap.size) (e := 157) (size := kpp.sz) w #[.int .i64 x, .int .i64 y] 1 (Nat.le_refl _) (by decide) rfl
    exact h2
  · cases j with
    | zero => simp [toPP] at hj; subst hj; exact kpp_M _ _ _ _
    | succ j => simp [toPP] at hj
/-- Where the two findings of a round stand. -/
structure RS (w0 W : World) (base g : Nat) (vp : Value) (ga n c : Nat) (parts : List Pt) (R : Nat → Nat) (v : Value) (ps : List (Nat × Nat)) : Prop where
  f : ∃ ys, FSt w0 W base g vp ga n c parts R ys
  v : Kd.R kpp 157 W w0.heap.size (fun _ => True) v (toPP ps)
theorem RS.below {w0 W W' : World} {base g : Nat} {vp : Value} {ga n c : Nat} {parts : List Pt} {R : Nat → Nat} {v : Value} {ps : List (Nat × Nat)} (h : RS w0 W base g vp ga n c parts R v ps) (hb : Below W.heap.size W W') : RS w0 W' base g vp ga n c parts R v ps := by
  obtain ⟨⟨ys, h⟩, hv⟩ := h
  exact ⟨⟨ys, h.below hb⟩, Kd.R_below hv hb⟩
theorem find_rs (base g ga n c : Nat) (vp : Value) (parts : List Pt) (R : Nat → Nat) (x p q gp m cp : Nat) (ps : List (Nat × Nat)) (w0 w : World) (h : RS w0 w base g vp ga n c parts R (.slice (some ⟨gp, 0, none⟩) m cp) (ps ++ [(p, q)])) (hx : x < n) :
    Calls Try.prog 123 #[.pointer (some ⟨g, 0, none⟩), .int .i64 x] w fun e w' => e = .returned (.int .i64 (R x)) ∧ RS w0 w' base g vp ga n c parts R (.slice (some ⟨gp, 0, none⟩) m cp) (ps ++ [(p, q)]) ∧
      w'.cell? ⟨gp, ps.length * 2, none⟩ = some (.int .i64 p) ∧ w'.cell? ⟨gp, ps.length * 2 + 1, none⟩ = some (.int .i64 q) := by
  obtain ⟨⟨ys, hF⟩, hV⟩ := h
  refine (find_st base g ga n c vp parts R ys x w w ⟨hF.g, hF.len, hF.root, Below.refl _ _, Kept.refl _ _⟩ hx).mono ?_
  rintro e w' ⟨ys', he, hF'⟩
  obtain ⟨g', c', e', _, _, cells, hcl⟩ := Kd.R_form hF.g.t (by rw [hF.len]; omega)
  cases e'
  have hV' : Kd.R kpp 157 w' w0.heap.size (fun _ => True) (.slice (some ⟨gp, 0, none⟩) m cp) (toPP (ps ++ [(p, q)])) := Kd.R_mono (Kd.R_kept (Kd.R_types hV hcl (by decide)) hF'.k (fun k hk e => hk.2 e)) (fun _ _ => trivial)
  exact ⟨he, ⟨⟨ys', hF'.g, hF'.len, hF'.root, hF.b.trans hF'.b, hF.k.then_ hF'.k (fun k hk => .inl hk)⟩, hV'⟩, last_pair hV'⟩

theorem kpt_K {W : World} {base : Nat} {ok : Nat → Prop} {p : Pt} {cs : List Value} (h : kpt.M W base ok p cs) : ∃ A c, cs = [.int .i64 p.1, .slice A p.2.length c] ∧ Kd.R (Kd.int .i64) 3 W base ok (.slice A p.2.length c) p.2 := by
  obtain ⟨c0, c1, rfl, h0, ⟨v, rfl, h1⟩⟩ := h
  obtain ⟨A, c, rfl⟩ := Kd.R_slice h1
  exact ⟨A, c, by rw [show c0 = [_] from h0]; rfl, h1⟩
/-- Part x's cells. -/
theorem Gr.part {w : World} {base g gq m cq : Nat} {vt : Value} {parts : List Pt} {tos : List Int} (h : Gr w base g (.slice (some ⟨gq, 0, none⟩) m cq) vt parts tos) {x : Nat} (hx : x < m) :
    ∃ A c, w.cell? ⟨gq, x * 2, none⟩ = some (.int .i64 (ptA parts x).1) ∧ w.cell? ⟨gq, x * 2 + 1, none⟩ = some (.slice A (ptA parts x).2.length c) ∧ Kd.R (Kd.int .i64) 3 w base (fun k => some k ≠ vt.ownBlock) (.slice A (ptA parts x).2.length c) (ptA parts x).2 := by
  obtain ⟨cs, hl, hm, hc, _⟩ := Kd.R_elem h.p (0, []) (x : Int) (by omega) (by omega)
  rw [Int.toNat_natCast] at hm hc
  obtain ⟨A, c, rfl, hR⟩ := kpt_K hm
  exact ⟨A, c, hc 0 _ rfl, hc 1 _ rfl, Kd.R_mono hR (fun _ hk => hk.1)⟩

theorem two_new (w : World) (o1 o2 : Obj) : ((w.alloc o1).alloc o2).heap[w.heap.size]? = some o1 ∧ ((w.alloc o1).alloc o2).heap[w.heap.size + 1]? = some o2 := by
  refine ⟨(Below.heap_alloc _ _ _ (by simp)).trans (heap_alloc_new w o1), ?_⟩
  have := heap_alloc_new (w.alloc o1) o2
  simpa using this
theorem FSt.toBlk {w0 W : World} {base g : Nat} {vp : Value} {ga n c : Nat} {parts : List Pt} {R : Nat → Nat} {ys : List Int} (h : FSt w0 W base g vp ga n c parts R ys) (hn : 0 < n) : base ≤ ga ∧ ∃ cells, W.heap[ga]? = some (.cells cells 3 (0, 0)) := by
  obtain ⟨g', c', e', h1, _, cells, hcl⟩ := Kd.R_form h.g.t (by rw [h.len]; exact hn)
  cases e'
  exact ⟨h1, cells, hcl⟩
/-- A root is linked to another one. -/
theorem FSt.link {w0 W : World} {base g : Nat} {vp : Value} {ga n c : Nat} {parts : List Pt} {R : Nat → Nat} {ys : List Int} (h : FSt w0 W base g vp ga n c parts R ys) {c1 c2 : Nat} (l1 : c1 < n) (l2 : c2 < n) (e1 : R c1 = c1) (e2 : R c2 = c2) (hne : c1 ≠ c2) :
    FSt w0 (W.setCell ⟨ga, c1, none⟩ (.int .i64 c2)) base g vp ga n c parts (fun z => if R z = c1 then c2 else R z) (ys.set c1 c2) := by
  have hgb := (h.toBlk (by omega)).1
  exact ⟨h.g.put (c1 : Int) c2, by rw [List.length_set]; exact h.len, h.root.link (by rw [h.len]; exact l1) (by rw [h.len]; exact l2) e1 e2 hne, h.b.setCell (p := ⟨ga, c1, none⟩) hgb _, h.k.setCell (p := ⟨ga, c1, none⟩) (.inl rfl) _⟩
theorem pairs_far {w0 W : World} {base g : Nat} {vp : Value} {ga n c : Nat} {parts : List Pt} {R : Nat → Nat} {ys : List Int} (h : FSt w0 W base g vp ga n c parts R ys) (hn : 0 < n) {b0 : Nat} {v : Value} {l : List (Int × Int)} (hV : Kd.R kpp 157 W b0 (fun _ => True) v l) (i : Nat) (u : Value) :
    Kd.R kpp 157 (W.setCell ⟨ga, i, none⟩ u) b0 (fun _ => True) v l := by
  obtain ⟨_, cells, hcl⟩ := h.toBlk hn
  exact Kd.R_set hV hcl (by decide) i u
theorem FSt.freeAt {w0 W : World} {base g : Nat} {vp : Value} {ga n c : Nat} {parts : List Pt} {R : Nat → Nat} {ys : List Int} (h : FSt w0 W base g vp ga n c parts R ys) {z : Nat} (hz : z < n) : ∃ v, W.cell? ⟨ga, z, none⟩ = some v ∧ W.frozen? ⟨ga, z, none⟩ = false := by
  obtain ⟨h1, h2⟩ := h.cell hz rfl
  exact ⟨_, h1, h2⟩

theorem rd_mem {xs : List Int} {k : Nat} (h : k < xs.length) : rd xs k ∈ xs := by
  simp only [rd, Int.toNat_natCast]; rw [List.getD_eq_getElem?_getD, List.getElem?_eq_getElem h]; exact List.getElem_mem h
/-- Where the arguments of two parts are paired. -/
structure InSt (w0 W : World) (base g : Nat) (vp : Value) (ga n c : Nat) (parts : List Pt) (R : Nat → Nat) (ys : List Int) (v : Value) (ps : List (Nat × Nat)) (bp bq : Nat) (sx sy : Int) (ax ay : List Int) (Ax Ay : Option Addr) (cx cy : Nat) : Prop where
  f : FSt w0 W base g vp ga n c parts R ys
  v : Kd.R kpp 157 W w0.heap.size (fun _ => True) v (toPP ps)
  b1 : W.heap[bp]? = some (.cells #[.int .i64 sx, .slice Ax ax.length cx] 155 (0, 0))
  b2 : W.heap[bq]? = some (.cells #[.int .i64 sy, .slice Ay ay.length cy] 155 (0, 0))
  px : Kd.R (Kd.int .i64) 3 W base (fun k => k ≠ ga) (.slice Ax ax.length cx) ax
  py : Kd.R (Kd.int .i64) 3 W base (fun k => k ≠ ga) (.slice Ay ay.length cy) ay

theorem FSt.over {w0 W w1 : World} {base g : Nat} {vp : Value} {ga n c : Nat} {parts : List Pt} {R : Nat → Nat} {ys : List Int} (h : FSt w0 W base g vp ga n c parts R ys) (hb : base ≤ w0.heap.size) {v : Value} {l : List (Int × Int)}
    (hV : Kd.R kpp 157 W w0.heap.size (fun _ => True) v l) (hg : W.grownBy w1 v.ownBlock) : FSt w0 w1 base g vp ga n c parts R ys :=
  ⟨⟨blk_grown h.g.blk hg (Kd.R_ne hV h.g.blk (by decide)), h.g.hb, Kd.R_over h.g.p hV (by decide) hg, Kd.R_over h.g.t hV (by decide) hg⟩, h.len, h.root,
   pw_below_grown h.b _ (Nat.le_trans hb h.k.1) hg (fun k hk => Nat.le_trans hb (Kd.R_base hV k hk)), Kept.of_grown hg h.k (fun k hk => .inr (Kd.R_base hV k hk))⟩
theorem InSt.app {w0 W w1 : World} {base g : Nat} {vp : Value} {ga n c : Nat} {parts : List Pt} {R : Nat → Nat} {ys : List Int} {v v1 : Value} {ps : List (Nat × Nat)} {bp bq : Nat} {sx sy : Int} {ax ay : List Int} {Ax Ay : Option Addr} {cx cy : Nat}
    (h : InSt w0 W base g vp ga n c parts R ys v ps bp bq sx sy ax ay Ax Ay cx cy) (hb : base ≤ w0.heap.size) {p q : Int} (hp : 0 ≤ p) (hq : 0 ≤ q) (ho : Kd.R kpp 157 w1 w0.heap.size (fun _ => True) v1 (toPP ps ++ [(p, q)])) (hg : W.grownBy w1 v.ownBlock) :
    InSt w0 w1 base g vp ga n c parts R ys v1 (ps ++ [(p.toNat, q.toNat)]) bp bq sx sy ax ay Ax Ay cx cy := by
  refine ⟨h.f.over hb h.v hg, ?_, blk_grown h.b1 hg (Kd.R_ne h.v h.b1 (by decide)), blk_grown h.b2 hg (Kd.R_ne h.v h.b2 (by decide)), Kd.R_over h.px h.v (by decide) hg, Kd.R_over h.py h.v (by decide) hg⟩
  have e : toPP (ps ++ [(p.toNat, q.toNat)]) = toPP ps ++ [(p, q)] := by simp [toPP]; omega
  rw [e]; exact ho
theorem InSt.below {w0 W w1 : World} {base g : Nat} {vp : Value} {ga n c : Nat} {parts : List Pt} {R : Nat → Nat} {ys : List Int} {v : Value} {ps : List (Nat × Nat)} {bp bq : Nat} {sx sy : Int} {ax ay : List Int} {Ax Ay : Option Addr} {cx cy : Nat}
    (h : InSt w0 W base g vp ga n c parts R ys v ps bp bq sx sy ax ay Ax Ay cx cy) (hb : Below W.heap.size W w1) : InSt w0 w1 base g vp ga n c parts R ys v ps bp bq sx sy ax ay Ax Ay cx cy :=
  ⟨h.f.below hb, Kd.R_below h.v hb, (hb.block _ (blk_lt h.b1)).trans h.b1, (hb.block _ (blk_lt h.b2)).trans h.b2, Kd.R_below h.px hb, Kd.R_below h.py hb⟩
theorem InSt.boxes {w0 W : World} {base g : Nat} {vp : Value} {ga n c : Nat} {parts : List Pt} {R : Nat → Nat} {ys : List Int} {v : Value} {ps : List (Nat × Nat)} {bp bq : Nat} {sx sy : Int} {ax ay : List Int} {Ax Ay : Option Addr} {cx cy : Nat}
    (h : InSt w0 W base g vp ga n c parts R ys v ps bp bq sx sy ax ay Ax Ay cx cy) : W.cell? ⟨bp, 1, none⟩ = some (.slice Ax ax.length cx) ∧ W.cell? ⟨bq, 1, none⟩ = some (.slice Ay ay.length cy) := by
  have j1 := cell_of_row _ bp 1 _ _ _ h.b1
  have j2 := cell_of_row _ bq 1 _ _ _ h.b2
  exact ⟨j1, j2⟩

/-- What a round of unify keeps. -/
structure UniSt (w0 W : World) (base g : Nat) (vp : Value) (ga n c : Nat) (parts : List Pt) (b : Int → Nat) (tm : Nat → List Int) (ra rb : Nat) (v : Value) (R : Nat → Nat) (ys : List Int) (ps : List (Nat × Nat)) : Prop where
  f : FSt w0 W base g vp ga n c parts R ys
  u : Uni b (netP parts tm) ra rb R (repP parts) ps
  v : Kd.R kpp 157 W w0.heap.size (fun _ => True) v (toPP ps)

set_option maxRecDepth 100000 in
set_option maxHeartbeats 4000000 in
theorem unify_any (base g ga n c gq cq : Nat) (parts : List Pt) (b : Int → Nat) (tm : Nat → List Int) (R0 : Nat → Nat) (xs : List Int) (x0 y0 : Nat) (w : World) (h : FSt w w base g (.slice (some ⟨gq, 0, none⟩) n cq) ga n c parts R0 xs) (hn : n = parts.length) (hn2 : n ≤ 100000)
    (hu : Uni b (netP parts tm) x0 y0 R0 (repP parts) [(x0, y0)]) (h6 : ∀ x, (ptA parts x).2.length ≤ 6 ∧ ∀ a ∈ (ptA parts x).2, 0 ≤ a) :
    Calls Try.prog 113 #[.pointer (some ⟨g, 0, none⟩), .int .i64 x0, .int .i64 y0] w fun e w' => ∃ (ok : Bool) (R : Nat → Nat) (ys : List Int), e = .returned (.bool ok) ∧ FSt w w' base g (.slice (some ⟨gq, 0, none⟩) n cq) ga n c parts R ys ∧
      ((ok = true ∧ Uni b (netP parts tm) x0 y0 R (repP parts) []) ∨ (ok = false ∧ ∀ s, Gd b s → sb s (tm x0) ≠ sb s (tm y0))) := by
  have HF := Aside0.mk h
  have HU := Aside0.mk hu
  have H6 := Aside0.mk h6
  have hgl := blk_lt h.g.blk
  have HN := Aside0.mk hn
  clear h hu h6 hn
  go_enter Try.func113, Try.ntmps113
  go_wp2_with fail
  go_step3
  go_wp2_with fail
  go_step3
  go_wp2_with fail
  have H1 : Aside0 (UniSt w (w.alloc (.cells #[.int .i64 x0, .int .i64 y0] 157)) base g (.slice (some ⟨gq, 0, none⟩) n cq) ga n c parts b tm x0 y0 (.slice (some ⟨w.heap.size, 0, none⟩) 1 1) R0 xs [(x0, y0)]) := ⟨HF.out.below (below_alloc (Below.refl _ _) _), HU.out, pairs_new _ _ _⟩
  clear HF HU
  go_loopg [7] (7 * nr R0 parts.length + 1) (fun m a wr => ∃ (R : Nat → Nat) (ys : List Int) (ps : List (Nat × Nat)), Aside0 (UniSt w wr base g (.slice (some ⟨gq, 0, none⟩) n cq) ga n c parts b tm x0 y0 a R ys ps) ∧ Aside0 (7 * nr R parts.length + ps.length ≤ m ∧ m ≤ 7 * parts.length + 1))
  case atStart => exact ⟨R0, xs, [(x0, y0)], H1, ⟨by simp, by have := nr_bd R0 parts.length; omega⟩⟩
  case round =>
    clear H1
    obtain ⟨R, ys, ps, H, HM⟩ := hrel
    obtain ⟨A, cp, rfl⟩ := Kd.R_slice H.out.v
    rcases List.eq_nil_or_concat ps with rfl | ⟨ps, ⟨x, y⟩, rfl⟩
    · go_wp2_with fail
      rw [Exit.noGoto_ret]
      go_ret
      exact ⟨true, R, ys, rfl, H.out.f, .inl ⟨rfl, H.out.u⟩⟩
    · simp only [List.concat_eq_append] at *
      obtain ⟨gp, cq, e, hgp, _, _⟩ := Kd.R_form H.out.v (by simp [toPP])
      cases e
      have hlen : (toPP (ps ++ [(x, y)])).length = ps.length + 1 := by simp [toPP]
      have hV := H.out.v
      rw [hlen] at hV ⊢
      clear hlen
      obtain ⟨l0, l1⟩ := last_pair hV
      have hx := H.out.u.pr (x, y) (by simp)
      have hRS : RS w wr base g (.slice (some ⟨gq, 0, none⟩) n cq) ga n c parts R (.slice (some ⟨gp, 0, none⟩) (ps.length + 1) cp) (ps ++ [(x, y)]) := ⟨⟨ys, H.out.f⟩, hV⟩
      have hcp := (Kd.R_reads' hV).2.1
      have hpl : ps.length < 9223372036854775807 := by have := (Kd.R_reads' hV).2.2.2.1; simp [toPP] at this; omega
      have hw1 : IntKind.i64.wrap (ps.length : Int) = ps.length := by rw [i64_w]; exact wrap_id (by omega) (by omega)
      have hb0 : (0 : Int) ≤ (ps.length : Int) := by omega
      have hb1 : (ps.length : Int) < (ps.length : Int) + 1 := by omega
      have hxl : x < n := by rw [HN.out]; exact hx.1
      have hyl : y < n := by rw [HN.out]; exact hx.2
      go_upto_region 3 with fail
      go_cut [8, 9] from 17 to 116 (fun s8 s9 wx => s8 = .int .i64 (R x) ∧ s9 = .int .i64 (R y) ∧ Aside0 (RS w wx base g (.slice (some ⟨gq, 0, none⟩) n cq) ga n c parts R (.slice (some ⟨gp, 0, none⟩) (ps.length + 1) cp) (ps ++ [(x, y)])))
      case first =>
        go_region_held3 (fun w' => w'.cell? ⟨gp, ps.length * 2, none⟩ = some (.int .i64 x) ∧ w'.cell? ⟨gp, ps.length * 2 + 1, none⟩ = some (.int .i64 y)) (first | exact ⟨‹_›, ‹_›⟩ | assumption)
          (first | (go_at_call 123; refine (find_rs base g ga n c (.slice (some ⟨gq, 0, none⟩) n cq) parts R _ x y gp (ps.length + 1) cp ps w _ ?_ ?_).mono ?_; (first | assumption | exact hRS.below (below_drew (Below.refl _ _))); (first | exact hxl | exact hyl); rintro e w' ⟨rfl, hRS', l0', l1'⟩))
        all_goals (go_wp2_with fail; go_meet; exact ⟨rfl, rfl, ⟨by assumption⟩⟩)
      case rest =>
        obtain ⟨rfl, rfl, HR⟩ := hcut
        have hkx := H.out.u.lt x hx.1
        have hky := H.out.u.lt y hx.2
        clear hRS hV l0 l1 hxl hyl hw1 hb1
        have hsl := fun (W : World) => cut_to (P := Try.prog) 158 157 .i64 Try.underlying158 (info_parts info158).choose_spec.1 (some ⟨gp, 0, none⟩) (ps.length + 1) cp (ps.length : Int) (by omega) (by omega) (by omega) W
        go_upto_region 5 with fail
        obtain ⟨⟨yt, F⟩, V⟩ := HR.out
        have HF := Aside0.mk F
        have HV : Aside0 (Kd.R kpp 157 wc w.heap.size (fun _ => True) (.slice (some ⟨gp, 0, none⟩) ps.length cp) (toPP ps)) := ⟨by have := Kd.R_take V (m := ps.length) (by simp [toPP]); rwa [show (toPP (ps ++ [(x, y)])).take ps.length = toPP ps by simp [toPP]] at this⟩
        clear F V hsl HR
        generalize hkx' : R x = kx at *
        generalize hky' : R y = ky at *
        have HKX := Aside0.mk hkx'
        have HKY := Aside0.mk hky'
        clear hkx' hky'
        have hkx2 : kx < n := by rw [HN.out]; exact hkx
        have hky2 : ky < n := by rw [HN.out]; exact hky
        obtain ⟨Ax, cx, p0, p1, PX⟩ := HF.out.g.part hkx2
        obtain ⟨Ay, cy, q0, q1, PY⟩ := HF.out.g.part hky2
        have HPX := Aside0.mk PX
        have HPY := Aside0.mk PY
        obtain ⟨c0, _⟩ := HF.out.cells
        have d0 : (0 : Int) ≤ (kx : Int) := by omega
        have d1 : (kx : Int) < (n : Int) := by omega
        have d2 : (0 : Int) ≤ (ky : Int) := by omega
        have d3 : (ky : Int) < (n : Int) := by omega
        have HKN := Aside0.mk (And.intro hkx2 hky2)
        clear PX PY hkx hky hkx2 hky2
        obtain ⟨wd, rfl⟩ : ∃ wd : World, wd = wc := ⟨_, rfl⟩
        go_cut [10, 11] from 17 to 116 (fun s10 s11 wx => ∃ bp bq : Nat, s10 = .pointer (some ⟨bp, 0, none⟩) ∧ s11 = .pointer (some ⟨bq, 0, none⟩) ∧ wd.heap.size ≤ bp ∧ wd.heap.size ≤ bq ∧
          wx.heap[bp]? = some (.cells #[.int .i64 (ptA parts kx).1, .slice Ax (ptA parts kx).2.length cx] 155 (0, 0)) ∧ wx.heap[bq]? = some (.cells #[.int .i64 (ptA parts ky).1, .slice Ay (ptA parts ky).2.length cy] 155 (0, 0)) ∧ Aside0 (Below wd.heap.size wd wx))
        case first =>
          go_region_held3 (fun w' => w'.cell? ⟨g, 0, none⟩ = some (.slice (some ⟨gq, 0, none⟩) n cq) ∧ w'.cell? ⟨gq, kx * 2, none⟩ = some (.int .i64 (ptA parts kx).1) ∧ w'.cell? ⟨gq, kx * 2 + 1, none⟩ = some (.slice Ax (ptA parts kx).2.length cx) ∧
            w'.cell? ⟨gq, ky * 2, none⟩ = some (.int .i64 (ptA parts ky).1) ∧ w'.cell? ⟨gq, ky * 2 + 1, none⟩ = some (.slice Ay (ptA parts ky).2.length cy)) (go_keep) (fail)
          all_goals (go_wp2_with fail; go_meet)
          · exact ⟨wd.heap.size, wd.heap.size + 1, rfl, rfl, Nat.le_refl _, by omega, (two_new wd _ _).1, (two_new wd _ _).2, ⟨((below_alloc (below_alloc (Below.refl _ _) _) _)).drew⟩⟩
          · exact ⟨wd.heap.size + 1, wd.heap.size, rfl, rfl, by omega, Nat.le_refl _, (two_new wd _ _).2, (two_new wd _ _).1, ⟨((below_alloc (below_alloc (Below.refl _ _) _) _)).drew⟩⟩
        case rest =>
          obtain ⟨bp, bq, rfl, rfl, hbp, hbq, B1, B2, HB⟩ := hcut
          clear p0 p1 q0 q1 c0
          have hgc := HF.out.toBlk (by omega)
          obtain ⟨hgb, gcells, hgc⟩ := hgc
          have hga : ga < wd.heap.size := blk_lt hgc
          clear hgc
          replace HF := Aside0.mk (HF.out.below HB.out)
          replace HV := Aside0.mk (Kd.R_below HV.out HB.out)
          replace HPX := Aside0.mk (Kd.R_below HPX.out HB.out)
          replace HPY := Aside0.mk (Kd.R_below HPY.out HB.out)
          have b0 := cell_of_row _ bp 0 _ _ _ B1
          have b1 := cell_of_row _ bp 1 _ _ _ B1
          have b2 := cell_of_row _ bq 0 _ _ _ B2
          have b3 := cell_of_row _ bq 1 _ _ _ B2
          simp at b0 b1 b2 b3
          have HB1 := Aside0.mk B1
          have HB2 := Aside0.mk B2
          obtain ⟨c0, c1⟩ := HF.out.cells
          clear B1 B2
          have hid : R kx = kx ∧ R ky = ky := by
            have i1 := H.out.u.idem x hx.1
            have i2 := H.out.u.idem y hx.2
            rw [HKX.out] at i1
            rw [HKY.out] at i2
            exact ⟨i1, i2⟩
          have HID := Aside0.mk hid
          clear hid
          by_cases hk : kx = ky
          · have e1 : ((kx : Int) == (ky : Int)) = true := beq_iff_eq.2 (by omega)
            have HKK := Aside0.mk hk
            clear b0 b1 b2 b3 hk
            go_wp2_with fail
            go_roundg (7 * nr R parts.length + ps.length)
            case measure => have hm := HM.out; simp at hm; omega
            case rel => exact ⟨R, yt, ps, ⟨HF.out, step_same H.out.u (by rw [HKX.out, HKY.out]; exact HKK.out), HV.out⟩, ⟨Nat.le_refl _, by have hm := HM.out; simp at hm; omega⟩⟩
          · have e1 : ((kx : Int) == (ky : Int)) = false := beq_eq_false_iff_ne.2 (by omega)
            have HKK := Aside0.mk hk
            clear hk
            by_cases hs1 : (ptA parts kx).1 < 0
            · have e2 : decide ((ptA parts kx).1 < 0) = true := decide_eq_true hs1
              have hu := step_var1 H.out.u (by rw [HKX.out, HKY.out]; exact HKK.out) (by rw [HKX.out]; exact hs1)
              have hr := (step_nr H.out.u (by rw [HKX.out, HKY.out]; exact HKK.out)).1
              rw [HKX.out, HKY.out] at hu hr
              have HU := Aside0.mk hu
              have HR := Aside0.mk hr
              have HF2 := Aside0.mk (HF.out.link HKN.out.1 HKN.out.2 HID.out.1 HID.out.2 HKK.out)
              have HV2 := Aside0.mk (pairs_far HF.out (by omega) HV.out kx (.int .i64 ky))
              obtain ⟨tv, t0, t1⟩ := HF.out.freeAt HKN.out.1
              clear hu hr hs1
              go_wp2_with fail
              go_roundg (7 * nr (fun z => if R z = kx then ky else R z) parts.length + ps.length)
              case measure => have hm := HM.out; have := HR.out; simp at hm; omega
              case rel => exact ⟨_, _, ps, ⟨HF2.out, HU.out, HV2.out⟩, ⟨Nat.le_refl _, by have hm := HM.out; have := HR.out; simp at hm; omega⟩⟩
            · have e2 : decide ((ptA parts kx).1 < 0) = false := decide_eq_false hs1
              by_cases hs2 : (ptA parts ky).1 < 0
              · have e3 : decide ((ptA parts ky).1 < 0) = true := decide_eq_true hs2
                have hu := step_var2 H.out.u (by rw [HKX.out, HKY.out]; exact HKK.out) (by rw [HKY.out]; exact hs2)
                have hr := (step_nr H.out.u (by rw [HKX.out, HKY.out]; exact HKK.out)).2
                rw [HKX.out, HKY.out] at hu hr
                have HU := Aside0.mk hu
                have HR := Aside0.mk hr
                have HF2 := Aside0.mk (HF.out.link HKN.out.2 HKN.out.1 HID.out.2 HID.out.1 (fun e => HKK.out e.symm))
                have HV2 := Aside0.mk (pairs_far HF.out (by omega) HV.out ky (.int .i64 kx))
                obtain ⟨tv, t0, t1⟩ := HF.out.freeAt HKN.out.2
                clear hu hr hs1 hs2
                go_wp2_with fail
                go_roundg (7 * nr (fun z => if R z = ky then kx else R z) parts.length + ps.length)
                case measure => have hm := HM.out; have := HR.out; simp at hm; omega
                case rel => exact ⟨_, _, ps, ⟨HF2.out, HU.out, HV2.out⟩, ⟨Nat.le_refl _, by have hm := HM.out; have := HR.out; simp at hm; omega⟩⟩
              · have e3 : decide ((ptA parts ky).1 < 0) = false := decide_eq_false hs2
                by_cases hs3 : (ptA parts kx).1 = (ptA parts ky).1
                · have e4 : ((ptA parts kx).1 != (ptA parts ky).1) = false := bne_eq_false_iff_eq.2 hs3
                  have hu := step_sym H.out.u (by rw [HKX.out, HKY.out]; exact HKK.out) (by rw [HKX.out]; omega) (by rw [HKY.out]; omega) (by rw [HKX.out, HKY.out]; exact hs3)
                  have hr := (step_nr H.out.u (by rw [HKX.out, HKY.out]; exact HKK.out)).1
                  have hl := step_args H.out.u (by rw [HKX.out]; omega) (by rw [HKY.out]; omega) (by rw [HKX.out, HKY.out]; exact hs3)
                  rw [HKX.out, HKY.out] at hu hr hl
                  have HU := Aside0.mk hu
                  have HR := Aside0.mk hr
                  have HL := Aside0.mk hl
                  have HF2 := Aside0.mk (HF.out.link HKN.out.1 HKN.out.2 HID.out.1 HID.out.2 HKK.out)
                  have HV2 := Aside0.mk (pairs_far HF.out (by omega) HV.out kx (.int .i64 ky))
                  obtain ⟨tv, t0, t1⟩ := HF.out.freeAt HKN.out.1
                  have hne1 : bp ≠ ga := by omega
                  have hne2 : bq ≠ ga := by omega
                  have HI : Aside0 (InSt w (wc.setCell ⟨ga, kx, none⟩ (.int .i64 ky)) base g (.slice (some ⟨gq, 0, none⟩) n cq) ga n c parts (fun z => if R z = kx then ky else R z) (yt.set kx ky) (.slice (some ⟨gp, 0, none⟩) ps.length cp) ps bp bq (ptA parts kx).1 (ptA parts ky).1 (ptA parts kx).2 (ptA parts ky).2 Ax Ay cx cy) :=
                    ⟨HF2.out, HV2.out, (Below.heap_setCell wc ⟨ga, kx, none⟩ _ bp hne1).trans HB1.out, (Below.heap_setCell wc ⟨ga, kx, none⟩ _ bq hne2).trans HB2.out,
                     Kd.R_mono (Kd.R_far HPX.out (p := ⟨ga, kx, none⟩) (fun k hk e => hk (by rw [e]; rfl)) _) (fun k hk e => hk (by rw [e]; rfl)), Kd.R_mono (Kd.R_far HPY.out (p := ⟨ga, kx, none⟩) (fun k hk e => hk (by rw [e]; rfl)) _) (fun k hk e => hk (by rw [e]; rfl))⟩
                  have H6X := Aside0.mk (H6.out kx)
                  have H6Y := Aside0.mk (H6.out ky)
                  obtain ⟨j1, _⟩ := HI.out.boxes
                  have hbw : base ≤ w.heap.size := by have := HF.out.g.hb; have := hgl; omega
                  clear hu hr hl hs1 hs2 HF2 HV2 hne1 hne2
                  go_wp2_with fail
                  clear j1 b0 b1 b2 b3 t0 t1 c0 c1 e1 e2 e3 e4 hs3 HB1 HB2 HPX HPY HF HV HB d0 d1 d2 d3
                  have hplen : ps.length ≤ cp := by omega
                  generalize wc.setCell ⟨ga, kx, none⟩ (.int .i64 ky) = w6 at *
                  generalize (ptA parts kx).1 = sx at *
                  generalize (ptA parts ky).1 = sy at *
                  generalize (ptA parts kx).2 = ax at *
                  generalize (ptA parts ky).2 = ay at *
                  obtain ⟨wo, hwo⟩ : ∃ wo : World, wo = wr := ⟨_, rfl⟩
                  have HPS : Aside0 (ps.length ≤ 800000) := ⟨by have hm := HM.out; have := HN.out; simp at hm; omega⟩
                  go_loopg [7, 67] ax.length (fun m a i wi => ∃ k : Nat, i = .int .i64 k ∧ k ≤ ax.length ∧ Aside0 (m = ax.length - k) ∧ Aside0 (InSt w wi base g (.slice (some ⟨gq, 0, none⟩) n cq) ga n c parts (fun z => if R z = kx then ky else R z) (yt.set kx ky) a (ps ++ zipA ax ay k) bp bq sx sy ax ay Ax Ay cx cy))
                  case atStart => exact ⟨0, rfl, by omega, ⟨by omega⟩, ⟨by simpa [zipA] using HI.out⟩⟩
                  case round =>
                    clear HI
                    obtain ⟨k, rfl, hk, HMI, HI⟩ := hrel
                    obtain ⟨A', c', rfl⟩ := Kd.R_slice HI.out.v
                    by_cases hlt : k < ax.length
                    · have hlt2 : k < ay.length := by rw [← HL.out]; exact hlt
                      obtain ⟨j1, j2⟩ := HI.out.boxes
                      obtain ⟨dx, ex, hx⟩ := int_at (Kd.R_reads' HI.out.px).2.2 k hlt
                      obtain ⟨dy, ey, hy⟩ := int_at (Kd.R_reads' HI.out.py).2.2 k hlt2
                      cases ex
                      cases ey
                      go_wp2_with fail
                      have hp0 : 0 ≤ rd ax k := H6X.out.2 _ (rd_mem hlt)
                      have hq0 : 0 ≤ rd ay k := H6Y.out.2 _ (rd_mem hlt2)
                      have b0 : (0 : Int) ≤ (k : Int) := by omega
                      have b1 : (k : Int) < (ax.length : Int) := by omega
                      have b2 : (k : Int) < (ay.length : Int) := by omega
                      have hlp : (toPP (ps ++ zipA ax ay k)).length ≤ 900000 := by have := HPS.out; have := H6X.out.1; simp [toPP, zipA]; omega
                      have hws : w.heap.size ≤ wr.drew.heap.size := HI.out.f.k.1
                      have HLT := Aside0.mk (And.intro hlt hlt2)
                      clear hlt hlt2 hk
                      go_region_held3 (fun w' => w'.cell? ⟨bp, 1, none⟩ = some (.slice (some dx) ax.length cx) ∧ w'.cell? ⟨bq, 1, none⟩ = some (.slice (some dy) ay.length cy) ∧ w'.cell? (dx.add k) = some (.int .i64 (rd ax k)) ∧ w'.cell? (dy.add k) = some (.int .i64 (rd ay k))) (first | exact ⟨by assumption, by assumption, by assumption, by assumption⟩ | go_keep)
                        (first | (refine Kd.R_append_step (W := wr.drew) kpp (w0 := wr.drew) w.heap.size (by rfl) (.tmp 70) (.tmp 82) 158 157 (.agg #[.int .i64 0, .int .i64 0]) 16 (by rfl) Try.underlying158 info158 rfl (by decide) (by omega) (.slice A' (toPP (ps ++ zipA ax ay k)).length c') (toPP (ps ++ zipA ax ay k)) (rd ax k, rd ay k) [.int .i64 (rd ax k), .int .i64 (rd ay k)] (fun _ => True) (fun _ => False) (by rfl) (by rfl) (kpp_M _ _ _ _) (fun _ hk => hk.elim) (fun _ _ => trivial) HI.out.v (Below.refl _ _) hws (by omega) ?_; intro v3 w3 ho3 hb3 hg3 hat3; have HI3 := Aside0.mk ((HI.out.below (below_drew (Below.refl _ _))).app hbw hp0 hq0 ho3 hg3); obtain ⟨k1, k2⟩ := HI3.out.boxes; obtain ⟨_, ex3, hx3⟩ := int_at (Kd.R_reads' HI3.out.px).2.2 k HLT.out.1; cases ex3; obtain ⟨_, ey3, hy3⟩ := int_at (Kd.R_reads' HI3.out.py).2.2 k HLT.out.2; cases ey3; clear ho3 hb3 hg3 hat3))
                      go_wp2_with fail
                      go_roundg (ax.length - (k + 1))
                      case measure => have := HMI.out; have := HLT.out; omega
                      case rel => exact ⟨k + 1, by have h6 := H6X.out.1; have hl := HLT.out.1; rw [wrap_id (by omega) (by omega)]; simp, by have := HLT.out; omega, ⟨rfl⟩, ⟨by rw [zipA_succ, ← List.append_assoc]; exact HI3.out⟩⟩
                    · obtain rfl : k = ax.length := by omega
                      go_wp2_with fail
                      go_roundg (7 * nr (fun z => if R z = kx then ky else R z) parts.length + (ps ++ zipA ax ay ax.length).length)
                      case measure => have hm := HM.out; have := HR.out; have := H6X.out.1; simp [zipA] at hm ⊢; omega
                      case rel => exact ⟨_, _, _, ⟨HI.out.f, HU.out, HI.out.v⟩, ⟨Nat.le_refl _, by have hm := HM.out; have := HR.out; have := H6X.out.1; simp [zipA] at hm ⊢; omega⟩⟩
                · have e4 : ((ptA parts kx).1 != (ptA parts ky).1) = true := bne_iff_ne.2 hs3
                  have hu := step_clash H.out.u (by rw [HKX.out]; omega) (by rw [HKY.out]; omega) (by rw [HKX.out, HKY.out]; exact hs3)
                  have HU := Aside0.mk hu
                  clear hu hs1 hs2 hs3
                  go_wp2_with fail
                  go_ret
                  exact ⟨false, R, yt, rfl, HF.out, .inr ⟨rfl, HU.out⟩⟩
end Go.Proofs.Ytadjoaipmcbieaa
