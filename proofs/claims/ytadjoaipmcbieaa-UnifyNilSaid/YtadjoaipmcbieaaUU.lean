/- The graph of unify in memory; roots; graph.find; one round of joining, plain. -/
import Derived.Test.YtadjoaipmcbieaaC1
import Derived.Test.YtadjoaipmcbieaaXA
import Derived.StillTailTactics
import Derived.Deep.LoopGhost

/- The graph of unify, as it stands in memory. -/
namespace Go.Proofs.Ytadjoaipmcbieaa
open Go.RowKit Go.Proofs.YtadjoaipmcbieaaW.PrintWords Go.Proofs.YtadjoaipmcbieaaW.PrintLast Go.Proofs.YtadjoaipmcbieaaW.PrintMore A

/-- A part: its symbol, its arguments' parts. -/
abbrev Pt := Int × List Int
def kpt : Kd Pt := Kd.pair (Kd.int .i64) (Kd.slice 3 (Kd.int .i64))
/-- The graph at g: parts (none of whose blocks is that of to), and of each what it has become one with. -/
structure Gr (w : World) (base g : Nat) (vp vt : Value) (parts : List Pt) (tos : List Int) : Prop where
  blk : w.heap[g]? = some (.cells #[vp, vt] 143 (0, 0))
  hb : base ≤ g
  p : Kd.R kpt 155 w base (fun k => some k ≠ vt.ownBlock) vp parts
  t : Kd.R (Kd.int .i64) 3 w base (fun _ => True) vt tos
theorem Gr.below {w w' : World} {base g : Nat} {vp vt : Value} {parts : List Pt} {tos : List Int} (h : Gr w base g vp vt parts tos) (hb : Below w.heap.size w w') : Gr w' base g vp vt parts tos :=
  ⟨(hb.block g (blk_lt h.blk)).trans h.blk, h.hb, Kd.R_below h.p hb, Kd.R_below h.t hb⟩
theorem Gr.ne {w : World} {base g : Nat} {vp vt : Value} {parts : List Pt} {tos : List Int} (h : Gr w base g vp vt parts tos) : some g ≠ vt.ownBlock := Kd.R_ne h.t h.blk (by decide)
theorem Gr.nep {w : World} {base g : Nat} {vp vt : Value} {parts : List Pt} {tos : List Int} (h : Gr w base g vp vt parts tos) : some g ≠ vp.ownBlock := Kd.R_ne h.p h.blk (by decide)
/-- A number is stored in to. -/
theorem Gr.put {w : World} {base g ga n c : Nat} {vp : Value} {parts : List Pt} {tos : List Int} (h : Gr w base g vp (.slice (some ⟨ga, 0, none⟩) n c) parts tos) (i : Int) (x : Int) :
    Gr (w.setCell ⟨ga, i.toNat, none⟩ (.int .i64 x)) base g vp (.slice (some ⟨ga, 0, none⟩) n c) parts (tos.set i.toNat x) := by
  have hne : g ≠ ga := fun e => h.ne (by rw [e]; rfl)
  exact ⟨(Below.heap_setCell w ⟨ga, i.toNat, none⟩ _ g hne).trans h.blk, h.hb, Kd.R_far h.p (p := ⟨ga, i.toNat, none⟩) (fun k hk e => hk (by rw [e]; rfl)) _, (Kd.R_putg h.t i x).1⟩
end Go.Proofs.Ytadjoaipmcbieaa

/- PLAIN: which part a part has become one with; halving a path changes no root. -/
namespace Go.Proofs.Ytadjoaipmcbieaa
open Go.Proofs.YtadjoaipmcbieaaW.PrintWords

/-- x leads to the root r in n steps. -/
inductive Root (f : Nat → Nat) : Nat → Nat → Nat → Prop
  | here {r : Nat} (h : f r = r) : Root f 0 r r
  | step {n x r : Nat} (hne : f x ≠ x) (h : Root f n (f x) r) : Root f (n + 1) x r
theorem Root.fix {f : Nat → Nat} {n x r : Nat} (h : Root f n x r) : f r = r := by
  induction h with
  | here h => exact h
  | step _ _ ih => exact ih
theorem Root.det {f : Nat → Nat} {n m x r s : Nat} (h : Root f n x r) (h' : Root f m x s) : n = m ∧ r = s := by
  induction h generalizing m s with
  | here h => cases h' with
    | here _ => exact ⟨rfl, rfl⟩
    | step hne _ => exact absurd h hne
  | step hne _ ih => cases h' with
    | here h => exact absurd h hne
    | step _ h' => obtain ⟨e, e'⟩ := ih h'; exact ⟨by omega, e'⟩
/-- The grandparent in the parent's place: each part keeps its root. -/
theorem Root.halve {f q : Nat → Nat} {x : Nat} (q1 : q x = f (f x)) (q2 : ∀ z, z ≠ x → q z = f z) : ∀ {m y s : Nat}, Root f m y s → ∃ k, k ≤ m ∧ Root q k y s := by
  intro m
  induction m using Nat.strongRecOn with
  | _ m ih =>
    intro y s h
    cases h with
    | here h =>
      refine ⟨0, Nat.le_refl _, .here ?_⟩
      by_cases e : y = x
      · subst e; rw [q1, h, h]
      · rw [q2 _ e, h]
    | @step m _ _ hne h =>
      by_cases e : y = x
      · subst e
        cases h with
        | here h2 =>
          refine ⟨1, by omega, .step (by rw [q1, h2]; exact hne) ?_⟩
          rw [q1, h2]
          exact .here (by rw [q2 _ hne, h2])
        | @step m' _ _ hne2 h2 =>
          obtain ⟨k, hk, hR⟩ := ih m' (by omega) h2
          by_cases e2 : f (f y) = y
          · exfalso
            have h3 : Root f m' y s := by rw [e2] at h2; exact h2
            have := (Root.det (Root.step hne (Root.step hne2 h2)) h3).1
            omega
          · exact ⟨k + 1, by omega, .step (by rw [q1]; exact e2) (by rw [q1]; exact hR)⟩
      · obtain ⟨k, hk, hR⟩ := ih m (by omega) h
        exact ⟨k + 1, by omega, .step (by rw [q2 _ e]; exact hne) (by rw [q2 _ e]; exact hR)⟩

theorem Root.end_ {f : Nat → Nat} {n x r : Nat} (h : Root f n x r) : Root f 0 r r := .here h.fix
/-- A root is linked to another one. -/
theorem Root.link {f q : Nat → Nat} {c1 c2 : Nat} (h1 : f c1 = c1) (h2 : f c2 = c2) (hne : c1 ≠ c2) (q1 : q c1 = c2) (q2 : ∀ z, z ≠ c1 → q z = f z) : ∀ {n x r : Nat}, Root f n x r → ∃ m, Root q m x (if r = c1 then c2 else r) := by
  intro n x r h
  have hq2 : q c2 = c2 := by rw [q2 _ (Ne.symm hne), h2]
  induction h with
  | @here r h =>
    by_cases e : r = c1
    · subst e
      rw [if_pos rfl]
      exact ⟨1, .step (by rw [q1]; exact Ne.symm hne) (by rw [q1]; exact .here hq2)⟩
    · rw [if_neg e]; exact ⟨0, .here (by rw [q2 _ e, h])⟩
  | @step n x r hx _ ih =>
    obtain ⟨m, hm⟩ := ih
    have e : x ≠ c1 := fun e => hx (by rw [e, h1])
    exact ⟨m + 1, .step (by rw [q2 _ e]; exact hx) (by rw [q2 _ e]; exact hm)⟩

/-- What a part has become one with, by its number. -/
def toF (xs : List Int) (x : Nat) : Nat := (rd xs x).toNat
/-- Each part leads to its root. -/
def RootOk (xs : List Int) (R : Nat → Nat) : Prop := ∀ x, x < xs.length → 0 ≤ rd xs x ∧ rd xs x < xs.length ∧ ∃ n, Root (toF xs) n x (R x)
theorem toF_set {xs : List Int} {a : Nat} (ha : a < xs.length) (v : Nat) (z : Nat) : toF (xs.set a v) z = if a = z then v else toF xs z := by
  unfold toF; rw [rd_set _ _ _ _ ha]; split <;> simp
theorem RootOk.fix {xs : List Int} {R : Nat → Nat} (h : RootOk xs R) {x : Nat} (hx : x < xs.length) : toF xs (R x) = R x := by
  obtain ⟨_, _, n, hr⟩ := h x hx; exact hr.fix
theorem RootOk.lt {xs : List Int} {R : Nat → Nat} (h : RootOk xs R) {x : Nat} (hx : x < xs.length) : R x < xs.length := by
  have key : ∀ {n x r : Nat}, Root (toF xs) n x r → x < xs.length → r < xs.length := by
    intro n x r hr
    induction hr with
    | here _ => exact fun hx => hx
    | step _ _ ih => exact fun hx => ih (by have := h _ hx; unfold toF; omega)
  obtain ⟨_, _, n, hr⟩ := h x hx
  exact key hr hx
/-- R is decided by the list. -/
theorem RootOk.eq {xs : List Int} {R : Nat → Nat} (h : RootOk xs R) {x n r : Nat} (hx : x < xs.length) (hr : Root (toF xs) n x r) : R x = r := by
  obtain ⟨_, _, m, h2⟩ := h x hx; exact (h2.det hr).2
theorem RootOk.idem {xs : List Int} {R : Nat → Nat} (h : RootOk xs R) {x : Nat} (hx : x < xs.length) : R (R x) = R x :=
  h.eq (h.lt hx) (.here (h.fix hx))
theorem RootOk.halve {xs : List Int} {R : Nat → Nat} (h : RootOk xs R) {x : Nat} (hx : x < xs.length) {v : Nat} (hv : v = toF xs (toF xs x)) : RootOk (xs.set x v) R := by
  have hl : ∀ z, z < xs.length → toF xs z < xs.length := fun z hz => by have := h z hz; unfold toF; omega
  intro z hz
  rw [List.length_set] at hz ⊢
  have h1 := h z hz
  obtain ⟨m, hm⟩ := h1.2.2
  obtain ⟨k, _, hk⟩ := Root.halve (q := toF (xs.set x v)) (x := x) (by rw [toF_set hx, if_pos rfl, hv]) (fun y hy => by rw [toF_set hx, if_neg (Ne.symm hy)]) hm
  refine ⟨?_, ?_, k, hk⟩
  · rw [rd_set _ _ _ _ hx]; split <;> omega
  · rw [rd_set _ _ _ _ hx]; split
    · have := hl _ (hl x hx); omega
    · exact h1.2.1
theorem RootOk.link {xs : List Int} {R : Nat → Nat} (h : RootOk xs R) {c1 c2 : Nat} (l1 : c1 < xs.length) (l2 : c2 < xs.length) (e1 : R c1 = c1) (e2 : R c2 = c2) (hne : c1 ≠ c2) : RootOk (xs.set c1 c2) (fun z => if R z = c1 then c2 else R z) := by
  have f1 : toF xs c1 = c1 := by have := h.fix l1; rwa [e1] at this
  have f2 : toF xs c2 = c2 := by have := h.fix l2; rwa [e2] at this
  intro z hz
  rw [List.length_set] at hz ⊢
  have h1 := h z hz
  obtain ⟨m, hm⟩ := h1.2.2
  refine ⟨?_, ?_, Root.link (q := toF (xs.set c1 c2)) f1 f2 hne (by rw [toF_set l1, if_pos rfl]) (fun y hy => by rw [toF_set l1, if_neg (Ne.symm hy)]) hm⟩
  · rw [rd_set _ _ _ _ l1]; split <;> omega
  · rw [rd_set _ _ _ _ l1]; split <;> omega
end Go.Proofs.Ytadjoaipmcbieaa

/- PLAIN: one round of joining two parts. -/
namespace Go.Proofs.Ytadjoaipmcbieaa
open Go.Proofs.YtadjoaipmcbieaaW.PrintWords

/-- Part x. -/
def ptA (parts : List Pt) (x : Nat) : Pt := parts.getD x (0, [])
/-- Parts as a net. -/
def netP (parts : List Pt) (tm : Nat → List Int) : Net := ⟨parts.length, fun x => (ptA parts x).1, fun x => (ptA parts x).2.map Int.toNat, tm⟩
def repP (parts : List Pt) (c : Nat) : Int := if (ptA parts c).1 < 0 then -1 else c
def zipA (a c : List Int) (k : Nat) : List (Nat × Nat) := (List.range k).map fun j : Nat => ((rd a (j : Int)).toNat, (rd c (j : Int)).toNat)
theorem zipA_succ (a c : List Int) (k : Nat) : zipA a c (k + 1) = zipA a c k ++ [((rd a k).toNat, (rd c k).toNat)] := by simp [zipA, List.range_succ]
theorem map_getD (a : List Int) (j : Nat) : (a.map Int.toNat).getD j 0 = (rd a j).toNat := by
  simp only [rd, Int.toNat_natCast, List.getD_eq_getElem?_getD, List.getElem?_map]
  cases a[j]? <;> rfl

section
variable {b : Int → Nat} {parts : List Pt} {tm : Nat → List Int} {ra rb x y : Nat} {R : Nat → Nat} {ps : List (Nat × Nat)}
theorem snoc_in {ps : List (Nat × Nat)} {p q : Nat × Nat} (h : p ∈ ps ++ [q]) : p ∈ ps ∨ p = q := by simpa using h
theorem step_same (h : Uni b (netP parts tm) ra rb R (repP parts) (ps ++ [(x, y)])) (e : R x = R y) : Uni b (netP parts tm) ra rb R (repP parts) ps :=
  h.drop (fun p hp => (snoc_in hp).elim .inl (fun h => .inr (by rw [h]; exact e))) (fun _ hp => List.mem_append_left _ hp)
theorem step_lt (h : Uni b (netP parts tm) ra rb R (repP parts) (ps ++ [(x, y)])) : x < parts.length ∧ y < parts.length := h.pr (x, y) (by simp)
theorem step_var1 (h : Uni b (netP parts tm) ra rb R (repP parts) (ps ++ [(x, y)])) (hne : R x ≠ R y) (hv : (ptA parts (R x)).1 < 0) :
    Uni b (netP parts tm) ra rb (fun z => if R z = R x then R y else R z) (repP parts) ps := by
  have hr : repP parts (R x) = -1 := if_pos hv
  refine h.merge (x := x) (y := y) (c1 := R x) (c2 := R y) (by simp) (.inl ⟨rfl, rfl⟩) hne (fun _ _ => rfl) (fun _ _ _ => rfl) ?_ (fun h1 => by omega) (fun p hp => snoc_in hp) (fun p hp => .inl (by simp [hp]))
  by_cases e : 0 ≤ repP parts (R y)
  · exact .inl ⟨rfl, e⟩
  · refine .inr ⟨by omega, ?_⟩
    rw [hr]; unfold repP at e ⊢; split <;> simp_all
theorem step_var2 (h : Uni b (netP parts tm) ra rb R (repP parts) (ps ++ [(x, y)])) (hne : R x ≠ R y) (hv : (ptA parts (R y)).1 < 0) :
    Uni b (netP parts tm) ra rb (fun z => if R z = R y then R x else R z) (repP parts) ps := by
  have hr : repP parts (R y) = -1 := if_pos hv
  refine h.merge (x := x) (y := y) (c1 := R y) (c2 := R x) (by simp) (.inr ⟨rfl, rfl⟩) (Ne.symm hne) (fun _ _ => rfl) (fun _ _ _ => rfl) ?_ (fun h1 => by omega) (fun p hp => snoc_in hp) (fun p hp => .inl (by simp [hp]))
  by_cases e : 0 ≤ repP parts (R x)
  · exact .inl ⟨rfl, e⟩
  · refine .inr ⟨by omega, ?_⟩
    rw [hr]; unfold repP at e ⊢; split <;> simp_all
theorem repP_pos {c : Nat} (h : 0 ≤ (ptA parts c).1) : repP parts c = c := if_neg (by omega)
theorem step_clash (h : Uni b (netP parts tm) ra rb R (repP parts) (ps ++ [(x, y)])) (h1 : 0 ≤ (ptA parts (R x)).1) (h2 : 0 ≤ (ptA parts (R y)).1) (hne : (ptA parts (R x)).1 ≠ (ptA parts (R y)).1) :
    ∀ s, Gd b s → sb s (tm ra) ≠ sb s (tm rb) := by
  refine h.clash (x := x) (y := y) (by simp) (by rw [repP_pos h1]; omega) (by rw [repP_pos h2]; omega) ?_
  rw [repP_pos h1, repP_pos h2, Int.toNat_natCast, Int.toNat_natCast]
  exact hne
theorem step_args (h : Uni b (netP parts tm) ra rb R (repP parts) (ps ++ [(x, y)])) (h1 : 0 ≤ (ptA parts (R x)).1) (h2 : 0 ≤ (ptA parts (R y)).1) (he : (ptA parts (R x)).1 = (ptA parts (R y)).1) :
    (ptA parts (R x)).2.length = (ptA parts (R y)).2.length := by
  obtain ⟨lx, ly⟩ := step_lt h
  have e1 : ((ptA parts (R x)).2.map Int.toNat).length = b (ptA parts (R x)).1 := (h.ok.arg _ (h.lt _ lx) h1).1
  have e2 : ((ptA parts (R y)).2.map Int.toNat).length = b (ptA parts (R y)).1 := (h.ok.arg _ (h.lt _ ly) h2).1
  rw [List.length_map] at e1 e2
  rw [e1, e2, he]
theorem step_sym (h : Uni b (netP parts tm) ra rb R (repP parts) (ps ++ [(x, y)])) (hne : R x ≠ R y) (h1 : 0 ≤ (ptA parts (R x)).1) (h2 : 0 ≤ (ptA parts (R y)).1) (he : (ptA parts (R x)).1 = (ptA parts (R y)).1) :
    Uni b (netP parts tm) ra rb (fun z => if R z = R x then R y else R z) (repP parts) (ps ++ zipA (ptA parts (R x)).2 (ptA parts (R y)).2 (ptA parts (R x)).2.length) := by
  have r1 := repP_pos h1
  have r2 := repP_pos h2
  refine h.merge (x := x) (y := y) (c1 := R x) (c2 := R y) (by simp) (.inl ⟨rfl, rfl⟩) hne (fun _ _ => rfl) (fun _ _ _ => rfl) (.inl ⟨rfl, by rw [r2]; omega⟩) (fun _ _ => ?_) (fun p hp => (snoc_in hp).imp (fun h => List.mem_append_left _ h) id) (fun p hp => ?_)
  · rw [r1, r2, Int.toNat_natCast, Int.toNat_natCast]
    refine ⟨he, fun i hi => .inl (List.mem_append_right _ ?_)⟩
    have hi' : i < (ptA parts (R x)).2.length := by simpa [netP] using hi
    refine List.mem_map.2 ⟨i, List.mem_range.2 hi', ?_⟩
    simp only [netP]; rw [map_getD, map_getD]
  · rcases List.mem_append.1 hp with hp | hp
    · exact .inl (by simp [hp])
    · obtain ⟨i, hi, rfl⟩ := List.mem_map.1 hp
      rw [r1, r2, Int.toNat_natCast, Int.toNat_natCast]
      refine .inr ⟨by omega, by omega, i, by simpa [netP] using hi, .inl ?_⟩
      simp only [netP]; rw [map_getD, map_getD]
theorem step_nr (h : Uni b (netP parts tm) ra rb R (repP parts) (ps ++ [(x, y)])) (hne : R x ≠ R y) : nr (fun z => if R z = R x then R y else R z) parts.length < nr R parts.length ∧ nr (fun z => if R z = R y then R x else R z) parts.length < nr R parts.length := by
  obtain ⟨lx, ly⟩ := step_lt h
  exact ⟨nr_merge (h.lt _ lx) (h.idem _ lx) (h.idem _ ly) hne (fun _ _ => rfl), nr_merge (h.lt _ ly) (h.idem _ ly) (h.idem _ lx) (Ne.symm hne) (fun _ _ => rfl)⟩
end
end Go.Proofs.Ytadjoaipmcbieaa

/- graph.find: the part that a part has become one with. -/
namespace Go.Proofs.Ytadjoaipmcbieaa
open Go.RowKit Go.Proofs.YtadjoaipmcbieaaW.PrintWords Go.Proofs.YtadjoaipmcbieaaW.PrintLast Go.Proofs.YtadjoaipmcbieaaW.PrintMore A

/-- Where finding stands: the graph is as it was but for to, in which each part still leads to its root. -/
structure FSt (w0 W : World) (base g : Nat) (vp : Value) (ga n c : Nat) (parts : List Pt) (R : Nat → Nat) (ys : List Int) : Prop where
  g : Gr W base g vp (.slice (some ⟨ga, 0, none⟩) n c) parts ys
  len : ys.length = n
  root : RootOk ys R
  b : Below base w0 W
  k : Kept w0 W (fun k => k = ga)
theorem FSt.put {w0 W : World} {base g : Nat} {vp : Value} {ga n c : Nat} {parts : List Pt} {R : Nat → Nat} {ys : List Int} (h : FSt w0 W base g vp ga n c parts R ys) {z v : Nat} (hz : z < n) (hv : v = toF ys (toF ys z)) :
    FSt w0 (W.setCell ⟨ga, z, none⟩ (.int .i64 v)) base g vp ga n c parts R (ys.set z v) := by
  have hgb : base ≤ ga := Kd.R_base h.g.t ga rfl
  exact ⟨h.g.put (z : Int) v, by rw [List.length_set]; exact h.len, h.root.halve (by rw [h.len]; exact hz) hv, h.b.setCell (p := ⟨ga, z, none⟩) hgb _, h.k.setCell (p := ⟨ga, z, none⟩) (.inl rfl) _⟩
theorem FSt.below {w0 W W' : World} {base g : Nat} {vp : Value} {ga n c : Nat} {parts : List Pt} {R : Nat → Nat} {ys : List Int} (h : FSt w0 W base g vp ga n c parts R ys) (hb : Below W.heap.size W W') : FSt w0 W' base g vp ga n c parts R ys :=
  ⟨h.g.below hb, h.len, h.root, h.b.trans (hb.mono (by have := blk_lt h.g.blk; have := h.g.hb; omega)), h.k.below hb⟩
theorem FSt.cells {w0 W : World} {base g : Nat} {vp : Value} {ga n c : Nat} {parts : List Pt} {R : Nat → Nat} {ys : List Int} (h : FSt w0 W base g vp ga n c parts R ys) :
    W.cell? ⟨g, 0, none⟩ = some vp ∧ W.cell? ⟨g, 1, none⟩ = some (.slice (some ⟨ga, 0, none⟩) n c) := by
  have c0 := cell_of_row W g 0 _ _ _ h.g.blk
  have c1 := cell_of_row W g 1 _ _ _ h.g.blk
  exact ⟨c0, c1⟩
theorem FSt.cell {w0 W : World} {base g : Nat} {vp : Value} {ga n c : Nat} {parts : List Pt} {R : Nat → Nat} {ys : List Int} (h : FSt w0 W base g vp ga n c parts R ys) {z y : Nat} (hz : z < n) (hy : y = toF ys z) :
    W.cell? ⟨ga, z, none⟩ = some (.int .i64 y) ∧ W.frozen? ⟨ga, z, none⟩ = false := by
  obtain ⟨hx1, hf1⟩ := Kd.R_celln 0 h.g.t (z : Int) (by omega) (by omega)
  rw [Int.toNat_natCast] at hx1 hf1
  have hok := (h.root z (by rw [h.len]; exact hz)).1
  have e : rdOf (0 : Int) ys (z : Int) = y := by
    have h1 : rd ys z = (y : Int) := by rw [hy]; unfold toF; omega
    exact h1
  rw [e] at hx1
  exact ⟨hx1, hf1⟩

set_option maxRecDepth 100000 in
set_option maxHeartbeats 1000000 in
theorem find_st (base g ga n c : Nat) (vp : Value) (parts : List Pt) (R : Nat → Nat) (xs : List Int) (x : Nat) (w0 w : World) (h : FSt w0 w base g vp ga n c parts R xs) (hx : x < n) :
    Calls Try.prog 123 #[.pointer (some ⟨g, 0, none⟩), .int .i64 x] w fun e w' => ∃ ys, e = .returned (.int .i64 (R x)) ∧ FSt w0 w' base g vp ga n c parts R ys := by
  have HF0 := Aside0.mk h
  obtain ⟨n0, hroot⟩ := (h.root x (by rw [h.len]; exact hx)).2.2
  have HR0 := Aside0.mk hroot
  clear h hroot
  generalize hr : R x = r at *
  clear hr
  go_enter Try.func123, Try.ntmps123
  go_wp2_with fail
  go_loopg [1] n0 (fun m a wr => ∃ (z : Nat) (ys : List Int), a = .int .i64 z ∧ z < n ∧ Aside0 (∃ k, k ≤ m ∧ Root (toF ys) k z r) ∧ Aside0 (FSt w0 wr base g vp ga n c parts R ys))
  case atStart => exact ⟨x, xs, rfl, hx, ⟨n0, Nat.le_refl _, HR0.out⟩, HF0⟩
  case round =>
    clear HF0 HR0
    obtain ⟨z, ys, rfl, hz, HRT, HF⟩ := hrel
    obtain ⟨k, hk, HR⟩ := HRT.out
    have HR := Aside0.mk HR
    clear HRT
    obtain ⟨c0, c1⟩ := HF.out.cells
    by_cases hr : toF ys z = z
    · obtain ⟨d1, _⟩ := HF.out.cell hz (y := z) hr.symm
      obtain rfl : r = z := ((Root.det HR.out (.here hr)).2)
      clear hr
      go_wp2_with fail
      go_ret
      exact ⟨ys, rfl, HF.out⟩
    · obtain ⟨y, hy⟩ : ∃ y, y = toF ys z := ⟨_, rfl⟩
      obtain ⟨v, hv⟩ : ∃ v, v = toF ys (toF ys z) := ⟨_, rfl⟩
      have hyl : y < n := by have := (HF.out.root z (by rw [HF.out.len]; exact hz)).2.1; rw [HF.out.len] at this; rw [hy]; unfold toF; omega
      obtain ⟨d1, f1⟩ := HF.out.cell hz hy
      obtain ⟨d2, _⟩ := HF.out.cell hyl (y := v) (by rw [hv, ← hy])
      have e1 : ((y : Int) != (z : Int)) = true := bne_iff_ne.2 (by omega)
      have HF2 := Aside0.mk (HF.out.put hz hv)
      obtain ⟨j0, j1⟩ := HF2.out.cells
      have hval : toF (ys.set z v) z = v := by rw [toF_set (by rw [HF.out.len]; exact hz), if_pos rfl]
      obtain ⟨j2, _⟩ := HF2.out.cell hz hval.symm
      have HM : Aside0 (∃ k', k' + 1 ≤ k ∧ Root (toF (ys.set z v)) k' v r) := by
        cases HR.out with
        | here h => exact absurd h hr
        | @step m _ _ hne h2 =>
          have hq : ∀ {m' y' s' : Nat}, Root (toF ys) m' y' s' → ∃ k, k ≤ m' ∧ Root (toF (ys.set z v)) k y' s' := Root.halve (q := toF (ys.set z v)) (x := z) (by rw [hval, hv]) (fun u hu => by rw [toF_set (by rw [HF.out.len]; exact hz), if_neg (Ne.symm hu)])
          cases h2 with
          | here h3 => 
            obtain ⟨k', hk', hR'⟩ := hq (Root.here h3)
            exact ⟨k', by omega, Eq.mpr (congrArg (fun q => Root (toF (ys.set z v)) k' q _) (hv.trans h3)) hR'⟩
          | step _ h3 =>
            obtain ⟨k', hk', hR'⟩ := hq h3
            exact ⟨k', by omega, Eq.mpr (congrArg (fun q => Root (toF (ys.set z v)) k' q _) hv) hR'⟩
      have hvl : v < n := by have := (HF.out.root y (by rw [HF.out.len]; exact hyl)).2.1; rw [HF.out.len] at this; rw [hv, ← hy]; unfold toF; omega
      clear hr hy hv hval HR HF
      go_wp2_with fail
      go_still_tail 19, (by kernel_rfl)
      change wpList _ _ _ _ _ wr.drew
      replace d1 : wr.drew.cell? ⟨ga, z, none⟩ = some (.int .i64 y) := d1
      replace f1 : wr.drew.frozen? ⟨ga, z, none⟩ = false := f1
      clear d2 c0 c1
      go_wp2_with fail
      obtain ⟨k', hk', HR'⟩ := HM.out
      go_roundg k'
      case measure => omega
      case rel => exact ⟨v, _, rfl, hvl, ⟨k', Nat.le_refl _, HR'⟩, ⟨HF2.out.below (below_drew (Below.refl _ _))⟩⟩
end Go.Proofs.Ytadjoaipmcbieaa
