/- graph.size and graph.lay. -/
import Derived.Test.YtadjoaipmcbieaaU4
import Derived.Test.YtadjoaipmcbieaaMM
import Derived.Maps.OwnOps
import Derived.Maps.OwnSet

/- graph.size: how long a part's term is. -/
namespace Go.Proofs.Ytadjoaipmcbieaa
open Go.RowKit Go.Proofs.YtadjoaipmcbieaaW.PrintWords Go.Proofs.YtadjoaipmcbieaaW.PrintLast Go.Proofs.YtadjoaipmcbieaaW.PrintMore A

/-- A store into a newer block changes nothing of the graph. -/
theorem FSt.far {w0 W : World} {base g : Nat} {vp : Value} {ga n c : Nat} {parts : List Pt} {R : Nat → Nat} {ys ys0 : List Int} (h : FSt w0 W base g vp ga n c parts R ys) (h0 : Gr w0 base g vp (.slice (some ⟨ga, 0, none⟩) n c) parts ys0)
    {p : Addr} (hp : w0.heap.size ≤ p.block) (u : Value) : FSt w0 (W.setCell p u) base g vp ga n c parts R ys := by
  have hk := h.k.setCell (p := p) (.inr hp) u
  have hga : ga < w0.heap.size := Kd.R_lt h0.t ga rfl
  refine ⟨⟨(Below.heap_setCell W p u g (by have := blk_lt h0.blk; omega)).trans h.g.blk, h.g.hb, Kd.R_kept h0.p hk (fun k ho e => ho (by rw [e]; rfl)), ?_⟩, h.len, h.root, h.b.setCell (by have := h0.hb; have := blk_lt h0.blk; omega) u, hk⟩
  exact Kd.R_mono (Kd.R_far (ok := fun k => k = ga) ⟨fun k hk => by simpa [Value.ownBlock] using hk.symm, h.g.t.2⟩ (fun k hk => by omega) u) (fun _ _ => trivial)

/-- Where counting stands: the graph, and what is known. -/
structure SzSt (w0 W : World) (base g : Nat) (vp : Value) (ga n c : Nat) (parts : List Pt) (R : Nat → Nat) (gk ck : Nat) (K : List Int) : Prop where
  f : ∃ ys, FSt w0 W base g vp ga n c parts R ys
  k : Kd.R (Kd.int .i64) 3 W w0.heap.size (fun _ => True) (.slice (some ⟨gk, 0, none⟩) n ck) K
section
variable {w0 W : World} {base g : Nat} {vp : Value} {ga n c : Nat} {parts : List Pt} {R : Nat → Nat} {gk ck : Nat} {K ys0 : List Int}
theorem SzSt.len (h : SzSt w0 W base g vp ga n c parts R gk ck K) : K.length = n := ((Kd.R_reads' h.k).1).symm
theorem SzSt.put (h : SzSt w0 W base g vp ga n c parts R gk ck K) (h0 : Gr w0 base g vp (.slice (some ⟨ga, 0, none⟩) n c) parts ys0) (i : Nat) (x : Int) : SzSt w0 (W.setCell ⟨gk, i, none⟩ (.int .i64 x)) base g vp ga n c parts R gk ck (K.set i x) := by
  obtain ⟨ys, hf⟩ := h.f
  exact ⟨⟨ys, hf.far h0 (p := ⟨gk, i, none⟩) (Kd.R_base h.k gk rfl) _⟩, (Kd.R_putg h.k (i : Int) x).1⟩
theorem SzSt.below {W' : World} (h : SzSt w0 W base g vp ga n c parts R gk ck K) (hb : Below W.heap.size W W') : SzSt w0 W' base g vp ga n c parts R gk ck K := by
  obtain ⟨ys, hf⟩ := h.f
  exact ⟨⟨ys, hf.below hb⟩, Kd.R_below h.k hb⟩
theorem SzSt.cell (h : SzSt w0 W base g vp ga n c parts R gk ck K) {i : Nat} (hi : i < n) {v : Int} (hv : rd K i = v) : W.cell? ⟨gk, i, none⟩ = some (.int .i64 v) ∧ W.frozen? ⟨gk, i, none⟩ = false := by
  obtain ⟨hx1, hf1⟩ := Kd.R_celln 0 h.k (i : Int) (by omega) (by omega)
  rw [Int.toNat_natCast] at hx1 hf1
  rw [show rdOf (0 : Int) K (i : Int) = v from hv] at hx1
  exact ⟨hx1, hf1⟩
theorem find_sz (h : SzSt w0 W base g vp ga n c parts R gk ck K) (h0 : Gr w0 base g vp (.slice (some ⟨ga, 0, none⟩) n c) parts ys0) {x : Nat} (hx : x < n) :
    Calls Try.prog 123 #[.pointer (some ⟨g, 0, none⟩), .int .i64 x] W fun e w' => e = .returned (.int .i64 (R x)) ∧ SzSt w0 w' base g vp ga n c parts R gk ck K := by
  obtain ⟨ys, hF⟩ := h.f
  have hga : ga < w0.heap.size := Kd.R_lt h0.t ga rfl
  refine (find_st base g ga n c vp parts R ys x W W ⟨hF.g, hF.len, hF.root, Below.refl _ _, Kept.refl _ _⟩ hx).mono ?_
  rintro e w' ⟨ys', he, hF'⟩
  refine ⟨he, ⟨ys', hF'.g, hF'.len, hF'.root, hF.b.trans hF'.b, hF.k.then_ hF'.k (fun k hk => .inl hk)⟩, ?_⟩
  have hgk := Kd.R_base h.k gk rfl
  exact Kd.R_mono (Kd.R_kept (ok := fun k => k = gk) ⟨fun k hk => by simpa [Value.ownBlock] using hk.symm, h.k.2⟩ hF'.k (fun k hk e => by omega)) (fun _ _ => trivial)
end
/-- Part x, as it stands in each later world. -/
structure PartAt (w0 : World) (base gq ga : Nat) (x : Nat) (p : Pt) (A : Option Addr) (c : Nat) : Prop where
  lt : gq < w0.heap.size
  ne : gq ≠ ga
  c0 : w0.cell? ⟨gq, x * 2, none⟩ = some (.int .i64 p.1)
  c1 : w0.cell? ⟨gq, x * 2 + 1, none⟩ = some (.slice A p.2.length c)
  r : Kd.R (Kd.int .i64) 3 w0 base (fun k => k ≠ ga) (.slice A p.2.length c) p.2
theorem Gr.partAt {w0 : World} {base g gq m cq ga n c : Nat} {parts : List Pt} {tos : List Int} (h : Gr w0 base g (.slice (some ⟨gq, 0, none⟩) m cq) (.slice (some ⟨ga, 0, none⟩) n c) parts tos) {x : Nat} (hx : x < m) : ∃ A c, PartAt w0 base gq ga x (ptA parts x) A c := by
  obtain ⟨A, c', h0, h1, hr⟩ := h.part hx
  refine ⟨A, c', Kd.R_lt h.p gq rfl, fun e => ?_, h0, h1, Kd.R_mono hr (fun k hk e => hk (by rw [e]; rfl))⟩
  exact h.p.1 gq rfl (by rw [e]; rfl)
theorem PartAt.now {w0 W : World} {base gq ga x : Nat} {p : Pt} {A : Option Addr} {c : Nat} (h : PartAt w0 base gq ga x p A c) (hk : Kept w0 W (fun k => k = ga)) :
    W.cell? ⟨gq, x * 2, none⟩ = some (.int .i64 p.1) ∧ W.cell? ⟨gq, x * 2 + 1, none⟩ = some (.slice A p.2.length c) ∧ Kd.C (Kd.int .i64) W A p.2.length p.2 :=
  ⟨cell_kept h.c0 hk h.ne, cell_kept h.c1 hk h.ne, (Kd.R_reads' (Kd.R_kept h.r hk (fun _ ho => ho))).2.2⟩

def szV (r : Option Int) : Value := .tuple #[.int .i64 (r.getD 0), .bool r.isSome]
/-- What is known stays small. -/
def Small (K : List Int) : Prop := ∀ i : Nat, -1 ≤ rd K i ∧ rd K i ≤ 2001
theorem Small.set {K : List Int} (h : Small K) (a : Nat) {v : Int} (h1 : -1 ≤ v) (h2 : v ≤ 2001) : Small (K.set a v) := by
  intro i
  by_cases ha : a < K.length
  · rw [rd_set _ _ _ _ ha]; split
    · exact ⟨h1, h2⟩
    · exact h i
  · rw [List.set_eq_of_length_le (by omega)]; exact h i
theorem szs_small {f : List Int → Nat → Option (List Int × Option Int)} (hf : ∀ K x K' r, Small K → f K x = some (K', r) → Small K' ∧ ∀ m, r = some m → 1 ≤ m ∧ m ≤ 2001) : ∀ (xs : List Nat) (K : List Int) (a : Int) (K' : List Int) (r : Option Int), Small K → 1 ≤ a → a ≤ 2001 →
    szs f K xs a = some (K', r) → Small K' ∧ ∀ m, r = some m → 1 ≤ m ∧ m ≤ 2001
  | [], K, a, K', r, hK, h1, h2, h => by
    simp only [szs, Option.some.injEq, Prod.mk.injEq] at h
    obtain ⟨rfl, rfl⟩ := h
    exact ⟨hK, fun m hm => by cases hm; exact ⟨h1, h2⟩⟩
  | x :: xs, K, a, K', r, hK, h1, h2, h => by
    simp only [szs] at h
    cases e : f K x with
    | none => rw [e] at h; simp at h
    | some q =>
      obtain ⟨K1, r1⟩ := q
      obtain ⟨k1, k2⟩ := hf K x K1 r1 hK e
      rw [e, Option.bind_some] at h
      cases r1 with
      | none => simp only [Option.some.injEq, Prod.mk.injEq] at h; obtain ⟨rfl, rfl⟩ := h; exact ⟨k1, fun m hm => by cases hm⟩
      | some m => have := k2 m rfl; exact szs_small hf xs K1 _ K' r k1 (by omega) (by omega) h
theorem sz_small (G : Net) (R : Nat → Nat) (rep : Nat → Int) : ∀ (k : Nat) (K : List Int) (x : Nat) (K' : List Int) (r : Option Int), Small K → sz G R rep k K x = some (K', r) → Small K' ∧ ∀ m, r = some m → 1 ≤ m ∧ m ≤ 2001
  | 0, _, _, _, _, _, h => by simp [sz] at h
  | k + 1, K, x, K', r, hK, h => by
    simp only [sz] at h
    split at h
    · simp only [Option.some.injEq, Prod.mk.injEq] at h; obtain ⟨rfl, rfl⟩ := h; exact ⟨hK, fun m hm => by cases hm⟩
    · split at h
      · simp only [Option.some.injEq, Prod.mk.injEq] at h; obtain ⟨rfl, rfl⟩ := h
        exact ⟨hK, fun m hm => by cases hm; have := hK (R x); omega⟩
      · split at h
        · simp only [Option.some.injEq, Prod.mk.injEq] at h; obtain ⟨rfl, rfl⟩ := h
          exact ⟨hK.set _ (by omega) (by omega), fun m hm => by cases hm; omega⟩
        · cases e : szs (sz G R rep k) (K.set (R x) (-1)) (G.args (rep (R x)).toNat) 1 with
          | none => rw [e] at h; simp at h
          | some q =>
            obtain ⟨K1, r1⟩ := q
            obtain ⟨k1, k2⟩ := szs_small (fun K x K' r => sz_small G R rep k K x K' r) _ _ _ _ _ (hK.set _ (by omega) (by omega)) (by omega) (by omega) e
            rw [e, Option.bind_some] at h
            cases r1 with
            | none => simp only [Option.some.injEq, Prod.mk.injEq] at h; obtain ⟨rfl, rfl⟩ := h; exact ⟨k1, fun m hm => by cases hm⟩
            | some m =>
              have := k2 m rfl
              simp only [Option.some.injEq, Prod.mk.injEq] at h; obtain ⟨rfl, rfl⟩ := h
              exact ⟨k1.set _ (by omega) (by omega), fun m hm => by cases hm; omega⟩

/-- What the graph is, all the while that terms are counted and told. -/
structure GrOk (w0 : World) (base g gq cq ga n c : Nat) (parts : List Pt) (R : Nat → Nat) : Prop where
  gr : ∃ ys, Gr w0 base g (.slice (some ⟨gq, 0, none⟩) n cq) (.slice (some ⟨ga, 0, none⟩) n c) parts ys
  pn : parts.length = n
  lt : ∀ x, x < n → R x < n
  arg : ∀ x, x < n → (ptA parts x).2.length ≤ 6 ∧ ∀ a ∈ (ptA parts x).2, 0 ≤ a ∧ a < n
  var : ∀ x, x < n → (ptA parts x).1 < 0 → (ptA parts x).2 = []
theorem sz_open {tm : Nat → List Int} {parts : List Pt} {R : Nat → Nat} {k : Nat} {K : List Int} {x : Nat} {K' : List Int} {r : Option Int} (hv : (ptA parts (R x)).1 < 0 → (ptA parts (R x)).2 = []) (h : sz (netP parts tm) R (repP parts) (k + 1) K x = some (K', r)) (h0 : rd K (R x) = 0) :
    ∃ K2 r2, szs (sz (netP parts tm) R (repP parts) k) (K.set (R x) (-1)) ((ptA parts (R x)).2.map Int.toNat) 1 = some (K2, r2) ∧ ((r2 = none ∧ K' = K2 ∧ r = none) ∨ ∃ m, r2 = some m ∧ K' = K2.set (R x) m ∧ r = some m) := by
  simp only [sz] at h
  rw [if_neg (by omega), if_neg (fun e => e h0)] at h
  by_cases hs : (ptA parts (R x)).1 < 0
  · rw [if_pos (by unfold repP; rw [if_pos hs]; omega)] at h
    simp only [Option.some.injEq, Prod.mk.injEq] at h
    obtain ⟨rfl, rfl⟩ := h
    rw [hv hs]
    exact ⟨_, _, rfl, .inr ⟨1, rfl, by rw [List.set_set], rfl⟩⟩
  · have hr : repP parts (R x) = R x := if_neg hs
    rw [hr, if_neg (by omega), Int.toNat_natCast] at h
    change (szs (sz (netP parts tm) R (repP parts) k) (K.set (R x) (-1)) ((ptA parts (R x)).2.map Int.toNat) 1).bind _ = _ at h
    cases e : szs (sz (netP parts tm) R (repP parts) k) (K.set (R x) (-1)) ((ptA parts (R x)).2.map Int.toNat) 1 with
    | none => rw [e] at h; simp at h
    | some q =>
      obtain ⟨K2, r2⟩ := q
      rw [e, Option.bind_some] at h
      cases r2 with
      | none => simp only [Option.some.injEq, Prod.mk.injEq] at h; exact ⟨_, _, rfl, .inl ⟨rfl, h.1.symm, h.2.symm⟩⟩
      | some m => simp only [Option.some.injEq, Prod.mk.injEq] at h; exact ⟨_, _, rfl, .inr ⟨m, rfl, h.1.symm, h.2.symm⟩⟩

set_option maxRecDepth 100000 in
set_option maxHeartbeats 4000000 in
theorem size_any (base g gq cq ga n c gk ck : Nat) (parts : List Pt) (tm : Nat → List Int) (R : Nat → Nat) (w0 : World) (hG : GrOk w0 base g gq cq ga n c parts R) : ∀ (k : Nat) (K : List Int) (x : Nat) (K' : List Int) (r : Option Int) (w : World),
    sz (netP parts tm) R (repP parts) k K x = some (K', r) → Small K → x < n → SzSt w0 w base g (.slice (some ⟨gq, 0, none⟩) n cq) ga n c parts R gk ck K →
    Calls Try.prog 114 #[.pointer (some ⟨g, 0, none⟩), .slice (some ⟨gk, 0, none⟩) n ck, .int .i64 x] w fun e w' => e = .returned (szV r) ∧ SzSt w0 w' base g (.slice (some ⟨gq, 0, none⟩) n cq) ga n c parts R gk ck K' := by
  have HG := Aside0.mk hG
  clear hG
  intro k
  induction k with
  | zero => intro K x K' r w h; simp [sz] at h
  | succ k ih =>
    intro K x K' r w h hK hx hS
    obtain ⟨ys0, G0⟩ := HG.out.gr
    have HG0 := Aside0.mk G0
    have HS := Aside0.mk hS
    have HZ := Aside0.mk h
    have HSM := Aside0.mk hK
    have IH := Aside0.mk ih
    clear G0 hS h hK ih
    have hlen := HS.out.len
    have HLEN := Aside0.mk hlen
    clear hlen
    obtain ⟨cx, hcx⟩ : ∃ cx, cx = R x := ⟨_, rfl⟩
    have hcl : cx < n := by rw [hcx]; exact HG.out.lt x hx
    go_enter Try.func114, Try.ntmps114
    go_wp2_with fail
    refine (find_sz HS.out HG0.out hx).mono ?_
    rintro e w1 ⟨rfl, hS1⟩
    rw [← hcx]
    have HS1 := Aside0.mk hS1
    have HCX := Aside0.mk hcx
    clear hS1 hcx
    by_cases e0 : rd K cx = -1
    · obtain ⟨d0, _⟩ := HS1.out.cell hcl e0
      have hz := HZ.out
      simp only [sz] at hz
      rw [← HCX.out, if_pos e0] at hz
      simp only [Option.some.injEq, Prod.mk.injEq] at hz
      obtain ⟨rfl, rfl⟩ := hz
      clear e0
      go_wp2_with fail
      go_ret2
      exact ⟨rfl, HS1.out⟩
    · by_cases e1 : rd K cx = 0
      · obtain ⟨d0, f0⟩ := HS1.out.cell hcl e1
        obtain ⟨K2, r2, hK2, hr2⟩ := sz_open (HG.out.var _ (HG.out.lt x hx)) HZ.out (by rw [← HCX.out]; exact e1)
        rw [← HCX.out] at hK2 hr2
        have HK2 := Aside0.mk hK2
        have HR2 := Aside0.mk hr2
        have HS2 := Aside0.mk (HS1.out.put HG0.out cx (-1))
        have HSM2 := Aside0.mk (HSM.out.set cx (v := -1) (by omega) (by omega))
        obtain ⟨Ax, ca, hPA⟩ := HG0.out.partAt hcl
        have HPA := Aside0.mk hPA
        obtain ⟨ys2, hF2⟩ := HS2.out.f
        have HF2 := Aside0.mk hF2
        obtain ⟨p0, p1, _⟩ := HPA.out.now HF2.out.k
        obtain ⟨g0, _⟩ := HF2.out.cells
        have i0 : (0 : Int) ≤ (cx : Int) := by omega
        have i1 : (cx : Int) < (n : Int) := by omega
        have HARG := Aside0.mk (HG.out.arg cx hcl)
        clear hK2 hr2 hPA hF2 e0 e1
        generalize ptA parts cx = pt at *
        obtain ⟨sy, ax⟩ := pt
        dsimp only at *
        go_wp2_with fail
        clear p0 p1 g0 d0 f0
        obtain ⟨w2, hw2⟩ : ∃ w2, w2 = w1.setCell ⟨gk, cx, none⟩ (.int .i64 (-1)) := ⟨_, rfl⟩
        rw [← hw2] at HS2 HF2
        rw [← hw2]
        clear hw2
        go_loopg [8, 44] ax.length (fun m a i wr => ∃ (j : Nat) (Ki : List Int) (ai : Int), i = .int .i64 j ∧ a = .int .i64 ai ∧ j ≤ ax.length ∧ 1 ≤ ai ∧ ai ≤ 2001 ∧ Aside0 (m = ax.length - j) ∧ Aside0 (szs (sz (netP parts tm) R (repP parts) k) Ki ((ax.drop j).map Int.toNat) ai = some (K2, r2)) ∧ Aside0 (Small Ki) ∧ Aside0 (SzSt w0 wr base g (.slice (some ⟨gq, 0, none⟩) n cq) ga n c parts R gk ck Ki))
        case atStart => exact ⟨0, _, 1, rfl, rfl, by omega, by omega, by omega, ⟨by omega⟩, ⟨by rw [List.drop_zero]; exact HK2.out⟩, HSM2, HS2⟩
        case round =>
          clear HK2 HSM2 HS2 HF2
          obtain ⟨j, Ki, ai, rfl, rfl, hj, ha1, ha2, HM, HK, HSM, HS⟩ := hrel
          by_cases hlt : j < ax.length
          · obtain ⟨y, hy⟩ : ∃ y : Nat, rd ax j = y := ⟨(rd ax j).toNat, by have := (HARG.out.2 _ (rd_mem hlt)).1; omega⟩
            have hyl : y < n := by have := (HARG.out.2 _ (rd_mem hlt)).2; omega
            obtain ⟨ysr, hFr⟩ := HS.out.f
            obtain ⟨_, _, hC⟩ := HPA.out.now hFr.k
            obtain ⟨ad, ex, hx1⟩ := int_at hC j hlt
            cases ex
            rw [hy] at hx1
            have hk := HK.out
            rw [drop_rd ax j hlt, List.map_cons, hy, Int.toNat_natCast] at hk
            simp only [szs] at hk
            cases hq : sz (netP parts tm) R (repP parts) k Ki y with
            | none => rw [hq] at hk; simp at hk
            | some q =>
              obtain ⟨K1, r1⟩ := q
              rw [hq, Option.bind_some] at hk
              have HQ := Aside0.mk hq
              have HKK := Aside0.mk hk
              have hb1 := (sz_small _ _ _ _ _ _ _ _ HSM.out hq)
              have HB1 := Aside0.mk hb1
              clear hq hk hFr hC hy hb1
              have b0 : (0 : Int) ≤ (j : Int) := by omega
              have hj6 : j < 6 := by have := HARG.out.1; omega
              cases r1 with
              | none =>
                go_wp2_with fail
                refine (IH.out Ki y K1 none _ HQ.out HSM.out hyl HS.out).mono ?_
                rintro e w3 ⟨rfl, hS3⟩
                have HS3 := Aside0.mk hS3
                clear hS3
                simp only [szV, Option.getD_none, Option.isSome_none]
                go_wp2_with fail
                go_ret2
                have := HKK.out
                simp only [Option.some.injEq, Prod.mk.injEq] at this
                obtain ⟨rfl, rfl⟩ := this
                rcases HR2.out with ⟨_, rfl, rfl⟩ | ⟨m, h1, _⟩
                · exact ⟨rfl, HS3.out⟩
                · cases h1
              | some m1 =>
                have hm := HB1.out.2 m1 rfl
                have hm1 := hm.1
                have hm2 := hm.2
                clear hm
                go_wp2_with fail
                refine (IH.out Ki y K1 (some m1) _ HQ.out HSM.out hyl HS.out).mono ?_
                rintro e w3 ⟨rfl, hS3⟩
                have HS3 := Aside0.mk hS3
                clear hS3
                simp only [szV, Option.getD_some, Option.isSome_some]
                go_wp2_with fail
                all_goals
                  go_roundg (ax.length - (j + 1))
                  case measure => have := HM.out; omega
                  case rel =>
                    refine ⟨j + 1, K1, _, by go_num, rfl, by omega, by omega, by omega, ⟨rfl⟩, ⟨?_⟩, ⟨HB1.out.1⟩, HS3⟩
                    have h : szs _ K1 _ (min (ai + m1) 2001) = some (K2, r2) := HKK.out
                    first | rwa [show min (ai + m1) 2001 = 2001 by omega] at h | rwa [show min (ai + m1) 2001 = ai + m1 by omega] at h
          · obtain rfl : j = ax.length := by omega
            have hk := HK.out
            rw [List.drop_length, List.map_nil] at hk
            simp only [szs, Option.some.injEq, Prod.mk.injEq] at hk
            obtain ⟨rfl, rfl⟩ := hk
            have hr := HR2.out
            rcases hr with ⟨h1, _⟩ | ⟨m, h1, rfl, rfl⟩
            · cases h1
            · cases h1
              obtain ⟨_, f0⟩ := HS.out.cell hcl (v := rd Ki cx) rfl
              obtain ⟨d0, _⟩ := HS.out.cell hcl (v := rd Ki cx) rfl
              have HS4 := Aside0.mk (HS.out.put HG0.out cx ai)
              go_wp2_with fail
              go_ret2
              exact ⟨rfl, HS4.out⟩
      · obtain ⟨v, hv⟩ : ∃ v, v = rd K cx := ⟨_, rfl⟩
        obtain ⟨d0, _⟩ := HS1.out.cell hcl hv.symm
        rw [← hv] at e0 e1
        have hz := HZ.out
        simp only [sz] at hz
        rw [← HCX.out, ← hv, if_neg e0, if_pos e1] at hz
        simp only [Option.some.injEq, Prod.mk.injEq] at hz
        obtain ⟨rfl, rfl⟩ := hz
        have e2 : (v == -1) = false := beq_eq_false_iff_ne.2 e0
        have e3 : (v != 0) = true := bne_iff_ne.2 e1
        clear e0 e1 hv
        go_wp2_with fail
        go_ret2
        exact ⟨rfl, HS1.out⟩
end Go.Proofs.Ytadjoaipmcbieaa

/- graph.lay: a part's term, laid behind others. -/
namespace Go.Proofs.Ytadjoaipmcbieaa
open Go.RowKit Go.Proofs.YtadjoaipmcbieaaW.PrintWords Go.Proofs.YtadjoaipmcbieaaW.PrintLast Go.Proofs.YtadjoaipmcbieaaW.PrintMore A
open Go.Maps

theorem keyed3 : Keyed Try.prog 3 := int_keyed Try.underlying3
/-- The number that a class has (0: none yet). -/
def posI (ns : List Int) (c : Nat) : Int := if (-(c : Int) - 1) ∈ ns then (ns.idxOf (-(c : Int) - 1) : Int) + 1 else 0
/-- The block m is a map that numbers these classes. -/
def NumM (w : World) (m : Nat) (ns : List Int) : Prop :=
  ∃ D : DataW Unit, w.ownsMap Try.prog 3 (plainElem Try.prog 3) m ns.length D ∧ Maps.size D = ns.length ∧ ∀ c : Nat, Maps.has D (.int .i64 c) = decide ((-(c : Int) - 1) ∈ ns) ∧ D.atKey (.int .i64 c) (.lit (.int .i64 0)) = .lit (.int .i64 (posI ns c))
theorem NumM.kept {w w' : World} {m : Nat} {ns : List Int} {row : Option Nat} (h : NumM w m ns) (hg : w.grownBy w' row) (hne : some m ≠ row) : NumM w' m ns := by
  obtain ⟨D, h1, h2⟩ := h
  exact ⟨D, h1.kept hg hne, h2⟩
theorem NumM.below {w w' : World} {m : Nat} {ns : List Int} (h : NumM w m ns) (hb : Below w.heap.size w w') : NumM w' m ns := h.kept (grown_of_below hb none) (by simp)
set_option maxRecDepth 100000 in
theorem small_wf {a : Nat} (h : a ≤ 1000000) : (Lit.int IntKind.i64 (a : Int)).wf = true := WalkArith.wf_i64 (by omega)
set_option maxRecDepth 100000 in
theorem NumM.look {w : World} {m : Nat} {ns : List Int} (h : NumM w m ns) {c : Nat} (hc : c ≤ 1000000) : (Instr.lookup 133 (.map (some m)) (.int .i64 c) false).run Try.prog w = .ok (.int .i64 (posI ns c)) w := by
  obtain ⟨D, h1, h2, h3⟩ := h
  obtain ⟨z, hrun, hat, _⟩ := h1.lookup_int keyed3 Try.underlying133 Try.underlying3 (zero3 w) (keyOf_int_mk Try.underlying3 (small_wf hc))
  rw [(h3 c).2] at hat
  rw [hrun]
  injection hat with hat
  injection hat with _ hat
  rw [hat]
theorem posI_out {ns : List Int} {c : Nat} (h : (-(c : Int) - 1) ∉ ns) : posI ns c = 0 := if_neg h
theorem posI_in {ns : List Int} {c : Nat} (h : (-(c : Int) - 1) ∈ ns) : posI ns c = (ns.idxOf (-(c : Int) - 1) : Int) + 1 := if_pos h
theorem NumM.put {ns : List Int} {D : DataW Unit} {c : Nat} (hT : Tidy D) (hc : (-(c : Int) - 1) ∉ ns) (h2 : Maps.size D = ns.length) (h3 : ∀ c : Nat, Maps.has D (.int .i64 c) = decide ((-(c : Int) - 1) ∈ ns) ∧ D.atKey (.int .i64 c) (.lit (.int .i64 0)) = .lit (.int .i64 (posI ns c))) :
    Maps.size (D.put (.int .i64 c) (.lit (.int .i64 ((ns.length : Int) + 1)))) = (ns ++ [-(c : Int) - 1]).length ∧ ∀ x : Nat, Maps.has (D.put (.int .i64 c) (.lit (.int .i64 ((ns.length : Int) + 1)))) (.int .i64 x) = decide ((-(x : Int) - 1) ∈ ns ++ [-(c : Int) - 1]) ∧
      (D.put (.int .i64 c) (.lit (.int .i64 ((ns.length : Int) + 1)))).atKey (.int .i64 x) (.lit (.int .i64 0)) = .lit (.int .i64 (posI (ns ++ [-(c : Int) - 1]) x)) := by
  have hk : WideAt.IsKeyLit (Lit.int IntKind.i64 (c : Int)) := trivial
  refine ⟨?_, fun x => ?_⟩
  · rw [size_put hT, (h3 c).1, if_neg (by simpa using hc), h2]; simp
  · by_cases e : x = c
    · subst e
      refine ⟨by rw [has_put_same hT.isMap hk]; simp, ?_⟩
      rw [atKey_put_same hT.isMap hk, posI_in (by simp), List.idxOf_append, if_neg hc]
      simp
    · have hne : (Lit.int IntKind.i64 (x : Int)) ≠ Lit.int IntKind.i64 (c : Int) := by intro h; injection h with _ h; omega
      have hiff : (-(x : Int) - 1) ∈ ns ++ [-(c : Int) - 1] ↔ (-(x : Int) - 1) ∈ ns := by
        rw [List.mem_append, List.mem_singleton]
        exact ⟨fun h => h.elim id (fun h => by omega), .inl⟩
      refine ⟨by rw [has_put_other hne, (h3 x).1]; simp only [hiff], ?_⟩
      rw [atKey_put_other hne, (h3 x).2]
      congr 2
      unfold posI
      by_cases hx : (-(x : Int) - 1) ∈ ns
      · rw [if_pos hx, if_pos (hiff.2 hx), List.idxOf_append, if_pos hx]
      · rw [if_neg hx, if_neg (fun h => hx (hiff.1 h))]
theorem rn_one (ns : List Int) (c : Nat) : (rn ns [-(c : Int) - 1], rns ns [-(c : Int) - 1]) = if (-(c : Int) - 1) ∈ ns then ([-(posI ns c)], ns) else ([-((ns.length : Int) + 1)], ns ++ [-(c : Int) - 1]) := by
  have hneg : ¬ (0 ≤ -(c : Int) - 1) := by omega
  simp only [rn, rns, if_neg hneg]
  by_cases h : (-(c : Int) - 1) ∈ ns
  · rw [if_pos h, if_pos h, if_pos h, posI_in h, show (-(ns.idxOf (-(c : Int) - 1) : Int) - 1) = -((ns.idxOf (-(c : Int) - 1) : Int) + 1) by omega]
  · rw [if_neg h, if_neg h, if_neg h, show (-(ns.length : Int) - 1) = -((ns.length : Int) + 1) by omega]

theorem lys_len {f : List Int → Nat → List Int → Option (List Int × List Int)} (hf : ∀ o x ns o' ns', f o x ns = some (o', ns') → o.length < o'.length ∧ ns'.length + o.length ≤ ns.length + o'.length) : ∀ (xs : List Nat) (o ns o' ns' : List Int), lys f o xs ns = some (o', ns') → o.length ≤ o'.length ∧ ns'.length + o.length ≤ ns.length + o'.length
  | [], o, ns, o', ns', h => by simp only [lys, Option.some.injEq, Prod.mk.injEq] at h; obtain ⟨rfl, rfl⟩ := h; omega
  | x :: xs, o, ns, o', ns', h => by
    simp only [lys] at h
    cases e : f o x ns with
    | none => rw [e] at h; simp at h
    | some q =>
      rw [e, Option.bind_some] at h
      have h1 := hf _ _ _ _ _ e
      have h2 := lys_len hf xs _ _ _ _ h
      omega
theorem ly_len (G : Net) (R : Nat → Nat) (rep : Nat → Int) : ∀ (k : Nat) (o : List Int) (x : Nat) (ns o' ns' : List Int), ly G R rep k o x ns = some (o', ns') → o.length < o'.length ∧ ns'.length + o.length ≤ ns.length + o'.length
  | 0, _, _, _, _, _, h => by simp [ly] at h
  | k + 1, o, x, ns, o', ns', h => by
    simp only [ly] at h
    split at h
    · have e := rn_one ns (R x)
      simp only [Option.some.injEq, Prod.mk.injEq] at h
      obtain ⟨rfl, rfl⟩ := h
      rw [List.length_append, rn_length]
      have e2 := congrArg Prod.snd e
      simp only at e2
      rw [e2]
      split
      · simp
      · simp; omega
    · have := lys_len (fun o x ns o' ns' => ly_len G R rep k o x ns o' ns') _ _ _ _ _ h
      simp only [List.length_append, List.length_singleton] at this
      omega
theorem FSt.grownNew {w0 W W' : World} {base g : Nat} {vp : Value} {ga n c : Nat} {parts : List Pt} {R : Nat → Nat} {ys ys0 : List Int} (h : FSt w0 W base g vp ga n c parts R ys) (h0 : Gr w0 base g vp (.slice (some ⟨ga, 0, none⟩) n c) parts ys0)
    {row : Option Nat} (hg : W.grownBy W' row) (hr : ∀ k, row = some k → w0.heap.size ≤ k) : FSt w0 W' base g vp ga n c parts R ys := by
  have hk := Kept.of_grown hg h.k (fun k e => .inr (hr k e))
  have hga : ga < w0.heap.size := Kd.R_lt h0.t ga rfl
  have hgb : base ≤ w0.heap.size := by have := h0.hb; have := blk_lt h0.blk; omega
  refine ⟨⟨blk_grown h.g.blk hg (fun e => by have := hr g e.symm; have := blk_lt h0.blk; omega), h.g.hb, Kd.R_kept h0.p hk (fun k ho e => ho (by rw [e]; rfl)), ?_⟩, h.len, h.root, pw_below_grown h.b _ (Nat.le_trans hgb h.k.1) hg (fun k e => Nat.le_trans hgb (hr k e)), hk⟩
  exact Kd.R_mono (Kd.R_grown (ok := fun k => k = ga) ⟨fun k hk => by simpa [Value.ownBlock] using hk.symm, h.g.t.2⟩ hg (fun k hk e => by have := hr k e.symm; omega)) (fun _ _ => trivial)

/-- Where telling stands: the graph, what is told, the classes' numbers. -/
structure LySt (w0 W : World) (base g : Nat) (vp : Value) (ga n c : Nat) (parts : List Pt) (R : Nat → Nat) (v : Value) (out : List Int) (m : Nat) (ns : List Int) : Prop where
  f : ∃ ys, FSt w0 W base g vp ga n c parts R ys
  o : Kd.R (Kd.int .i64) 3 W w0.heap.size (fun _ => True) v out
  nm : NumM W m ns
  mb : w0.heap.size ≤ m
section
variable {w0 W : World} {base g : Nat} {vp : Value} {ga n c : Nat} {parts : List Pt} {R : Nat → Nat} {v : Value} {out : List Int} {m : Nat} {ns ys0 : List Int}
theorem LySt.below {W' : World} (h : LySt w0 W base g vp ga n c parts R v out m ns) (hb : Below W.heap.size W W') : LySt w0 W' base g vp ga n c parts R v out m ns := by
  obtain ⟨ys, hf⟩ := h.f
  exact ⟨⟨ys, hf.below hb⟩, Kd.R_below h.o hb, h.nm.below hb, h.mb⟩
theorem find_ly (h : LySt w0 W base g vp ga n c parts R v out m ns) (h0 : Gr w0 base g vp (.slice (some ⟨ga, 0, none⟩) n c) parts ys0) {x : Nat} (hx : x < n) :
    Calls Try.prog 123 #[.pointer (some ⟨g, 0, none⟩), .int .i64 x] W fun e w' => e = .returned (.int .i64 (R x)) ∧ LySt w0 w' base g vp ga n c parts R v out m ns := by
  obtain ⟨ys, hF⟩ := h.f
  have hga : ga < w0.heap.size := Kd.R_lt h0.t ga rfl
  refine (find_st base g ga n c vp parts R ys x W W ⟨hF.g, hF.len, hF.root, Below.refl _ _, Kept.refl _ _⟩ hx).mono ?_
  rintro e w' ⟨ys', he, hF'⟩
  have hg : W.grownBy w' (some ga) := ⟨hF'.b.os, hF'.b.tape, hF'.b.output, hF'.k.1, fun i hi hne => hF'.k.2 i hi (fun e => hne (by rw [e]))⟩
  refine ⟨he, ⟨ys', hF'.g, hF'.len, hF'.root, hF.b.trans hF'.b, hF.k.then_ hF'.k (fun k hk => .inl hk)⟩, ?_, h.nm.kept hg (fun e => by injection e with e; have := h.mb; omega), h.mb⟩
  have hb := Kd.R_base h.o
  exact Kd.R_mono (Kd.R_kept (ok := fun k => w0.heap.size ≤ k) ⟨hb, h.o.2⟩ hF'.k (fun k hk e => by omega)) (fun _ _ => trivial)
theorem LySt.app {W' : World} {v' : Value} {out' : List Int} (h : LySt w0 W base g vp ga n c parts R v out m ns) (h0 : Gr w0 base g vp (.slice (some ⟨ga, 0, none⟩) n c) parts ys0) (ho : Kd.R (Kd.int .i64) 3 W' w0.heap.size (fun _ => True) v' out') (hg : W.grownBy W' v.ownBlock) : LySt w0 W' base g vp ga n c parts R v' out' m ns := by
  obtain ⟨ys, hf⟩ := h.f
  refine ⟨⟨ys, hf.grownNew h0 hg (Kd.R_base h.o)⟩, ho, h.nm.kept hg ?_, h.mb⟩
  obtain ⟨D, ⟨es, clock, hb, _⟩, _⟩ := h.nm
  intro e
  obtain ⟨cells, hc⟩ := Kd.R_typed h.o m e.symm
  rw [hc] at hb; cases hb
theorem LySt.num {W' : World} {ns' : List Int} (h : LySt w0 W base g vp ga n c parts R v out m ns) (h0 : Gr w0 base g vp (.slice (some ⟨ga, 0, none⟩) n c) parts ys0) (hm : NumM W' m ns') (hg : W.grownBy W' (some m)) : LySt w0 W' base g vp ga n c parts R v out m ns' := by
  obtain ⟨ys, hf⟩ := h.f
  obtain ⟨D, ⟨es, clock, hb, _⟩, _⟩ := h.nm
  exact ⟨⟨ys, hf.grownNew h0 hg (fun k e => by injection e with e; subst e; exact h.mb)⟩, Kd.R_mono (Kd.R_grown (R_ne_map h.o hb) hg (fun k hk e => hk.2 (by injection e))) (fun _ _ => trivial), hm, h.mb⟩
end

set_option maxRecDepth 100000 in
set_option maxHeartbeats 4000000 in
theorem lay_any (base g gq cq ga n c m : Nat) (parts : List Pt) (tm : Nat → List Int) (R : Nat → Nat) (w0 : World) (hG : GrOk w0 base g gq cq ga n c parts R) (hn : n ≤ 100000) : ∀ (k : Nat) (out : List Int) (x : Nat) (ns out' ns' : List Int) (v : Value) (w : World),
    ly (netP parts tm) R (repP parts) k out x ns = some (out', ns') → x < n → out'.length ≤ 100000 → ns.length ≤ out.length → LySt w0 w base g (.slice (some ⟨gq, 0, none⟩) n cq) ga n c parts R v out m ns →
    Calls Try.prog 106 #[.pointer (some ⟨g, 0, none⟩), v, .int .i64 x, .map (some m)] w fun e w' => ∃ v', e = .returned v' ∧ LySt w0 w' base g (.slice (some ⟨gq, 0, none⟩) n cq) ga n c parts R v' out' m ns' := by
  have HG := Aside0.mk hG
  clear hG
  intro k
  induction k with
  | zero => intro out x ns out' ns' v w h; simp [ly] at h
  | succ k ih =>
    intro out x ns out' ns' v w h hx hol hnl hS
    obtain ⟨ys0, G0⟩ := HG.out.gr
    have HG0 := Aside0.mk G0
    have HS := Aside0.mk hS
    have hlen := (ly_len _ _ _ _ _ _ _ _ _ h).1
    have HZ := Aside0.mk h
    have IH := Aside0.mk ih
    obtain ⟨cx, hcx⟩ : ∃ cx, cx = R x := ⟨_, rfl⟩
    have hcl : cx < n := by rw [hcx]; exact HG.out.lt x hx
    obtain ⟨A, cv, hvv⟩ := Kd.R_slice hS.o
    subst hvv
    clear G0 hS h ih
    go_enter Try.func106, Try.ntmps106
    go_wp2_with fail
    refine (find_ly HS.out HG0.out hx).mono ?_
    rintro e w1 ⟨rfl, hS1⟩
    rw [← hcx]
    have HS1 := Aside0.mk hS1
    have HCX := Aside0.mk hcx
    obtain ⟨Ax, ca, hPA⟩ := HG0.out.partAt hcl
    have HPA := Aside0.mk hPA
    obtain ⟨ys1, hF1⟩ := hS1.f
    have HF1 := Aside0.mk hF1
    obtain ⟨p0, p1, _⟩ := HPA.out.now HF1.out.k
    obtain ⟨g0, _⟩ := HF1.out.cells
    have i0 : (0 : Int) ≤ (cx : Int) := by omega
    have i1 : (cx : Int) < (n : Int) := by omega
    have HARG := Aside0.mk (HG.out.arg cx hcl)
    have hz : (if (ptA parts cx).1 < 0 then some (out ++ rn ns [-(cx : Int) - 1], rns ns [-(cx : Int) - 1]) else lys (ly (netP parts tm) R (repP parts) k) (out ++ [(ptA parts cx).1]) ((ptA parts cx).2.map Int.toNat) ns) = some (out', ns') := by
      have hz := HZ.out
      simp only [ly] at hz
      rw [← HCX.out] at hz
      by_cases hs : (ptA parts cx).1 < 0
      · rw [if_pos (by unfold repP; rw [if_pos hs]; omega)] at hz
        rw [if_pos hs]; exact hz
      · have hr : repP parts cx = cx := if_neg hs
        rw [hr, if_neg (by omega), Int.toNat_natCast] at hz
        rw [if_neg hs]; exact hz
    have HZZ := Aside0.mk hz
    clear hz hS1 hcx hPA hF1
    generalize ptA parts cx = pt at *
    obtain ⟨sy, ax⟩ := pt
    dsimp only at *
    have HS2 := Aside0.mk (HS1.out.below (below_alloc (Below.refl _ _) (.cells #[.int .i64 sy, .slice Ax ax.length ca] 155)))
    have hws : w0.heap.size ≤ (w1.alloc (.cells #[.int .i64 sy, .slice Ax ax.length ca] 155)).heap.size := by have := HF1.out.k.1; simp; omega
    have HB2 := Aside0.mk (heap_alloc_new w1 (.cells #[.int .i64 sy, .slice Ax ax.length ca] 155))
    go_upto_region 3 with fail
    clear p0 p1 g0
    obtain ⟨w2, hw2⟩ : ∃ w2, w2 = w1.alloc (.cells #[.int .i64 sy, .slice Ax ax.length ca] 155) := ⟨_, rfl⟩
    rw [← hw2] at HS2 hws HB2 ⊢
    clear hw2
    generalize w1.heap.size = bx at *
    have q0 : w2.cell? ⟨bx, 0, none⟩ = some (.int .i64 sy) := cell_of_row w2 bx 0 _ _ _ HB2.out
    have q1 : w2.cell? ⟨bx, 1, none⟩ = some (.slice Ax ax.length ca) := cell_of_row w2 bx 1 _ _ _ HB2.out
    have HNL : Aside0 (ns.length ≤ 100000 ∧ out.length ≤ 100000) := ⟨by omega, by omega⟩
    by_cases hs : sy < 0
    · have e0 : decide (sy < 0) = true := decide_eq_true hs
      have hz := HZZ.out
      rw [if_pos hs] at hz
      have hr := rn_one ns cx
      by_cases hin : (-(cx : Int) - 1) ∈ ns
      · rw [if_pos hin] at hr
        simp only [Prod.mk.injEq] at hr
        rw [hr.1, hr.2] at hz
        simp only [Option.some.injEq, Prod.mk.injEq] at hz
        obtain ⟨rfl, rfl⟩ := hz
        have hlk := HS2.out.nm.look (c := cx) (by omega)
        obtain ⟨pv, hpv⟩ : ∃ pv, pv = posI ns cx := ⟨_, rfl⟩
        have hp1 : 1 ≤ pv := by rw [hpv, posI_in hin]; omega
        have hp2 : pv ≤ 200000 := by rw [hpv, posI_in hin]; have := List.idxOf_le_length (a := -(cx : Int) - 1) (l := ns); omega
        rw [← hpv] at hlk
        have HPV := Aside0.mk hpv
        have e1 : (pv == 0) = false := beq_eq_false_iff_ne.2 (by omega)
        clear hr hs hin hpv
        go_wp2_with (at_builtin; refine Kd.R_append (Kd.int .i64) (w0 := w2) w0.heap.size rfl (.tmp 34) (.tmp 39) 25 3 (.int .i64 0) 8 rfl Try.underlying25 info3 rfl (by decide) (by omega) (.slice A out.length cv) out (-pv) [.int .i64 (-pv)] (fun _ => True) (fun _ => False) rfl rfl rfl (fun _ hk => hk.elim) (fun _ _ => trivial) HS2.out.o (Below.refl _ _) hws (by have := HNL.out; omega) ?_; intro v3 w3 ho3 hb3 hg3 hat3; have HS3 := Aside0.mk (HS2.out.app HG0.out ho3 hg3); clear ho3 hb3 hg3 hat3)
        go_ret
        exact ⟨v3, rfl, by rw [← HPV.out]; exact HS3.out⟩
      · rw [if_neg hin] at hr
        simp only [Prod.mk.injEq] at hr
        rw [hr.1, hr.2] at hz
        simp only [Option.some.injEq, Prod.mk.injEq] at hz
        obtain ⟨rfl, rfl⟩ := hz
        have hlk := HS2.out.nm.look (c := cx) (by omega)
        rw [posI_out hin] at hlk
        obtain ⟨D, ho, h2, h3⟩ := HS2.out.nm
        have HD := Aside0.mk (And.intro h2 h3)
        have HT := Aside0.mk (ho.tidy keyed3)
        have HIN := Aside0.mk hin
        have HO := Aside0.mk ho
        have hnl2 := HNL.out.1
        clear hr hs hin h2 h3 ho
        go_wp2_with (first | (at_len; refine wpList_len_own _ rfl (.tmp 31) 133 rfl 3 3 Try.underlying133 (plainElem Try.prog 3) m ns.length D rfl HO.out ?_; rw [HD.out.1]) | (at_mapUpdate; refine wpList_mapUpdate_own _ rfl (.tmp 29) (.tmp 30) (.tmp 33) 133 rfl 3 3 keyed3 Try.underlying133 (plainElem Try.prog 3) m ns.length D rfl HO.out (by have := HNL.out; unfold maxLen; omega) (.int .i64 cx) (.int .i64 ((ns.length : Int) + 1)) (.int .i64 cx) rfl rfl (keyOf_int_mk Try.underlying3 (small_wf (by omega))) (.lit (.int .i64 ((ns.length : Int) + 1))) [] (plainElem_int Try.underlying3 (small_wf (a := ns.length + 1) (by omega))) ?_; intro w3 ho3 hg3; have HN3 : Aside0 (NumM w3 m (ns ++ [-(cx : Int) - 1])) := ⟨⟨_, by simpa using ho3, NumM.put HT.out HIN.out HD.out.1 HD.out.2⟩⟩; have hlk3 := HN3.out.look (c := cx) (by omega); rw [show posI (ns ++ [-(cx : Int) - 1]) cx = (ns.length : Int) + 1 from (by have hni := HIN.out; rw [posI_in (by simp), List.idxOf_append, if_neg hni]; simp)] at hlk3; have HS3 := Aside0.mk (HS2.out.num HG0.out HN3.out hg3); have hw3 : w0.heap.size ≤ w3.heap.size := Nat.le_trans hws hg3.size; clear ho3 hg3 hlk) | (at_builtin; refine Kd.R_append (Kd.int .i64) (w0 := w3) w0.heap.size rfl (.tmp 34) (.tmp 39) 25 3 (.int .i64 0) 8 rfl Try.underlying25 info3 rfl (by decide) (by omega) (.slice A out.length cv) out (-((ns.length : Int) + 1)) [.int .i64 (-((ns.length : Int) + 1))] (fun _ => True) (fun _ => False) rfl rfl rfl (fun _ hk => hk.elim) (fun _ _ => trivial) HS3.out.o (Below.refl _ _) hw3 (by have := HNL.out; omega) ?_; intro v4 w4 ho4 hb4 hg4 hat4; have HS4 := Aside0.mk (HS3.out.app HG0.out ho4 hg4); clear ho4 hb4 hg4 hat4))
        go_ret
        exact ⟨v4, rfl, HS4.out⟩
    · have e0 : decide (sy < 0) = false := decide_eq_false hs
      have hz := HZZ.out
      rw [if_neg hs] at hz
      have HZ2 := Aside0.mk hz
      clear hz hs
      go_wp2_with (at_builtin; refine Kd.R_append (Kd.int .i64) (w0 := w2) w0.heap.size rfl (.tmp 41) (.tmp 44) 25 3 (.int .i64 0) 8 rfl Try.underlying25 info3 rfl (by decide) (by omega) (.slice A out.length cv) out sy [.int .i64 sy] (fun _ => True) (fun _ => False) rfl rfl rfl (fun _ hk => hk.elim) (fun _ _ => trivial) HS2.out.o (Below.refl _ _) hws (by have := HNL.out; omega) ?_; intro v3 w3 ho3 hb3 hg3 hat3; have HS3 := Aside0.mk (HS2.out.app HG0.out ho3 hg3); have HB3 := Aside0.mk (blk_grown HB2.out hg3 (Kd.R_ne HS2.out.o HB2.out (by decide))); have q3 : w3.cell? ⟨bx, 1, none⟩ = some (.slice Ax ax.length ca) := cell_of_row w3 bx 1 _ _ _ HB3.out; clear ho3 hb3 hg3 hat3)
      clear q0 q1 q3
      go_loopg [1, 49] ax.length (fun r a i wr => ∃ (j : Nat) (oj nj : List Int), i = .int .i64 j ∧ j ≤ ax.length ∧ Aside0 (r = ax.length - j) ∧ Aside0 (nj.length ≤ oj.length) ∧ Aside0 (lys (ly (netP parts tm) R (repP parts) k) oj ((ax.drop j).map Int.toNat) nj = some (out', ns')) ∧ Aside0 (LySt w0 wr base g (.slice (some ⟨gq, 0, none⟩) n cq) ga n c parts R a oj m nj))
      case atStart => exact ⟨0, _, ns, rfl, by omega, ⟨by omega⟩, ⟨by simp; omega⟩, ⟨by rw [List.drop_zero]; exact HZ2.out⟩, HS3⟩
      case round =>
        clear HZ2 HS3 HZZ
        obtain ⟨j, oj, nj, rfl, hj, HM, HL, HK, HS⟩ := hrel
        obtain ⟨A', c', e⟩ := Kd.R_slice HS.out.o
        subst e
        by_cases hlt : j < ax.length
        · obtain ⟨y, hy⟩ : ∃ y : Nat, rd ax j = y := ⟨(rd ax j).toNat, by have := (HARG.out.2 _ (rd_mem hlt)).1; omega⟩
          have hyl : y < n := by have := (HARG.out.2 _ (rd_mem hlt)).2; omega
          obtain ⟨ysr, hFr⟩ := HS.out.f
          obtain ⟨_, _, hC⟩ := HPA.out.now hFr.k
          obtain ⟨ad, ex, hx1⟩ := int_at hC j hlt
          cases ex
          rw [hy] at hx1
          have hk := HK.out
          rw [drop_rd ax j hlt, List.map_cons, hy, Int.toNat_natCast] at hk
          simp only [lys] at hk
          cases hq : ly (netP parts tm) R (repP parts) k oj y nj with
          | none => rw [hq] at hk; simp at hk
          | some q =>
            obtain ⟨o1, n1⟩ := q
            rw [hq, Option.bind_some] at hk
            have HQ := Aside0.mk hq
            have HKK := Aside0.mk hk
            have hl1 := lys_len (fun o x ns o' ns' => ly_len (netP parts tm) R (repP parts) k o x ns o' ns') _ _ _ _ _ hk
            have hl2 := ly_len _ _ _ _ _ _ _ _ _ hq
            have HLN : Aside0 (o1.length ≤ 100000 ∧ n1.length ≤ o1.length) := ⟨by have := hl1.1; dsimp only at this; omega, by have := hl2.2; have := HL.out; omega⟩
            clear hq hk hFr hC hy hl1 hl2
            have hj6 : j < 6 := by have := HARG.out.1; omega
            go_wp2_with fail
            refine (IH.out oj y nj o1 n1 _ _ HQ.out hyl HLN.out.1 HL.out HS.out).mono ?_
            rintro e w4 ⟨v4, rfl, hS4⟩
            have HS4 := Aside0.mk hS4
            clear hS4
            go_wp2_with fail
            go_roundg (ax.length - (j + 1))
            case measure => have := HM.out; omega
            case rel => exact ⟨j + 1, o1, n1, by go_num, by omega, ⟨rfl⟩, ⟨HLN.out.2⟩, ⟨HKK.out⟩, HS4⟩
        · obtain rfl : j = ax.length := by omega
          have hk := HK.out
          rw [List.drop_length, List.map_nil] at hk
          simp only [lys, Option.some.injEq, Prod.mk.injEq] at hk
          obtain ⟨rfl, rfl⟩ := hk
          go_wp2_with fail
          go_ret
          exact ⟨_, rfl, HS.out⟩
end Go.Proofs.Ytadjoaipmcbieaa
