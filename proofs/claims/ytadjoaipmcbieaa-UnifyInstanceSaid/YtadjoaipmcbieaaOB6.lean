/- The texts UV, Y4, Y5, UW, U8, Y6, Y7, joined by wip/slim.py: what the claim's theorem needs of them. (Those named W.. and G.. were printed by the kit's print.py for this seat.) -/
import Derived.Test.YtadjoaipmcbieaaOB5
import Derived.Maps.OwnOps
import Derived.Maps.OwnSet

/-! UV -/
namespace Go.Proofs.Ytadjoaipmcbieaa
open Go.RowKit Go.Proofs.YtadjoaipmcbieaaW.PrintWords Go.Proofs.YtadjoaipmcbieaaW.PrintLast Go.Proofs.YtadjoaipmcbieaaW.PrintMore A
/-- A store into a newer block changes nothing of the graph. -/
theorem FSt.far {w0 W : World} {base g : Nat} {vp : Value} {ga n c : Nat} {parts : List Pt} {R : Nat → Nat} {ys ys0 : List Int} (h : FSt w0 W base g vp ga n c parts R ys) (h0 : Gr w0 base g vp (.slice (some ⟨ga, 0, none⟩) n c) parts ys0)
    {p : Addr} (hp : w0.heap.size ≤ p.block) (u : Value) : FSt w0 (W.setCell p u) base g vp ga n c parts R ys := by
  have hk := h.k.setCell (p := p) (.inr hp) u
  have hga : ga < w0.heap.size := Kd.R_lt h0.t ga rfl
  refine ⟨⟨(Below.heap_setCell W p u g (by have := blk_lt h0.blk; omega)).trans h.g.blk, h.g.hb, Kd.R_kept h0.p hk (fun k ho e => ho (by rw [e]; rfl)), ?_⟩, h.len, h.root, h.b.setCell (by have := h0.hb; have := blk_lt h0.blk; omega) u, hk⟩
  exact Kd.R_mono (Kd.R_far (ok := fun k => k = ga) ⟨fun k hk => by simpa [Value.ownBlock] using hk.symm, h.g.t.2⟩ (fun k hk => by omega) u) (fun _ _ => trivial)
/-- Where counting stands: the graph, and what is known. -/
structure SzSt (w0 W : World) (base g : Nat) (vp : Value) (ga n c : Nat) (parts : List Pt) (R : Nat → Nat) (gk ck : Nat) (K : List Int) : Prop where
  f : ∃ ys, FSt w0 W base g vp ga n c parts R ys
  k : Kd.R (Kd.int .i64) 3 W w0.heap.size (fun _ => True) (.slice (some ⟨gk, 0, none⟩) n ck) K
section
variable {w0 W : World} {base g : Nat} {vp : Value} {ga n c : Nat} {parts : List Pt} {R : Nat → Nat} {gk ck : Nat} {K ys0 : List Int}
theorem SzSt.len (h : SzSt w0 W base g vp ga n c parts R gk ck K) : K.length = n := ((Kd.R_reads' h.k).1).symm
theorem SzSt.put (h : SzSt w0 W base g vp ga n c parts R gk ck K) (h0 : Gr w0 base g vp (.slice (some ⟨ga, 0, none⟩) n c) parts ys0) (i : Nat) (x : Int) : SzSt w0 (W.setCell ⟨gk, i, none⟩ (.int .i64 x)) base g vp ga n c parts R gk ck (K.set i x) := by
  obtain ⟨ys, hf⟩ := h.f
  exact ⟨⟨ys, hf.far h0 (p := ⟨gk, i, none⟩) (Kd.R_base h.k gk rfl) _⟩, (Kd.R_putg h.k (i : Int) x).1⟩
theorem SzSt.cell (h : SzSt w0 W base g vp ga n c parts R gk ck K) {i : Nat} (hi : i < n) {v : Int} (hv : rd K i = v) : W.cell? ⟨gk, i, none⟩ = some (.int .i64 v) ∧ W.frozen? ⟨gk, i, none⟩ = false := by
  obtain ⟨hx1, hf1⟩ := Kd.R_celln 0 h.k (i : Int) (by omega) (by omega)
  rw [Int.toNat_natCast] at hx1 hf1
  rw [show rdOf (0 : Int) K (i : Int) = v from hv] at hx1
  exact ⟨hx1, hf1⟩
theorem find_sz (h : SzSt w0 W base g vp ga n c parts R gk ck K) (h0 : Gr w0 base g vp (.slice (some ⟨ga, 0, none⟩) n c) parts ys0) {x : Nat} (hx : x < n) :
    Calls Try.prog 123 #[.pointer (some ⟨g, 0, none⟩), .int .i64 x] W fun e w' => e = .returned (.int .i64 (R x)) ∧ SzSt w0 w' base g vp ga n c parts R gk ck K := by
  obtain ⟨ys, hF⟩ := h.f
  have hga : ga < w0.heap.size := Kd.R_lt h0.t ga rfl
  refine (find_st base g ga n c vp parts R ys x W W ⟨hF.g, hF.len, hF.root, Below.refl _ _, Kept.refl _ _⟩ hx).mono ?_
  rintro e w' ⟨ys', he, hF'⟩
  refine ⟨he, ⟨ys', hF'.g, hF'.len, hF'.root, hF.b.trans hF'.b, hF.k.then_ hF'.k (fun k hk => .inl hk)⟩, ?_⟩
  have hgk := Kd.R_base h.k gk rfl
  exact Kd.R_mono (Kd.R_kept (ok := fun k => k = gk) ⟨fun k hk => by simpa [Value.ownBlock] using hk.symm, h.k.2⟩ hF'.k (fun k hk e => by omega)) (fun _ _ => trivial)
end
/-- Part x, as it stands in each later world. -/
structure PartAt (w0 : World) (base gq ga : Nat) (x : Nat) (p : Pt) (A : Option Addr) (c : Nat) : Prop where
  lt : gq < w0.heap.size
  ne : gq ≠ ga
  c0 : w0.cell? ⟨gq, x * 2, none⟩ = some (.int .i64 p.1)
  c1 : w0.cell? ⟨gq, x * 2 + 1, none⟩ = some (.slice A p.2.length c)
  r : Kd.R (Kd.int .i64) 3 w0 base (fun k => k ≠ ga) (.slice A p.2.length c) p.2
theorem Gr.partAt {w0 : World} {base g gq m cq ga n c : Nat} {parts : List Pt} {tos : List Int} (h : Gr w0 base g (.slice (some ⟨gq, 0, none⟩) m cq) (.slice (some ⟨ga, 0, none⟩) n c) parts tos) {x : Nat} (hx : x < m) : ∃ A c, PartAt w0 base gq ga x (ptA parts x) A c := by
  obtain ⟨A, c', h0, h1, hr⟩ := h.part hx
  refine ⟨A, c', Kd.R_lt h.p gq rfl, fun e => ?_, h0, h1, Kd.R_mono hr (fun k hk e => hk (by rw [e]; rfl))⟩
  exact h.p.1 gq rfl (by rw [e]; rfl)
theorem PartAt.now {w0 W : World} {base gq ga x : Nat} {p : Pt} {A : Option Addr} {c : Nat} (h : PartAt w0 base gq ga x p A c) (hk : Kept w0 W (fun k => k = ga)) :
    W.cell? ⟨gq, x * 2, none⟩ = some (.int .i64 p.1) ∧ W.cell? ⟨gq, x * 2 + 1, none⟩ = some (.slice A p.2.length c) ∧ Kd.C (Kd.int .i64) W A p.2.length p.2 :=
  ⟨cell_kept h.c0 hk h.ne, cell_kept h.c1 hk h.ne, (Kd.R_reads' (Kd.R_kept h.r hk (fun _ ho => ho))).2.2⟩
def szV (r : Option Int) : Value := .tuple #[.int .i64 (r.getD 0), .bool r.isSome]
/-- What is known stays small. -/
def Small (K : List Int) : Prop := ∀ i : Nat, -1 ≤ rd K i ∧ rd K i ≤ 2001
theorem Small.set {K : List Int} (h : Small K) (a : Nat) {v : Int} (h1 : -1 ≤ v) (h2 : v ≤ 2001) : Small (K.set a v) := by
  intro i
  by_cases ha : a < K.length
  · rw [rd_set _ _ _ _ ha]; split
    · exact ⟨h1, h2⟩
    · exact h i
  · rw [List.set_eq_of_length_le (by omega)]; exact h i
theorem szs_small {f : List Int → Nat → Option (List Int × Option Int)} (hf : ∀ K x K' r, Small K → f K x = some (K', r) → Small K' ∧ ∀ m, r = some m → 1 ≤ m ∧ m ≤ 2001) : ∀ (xs : List Nat) (K : List Int) (a : Int) (K' : List Int) (r : Option Int), Small K → 1 ≤ a → a ≤ 2001 →
    szs f K xs a = some (K', r) → Small K' ∧ ∀ m, r = some m → 1 ≤ m ∧ m ≤ 2001
  | [], K, a, K', r, hK, h1, h2, h => by
    simp only [szs, Option.some.injEq, Prod.mk.injEq] at h
    obtain ⟨rfl, rfl⟩ := h
    exact ⟨hK, fun m hm => by cases hm; exact ⟨h1, h2⟩⟩
  | x :: xs, K, a, K', r, hK, h1, h2, h => by
    simp only [szs] at h
    cases e : f K x with
    | none => rw [e] at h; simp at h
    | some q =>
      obtain ⟨K1, r1⟩ := q
      obtain ⟨k1, k2⟩ := hf K x K1 r1 hK e
      rw [e, Option.bind_some] at h
      cases r1 with
      | none => simp only [Option.some.injEq, Prod.mk.injEq] at h; obtain ⟨rfl, rfl⟩ := h; exact ⟨k1, fun m hm => by cases hm⟩
      | some m => have := k2 m rfl; exact szs_small hf xs K1 _ K' r k1 (by omega) (by omega) h
theorem sz_small (G : Net) (R : Nat → Nat) (rep : Nat → Int) : ∀ (k : Nat) (K : List Int) (x : Nat) (K' : List Int) (r : Option Int), Small K → sz G R rep k K x = some (K', r) → Small K' ∧ ∀ m, r = some m → 1 ≤ m ∧ m ≤ 2001
  | 0, _, _, _, _, _, h => by simp [sz] at h
  | k + 1, K, x, K', r, hK, h => by
    simp only [sz] at h
    split at h
    · simp only [Option.some.injEq, Prod.mk.injEq] at h; obtain ⟨rfl, rfl⟩ := h; exact ⟨hK, fun m hm => by cases hm⟩
    · split at h
      · simp only [Option.some.injEq, Prod.mk.injEq] at h; obtain ⟨rfl, rfl⟩ := h
        exact ⟨hK, fun m hm => by cases hm; have := hK (R x); omega⟩
      · split at h
        · simp only [Option.some.injEq, Prod.mk.injEq] at h; obtain ⟨rfl, rfl⟩ := h
          exact ⟨hK.set _ (by omega) (by omega), fun m hm => by cases hm; omega⟩
        · cases e : szs (sz G R rep k) (K.set (R x) (-1)) (G.args (rep (R x)).toNat) 1 with
          | none => rw [e] at h; simp at h
          | some q =>
            obtain ⟨K1, r1⟩ := q
            obtain ⟨k1, k2⟩ := szs_small (fun K x K' r => sz_small G R rep k K x K' r) _ _ _ _ _ (hK.set _ (by omega) (by omega)) (by omega) (by omega) e
            rw [e, Option.bind_some] at h
            cases r1 with
            | none => simp only [Option.some.injEq, Prod.mk.injEq] at h; obtain ⟨rfl, rfl⟩ := h; exact ⟨k1, fun m hm => by cases hm⟩
            | some m =>
              have := k2 m rfl
              simp only [Option.some.injEq, Prod.mk.injEq] at h; obtain ⟨rfl, rfl⟩ := h
              exact ⟨k1.set _ (by omega) (by omega), fun m hm => by cases hm; omega⟩
/-- What the graph is, all the while that terms are counted and told. -/
structure GrOk (w0 : World) (base g gq cq ga n c : Nat) (parts : List Pt) (R : Nat → Nat) : Prop where
  gr : ∃ ys, Gr w0 base g (.slice (some ⟨gq, 0, none⟩) n cq) (.slice (some ⟨ga, 0, none⟩) n c) parts ys
  pn : parts.length = n
  lt : ∀ x, x < n → R x < n
  arg : ∀ x, x < n → (ptA parts x).2.length ≤ 6 ∧ ∀ a ∈ (ptA parts x).2, 0 ≤ a ∧ a < n
  var : ∀ x, x < n → (ptA parts x).1 < 0 → (ptA parts x).2 = []
theorem sz_open {tm : Nat → List Int} {parts : List Pt} {R : Nat → Nat} {k : Nat} {K : List Int} {x : Nat} {K' : List Int} {r : Option Int} (hv : (ptA parts (R x)).1 < 0 → (ptA parts (R x)).2 = []) (h : sz (netP parts tm) R (repP parts) (k + 1) K x = some (K', r)) (h0 : rd K (R x) = 0) :
    ∃ K2 r2, szs (sz (netP parts tm) R (repP parts) k) (K.set (R x) (-1)) ((ptA parts (R x)).2.map Int.toNat) 1 = some (K2, r2) ∧ ((r2 = none ∧ K' = K2 ∧ r = none) ∨ ∃ m, r2 = some m ∧ K' = K2.set (R x) m ∧ r = some m) := by
  simp only [sz] at h
  rw [if_neg (by omega), if_neg (fun e => e h0)] at h
  by_cases hs : (ptA parts (R x)).1 < 0
  · rw [if_pos (by unfold repP; rw [if_pos hs]; omega)] at h
    simp only [Option.some.injEq, Prod.mk.injEq] at h
    obtain ⟨rfl, rfl⟩ := h
    rw [hv hs]
    exact ⟨_, _, rfl, .inr ⟨1, rfl, by rw [List.set_set], rfl⟩⟩
  · have hr : repP parts (R x) = R x := if_neg hs
    rw [hr, if_neg (by omega), Int.toNat_natCast] at h
    change (szs (sz (netP parts tm) R (repP parts) k) (K.set (R x) (-1)) ((ptA parts (R x)).2.map Int.toNat) 1).bind _ = _ at h
    cases e : szs (sz (netP parts tm) R (repP parts) k) (K.set (R x) (-1)) ((ptA parts (R x)).2.map Int.toNat) 1 with
    | none => rw [e] at h; simp at h
    | some q =>
      obtain ⟨K2, r2⟩ := q
      rw [e, Option.bind_some] at h
      cases r2 with
      | none => simp only [Option.some.injEq, Prod.mk.injEq] at h; exact ⟨_, _, rfl, .inl ⟨rfl, h.1.symm, h.2.symm⟩⟩
      | some m => simp only [Option.some.injEq, Prod.mk.injEq] at h; exact ⟨_, _, rfl, .inr ⟨m, rfl, h.1.symm, h.2.symm⟩⟩
set_option maxRecDepth 100000 in
set_option maxHeartbeats 4000000 in
theorem size_any (base g gq cq ga n c gk ck : Nat) (parts : List Pt) (tm : Nat → List Int) (R : Nat → Nat) (w0 : World) (hG : GrOk w0 base g gq cq ga n c parts R) : ∀ (k : Nat) (K : List Int) (x : Nat) (K' : List Int) (r : Option Int) (w : World),
    sz (netP parts tm) R (repP parts) k K x = some (K', r) → Small K → x < n → SzSt w0 w base g (.slice (some ⟨gq, 0, none⟩) n cq) ga n c parts R gk ck K →
    Calls Try.prog 114 #[.pointer (some ⟨g, 0, none⟩), .slice (some ⟨gk, 0, none⟩) n ck, .int .i64 x] w fun e w' => e = .returned (szV r) ∧ SzSt w0 w' base g (.slice (some ⟨gq, 0, none⟩) n cq) ga n c parts R gk ck K' := by
  have HG := Aside0.mk hG
  clear hG
  intro k
  induction k with
  | zero => intro K x K' r w h; simp [sz] at h
  | succ k ih =>
    intro K x K' r w h hK hx hS
    obtain ⟨ys0, G0⟩ := HG.out.gr
    have HG0 := Aside0.mk G0
    have HS := Aside0.mk hS
    have HZ := Aside0.mk h
    have HSM := Aside0.mk hK
    have IH := Aside0.mk ih
    clear G0 hS h hK ih
    have hlen := HS.out.len
    have HLEN := Aside0.mk hlen
    clear hlen
    obtain ⟨cx, hcx⟩ : ∃ cx, cx = R x := ⟨_, rfl⟩
    have hcl : cx < n := by rw [hcx]; exact HG.out.lt x hx
    go_enter Try.func114, Try.ntmps114
    go_wp2_with fail
    refine (find_sz HS.out HG0.out hx).mono ?_
    rintro e w1 ⟨rfl, hS1⟩
    rw [← hcx]
    have HS1 := Aside0.mk hS1
    have HCX := Aside0.mk hcx
    clear hS1 hcx
    by_cases e0 : rd K cx = -1
    · obtain ⟨d0, _⟩ := HS1.out.cell hcl e0
      have hz := HZ.out
      simp only [sz] at hz
      rw [← HCX.out, if_pos e0] at hz
      simp only [Option.some.injEq, Prod.mk.injEq] at hz
      obtain ⟨rfl, rfl⟩ := hz
      clear e0
      go_wp2_with fail
      go_ret2
      exact ⟨rfl, HS1.out⟩
    · by_cases e1 : rd K cx = 0
      · obtain ⟨d0, f0⟩ := HS1.out.cell hcl e1
        obtain ⟨K2, r2, hK2, hr2⟩ := sz_open (HG.out.var _ (HG.out.lt x hx)) HZ.out (by rw [← HCX.out]; exact e1)
        rw [← HCX.out] at hK2 hr2
        have HK2 := Aside0.mk hK2
        have HR2 := Aside0.mk hr2
        have HS2 := Aside0.mk (HS1.out.put HG0.out cx (-1))
        have HSM2 := Aside0.mk (HSM.out.set cx (v := -1) (by omega) (by omega))
        obtain ⟨Ax, ca, hPA⟩ := HG0.out.partAt hcl
        have HPA := Aside0.mk hPA
        obtain ⟨ys2, hF2⟩ := HS2.out.f
        have HF2 := Aside0.mk hF2
        obtain ⟨p0, p1, _⟩ := HPA.out.now HF2.out.k
        obtain ⟨g0, _⟩ := HF2.out.cells
        have i0 : (0 : Int) ≤ (cx : Int) := by omega
        have i1 : (cx : Int) < (n : Int) := by omega
        have HARG := Aside0.mk (HG.out.arg cx hcl)
        clear hK2 hr2 hPA hF2 e0 e1
        generalize ptA parts cx = pt at *
        obtain ⟨sy, ax⟩ := pt
        dsimp only at *
        go_wp2_with fail
        clear p0 p1 g0 d0 f0
        obtain ⟨w2, hw2⟩ : ∃ w2, w2 = w1.setCell ⟨gk, cx, none⟩ (.int .i64 (-1)) := ⟨_, rfl⟩
        rw [← hw2] at HS2 HF2
        rw [← hw2]
        clear hw2
        go_loopg [8, 44] ax.length (fun m a i wr => ∃ (j : Nat) (Ki : List Int) (ai : Int), i = .int .i64 j ∧ a = .int .i64 ai ∧ j ≤ ax.length ∧ 1 ≤ ai ∧ ai ≤ 2001 ∧ Aside0 (m = ax.length - j) ∧ Aside0 (szs (sz (netP parts tm) R (repP parts) k) Ki ((ax.drop j).map Int.toNat) ai = some (K2, r2)) ∧ Aside0 (Small Ki) ∧ Aside0 (SzSt w0 wr base g (.slice (some ⟨gq, 0, none⟩) n cq) ga n c parts R gk ck Ki))
        case atStart => exact ⟨0, _, 1, rfl, rfl, by omega, by omega, by omega, ⟨by omega⟩, ⟨by rw [List.drop_zero]; exact HK2.out⟩, HSM2, HS2⟩
        case round =>
          clear HK2 HSM2 HS2 HF2
          obtain ⟨j, Ki, ai, rfl, rfl, hj, ha1, ha2, HM, HK, HSM, HS⟩ := hrel
          by_cases hlt : j < ax.length
          · obtain ⟨y, hy⟩ : ∃ y : Nat, rd ax j = y := ⟨(rd ax j).toNat, by have := (HARG.out.2 _ (rd_mem hlt)).1; omega⟩
            have hyl : y < n := by have := (HARG.out.2 _ (rd_mem hlt)).2; omega
            obtain ⟨ysr, hFr⟩ := HS.out.f
            obtain ⟨_, _, hC⟩ := HPA.out.now hFr.k
            obtain ⟨ad, ex, hx1⟩ := int_at hC j hlt
            cases ex
            rw [hy] at hx1
            have hk := HK.out
            rw [drop_rd ax j hlt, List.map_cons, hy, Int.toNat_natCast] at hk
            simp only [szs] at hk
            cases hq : sz (netP parts tm) R (repP parts) k Ki y with
            | none => rw [hq] at hk; simp at hk
            | some q =>
              obtain ⟨K1, r1⟩ := q
              rw [hq, Option.bind_some] at hk
              have HQ := Aside0.mk hq
              have HKK := Aside0.mk hk
              have hb1 := (sz_small _ _ _ _ _ _ _ _ HSM.out hq)
              have HB1 := Aside0.mk hb1
              clear hq hk hFr hC hy hb1
              have b0 : (0 : Int) ≤ (j : Int) := by omega
              have hj6 : j < 6 := by have := HARG.out.1; omega
              cases r1 with
              | none =>
                go_wp2_with fail
                refine (IH.out Ki y K1 none _ HQ.out HSM.out hyl HS.out).mono ?_
                rintro e w3 ⟨rfl, hS3⟩
                have HS3 := Aside0.mk hS3
                clear hS3
                simp only [szV, Option.getD_none, Option.isSome_none]
                go_wp2_with fail
                go_ret2
                have := HKK.out
                simp only [Option.some.injEq, Prod.mk.injEq] at this
                obtain ⟨rfl, rfl⟩ := this
                rcases HR2.out with ⟨_, rfl, rfl⟩ | ⟨m, h1, _⟩
                · exact ⟨rfl, HS3.out⟩
                · cases h1
              | some m1 =>
                have hm := HB1.out.2 m1 rfl
                have hm1 := hm.1
                have hm2 := hm.2
                clear hm
                go_wp2_with fail
                refine (IH.out Ki y K1 (some m1) _ HQ.out HSM.out hyl HS.out).mono ?_
                rintro e w3 ⟨rfl, hS3⟩
                have HS3 := Aside0.mk hS3
                clear hS3
                simp only [szV, Option.getD_some, Option.isSome_some]
                go_wp2_with fail
                all_goals
                  go_roundg (ax.length - (j + 1))
                  case measure => have := HM.out; omega
                  case rel =>
                    refine ⟨j + 1, K1, _, by go_num, rfl, by omega, by omega, by omega, ⟨rfl⟩, ⟨?_⟩, ⟨HB1.out.1⟩, HS3⟩
                    have h : szs _ K1 _ (min (ai + m1) 2001) = some (K2, r2) := HKK.out
                    first | rwa [show min (ai + m1) 2001 = 2001 by omega] at h | rwa [show min (ai + m1) 2001 = ai + m1 by omega] at h
          · obtain rfl : j = ax.length := by omega
            have hk := HK.out
            rw [List.drop_length, List.map_nil] at hk
            simp only [szs, Option.some.injEq, Prod.mk.injEq] at hk
            obtain ⟨rfl, rfl⟩ := hk
            have hr := HR2.out
            rcases hr with ⟨h1, _⟩ | ⟨m, h1, rfl, rfl⟩
            · cases h1
            · cases h1
              obtain ⟨_, f0⟩ := HS.out.cell hcl (v := rd Ki cx) rfl
              obtain ⟨d0, _⟩ := HS.out.cell hcl (v := rd Ki cx) rfl
              have HS4 := Aside0.mk (HS.out.put HG0.out cx ai)
              go_wp2_with fail
              go_ret2
              exact ⟨rfl, HS4.out⟩
      · obtain ⟨v, hv⟩ : ∃ v, v = rd K cx := ⟨_, rfl⟩
        obtain ⟨d0, _⟩ := HS1.out.cell hcl hv.symm
        rw [← hv] at e0 e1
        have hz := HZ.out
        simp only [sz] at hz
        rw [← HCX.out, ← hv, if_neg e0, if_pos e1] at hz
        simp only [Option.some.injEq, Prod.mk.injEq] at hz
        obtain ⟨rfl, rfl⟩ := hz
        have e2 : (v == -1) = false := beq_eq_false_iff_ne.2 e0
        have e3 : (v != 0) = true := bne_iff_ne.2 e1
        clear e0 e1 hv
        go_wp2_with fail
        go_ret2
        exact ⟨rfl, HS1.out⟩
end Go.Proofs.Ytadjoaipmcbieaa
namespace Go.Proofs.Ytadjoaipmcbieaa
open Go.RowKit Go.Proofs.YtadjoaipmcbieaaW.PrintWords Go.Proofs.YtadjoaipmcbieaaW.PrintLast Go.Proofs.YtadjoaipmcbieaaW.PrintMore A
open Go.Maps
theorem keyed3 : Keyed Try.prog 3 := int_keyed Try.underlying3
/-- The number that a class has (0: none yet). -/
def posI (ns : List Int) (c : Nat) : Int := if (-(c : Int) - 1) ∈ ns then (ns.idxOf (-(c : Int) - 1) : Int) + 1 else 0
/-- The block m is a map that numbers these classes. -/
def NumM (w : World) (m : Nat) (ns : List Int) : Prop :=
  ∃ D : DataW Unit, w.ownsMap Try.prog 3 (plainElem Try.prog 3) m ns.length D ∧ Maps.size D = ns.length ∧ ∀ c : Nat, Maps.has D (.int .i64 c) = decide ((-(c : Int) - 1) ∈ ns) ∧ D.atKey (.int .i64 c) (.lit (.int .i64 0)) = .lit (.int .i64 (posI ns c))
theorem NumM.kept {w w' : World} {m : Nat} {ns : List Int} {row : Option Nat} (h : NumM w m ns) (hg : w.grownBy w' row) (hne : some m ≠ row) : NumM w' m ns := by
  obtain ⟨D, h1, h2⟩ := h
  exact ⟨D, h1.kept hg hne, h2⟩
theorem NumM.below {w w' : World} {m : Nat} {ns : List Int} (h : NumM w m ns) (hb : Below w.heap.size w w') : NumM w' m ns := h.kept (grown_of_below hb none) (by simp)
set_option maxRecDepth 100000 in
theorem small_wf {a : Nat} (h : a ≤ 1000000) : (Lit.int IntKind.i64 (a : Int)).wf = true := WalkArith.wf_i64 (by omega)
set_option maxRecDepth 100000 in
theorem NumM.look {w : World} {m : Nat} {ns : List Int} (h : NumM w m ns) {c : Nat} (hc : c ≤ 1000000) : (Instr.lookup 133 (.map (some m)) (.int .i64 c) false).run Try.prog w = .ok (.int .i64 (posI ns c)) w := by
  obtain ⟨D, h1, h2, h3⟩ := h
  obtain ⟨z, hrun, hat, _⟩ := h1.lookup_int keyed3 Try.underlying133 Try.underlying3 (zero3 w) (keyOf_int_mk Try.underlying3 (small_wf hc))
  rw [(h3 c).2] at hat
  rw [hrun]
  injection hat with hat
  injection hat with _ hat
  rw [hat]
theorem posI_out {ns : List Int} {c : Nat} (h : (-(c : Int) - 1) ∉ ns) : posI ns c = 0 := if_neg h
theorem posI_in {ns : List Int} {c : Nat} (h : (-(c : Int) - 1) ∈ ns) : posI ns c = (ns.idxOf (-(c : Int) - 1) : Int) + 1 := if_pos h
theorem NumM.put {ns : List Int} {D : DataW Unit} {c : Nat} (hT : Tidy D) (hc : (-(c : Int) - 1) ∉ ns) (h2 : Maps.size D = ns.length) (h3 : ∀ c : Nat, Maps.has D (.int .i64 c) = decide ((-(c : Int) - 1) ∈ ns) ∧ D.atKey (.int .i64 c) (.lit (.int .i64 0)) = .lit (.int .i64 (posI ns c))) :
    Maps.size (D.put (.int .i64 c) (.lit (.int .i64 ((ns.length : Int) + 1)))) = (ns ++ [-(c : Int) - 1]).length ∧ ∀ x : Nat, Maps.has (D.put (.int .i64 c) (.lit (.int .i64 ((ns.length : Int) + 1)))) (.int .i64 x) = decide ((-(x : Int) - 1) ∈ ns ++ [-(c : Int) - 1]) ∧
      (D.put (.int .i64 c) (.lit (.int .i64 ((ns.length : Int) + 1)))).atKey (.int .i64 x) (.lit (.int .i64 0)) = .lit (.int .i64 (posI (ns ++ [-(c : Int) - 1]) x)) := by
  have hk : WideAt.IsKeyLit (Lit.int IntKind.i64 (c : Int)) := trivial
  refine ⟨?_, fun x => ?_⟩
  · rw [size_put hT, (h3 c).1, if_neg (by simpa using hc), h2]; simp
  · by_cases e : x = c
    · subst e
      refine ⟨by rw [has_put_same hT.isMap hk]; simp, ?_⟩
      rw [atKey_put_same hT.isMap hk, posI_in (by simp), List.idxOf_append, if_neg hc]
      simp
    · have hne : (Lit.int IntKind.i64 (x : Int)) ≠ Lit.int IntKind.i64 (c : Int) := by intro h; injection h with _ h; omega
      have hiff : (-(x : Int) - 1) ∈ ns ++ [-(c : Int) - 1] ↔ (-(x : Int) - 1) ∈ ns := by
        rw [List.mem_append, List.mem_singleton]
        exact ⟨fun h => h.elim id (fun h => by omega), .inl⟩
      refine ⟨by rw [has_put_other hne, (h3 x).1]; simp only [hiff], ?_⟩
      rw [atKey_put_other hne, (h3 x).2]
      congr 2
      unfold posI
      by_cases hx : (-(x : Int) - 1) ∈ ns
      · rw [if_pos hx, if_pos (hiff.2 hx), List.idxOf_append, if_pos hx]
      · rw [if_neg hx, if_neg (fun h => hx (hiff.1 h))]
theorem rn_one (ns : List Int) (c : Nat) : (rn ns [-(c : Int) - 1], rns ns [-(c : Int) - 1]) = if (-(c : Int) - 1) ∈ ns then ([-(posI ns c)], ns) else ([-((ns.length : Int) + 1)], ns ++ [-(c : Int) - 1]) := by
  have hneg : ¬ (0 ≤ -(c : Int) - 1) := by omega
  simp only [rn, rns, if_neg hneg]
  by_cases h : (-(c : Int) - 1) ∈ ns
  · rw [if_pos h, if_pos h, if_pos h, posI_in h, show (-(ns.idxOf (-(c : Int) - 1) : Int) - 1) = -((ns.idxOf (-(c : Int) - 1) : Int) + 1) by omega]
  · rw [if_neg h, if_neg h, if_neg h, show (-(ns.length : Int) - 1) = -((ns.length : Int) + 1) by omega]
theorem lys_len {f : List Int → Nat → List Int → Option (List Int × List Int)} (hf : ∀ o x ns o' ns', f o x ns = some (o', ns') → o.length < o'.length ∧ ns'.length + o.length ≤ ns.length + o'.length) : ∀ (xs : List Nat) (o ns o' ns' : List Int), lys f o xs ns = some (o', ns') → o.length ≤ o'.length ∧ ns'.length + o.length ≤ ns.length + o'.length
  | [], o, ns, o', ns', h => by simp only [lys, Option.some.injEq, Prod.mk.injEq] at h; obtain ⟨rfl, rfl⟩ := h; omega
  | x :: xs, o, ns, o', ns', h => by
    simp only [lys] at h
    cases e : f o x ns with
    | none => rw [e] at h; simp at h
    | some q =>
      rw [e, Option.bind_some] at h
      have h1 := hf _ _ _ _ _ e
      have h2 := lys_len hf xs _ _ _ _ h
      omega
theorem ly_len (G : Net) (R : Nat → Nat) (rep : Nat → Int) : ∀ (k : Nat) (o : List Int) (x : Nat) (ns o' ns' : List Int), ly G R rep k o x ns = some (o', ns') → o.length < o'.length ∧ ns'.length + o.length ≤ ns.length + o'.length
  | 0, _, _, _, _, _, h => by simp [ly] at h
  | k + 1, o, x, ns, o', ns', h => by
    simp only [ly] at h
    split at h
    · have e := rn_one ns (R x)
      simp only [Option.some.injEq, Prod.mk.injEq] at h
      obtain ⟨rfl, rfl⟩ := h
      rw [List.length_append, rn_length]
      have e2 := congrArg Prod.snd e
      simp only at e2
      rw [e2]
      split
      · simp
      · simp; omega
    · have := lys_len (fun o x ns o' ns' => ly_len G R rep k o x ns o' ns') _ _ _ _ _ h
      simp only [List.length_append, List.length_singleton] at this
      omega
theorem FSt.grownNew {w0 W W' : World} {base g : Nat} {vp : Value} {ga n c : Nat} {parts : List Pt} {R : Nat → Nat} {ys ys0 : List Int} (h : FSt w0 W base g vp ga n c parts R ys) (h0 : Gr w0 base g vp (.slice (some ⟨ga, 0, none⟩) n c) parts ys0)
    {row : Option Nat} (hg : W.grownBy W' row) (hr : ∀ k, row = some k → w0.heap.size ≤ k) : FSt w0 W' base g vp ga n c parts R ys := by
  have hk := Kept.of_grown hg h.k (fun k e => .inr (hr k e))
  have hga : ga < w0.heap.size := Kd.R_lt h0.t ga rfl
  have hgb : base ≤ w0.heap.size := by have := h0.hb; have := blk_lt h0.blk; omega
  refine ⟨⟨blk_grown h.g.blk hg (fun e => by have := hr g e.symm; have := blk_lt h0.blk; omega), h.g.hb, Kd.R_kept h0.p hk (fun k ho e => ho (by rw [e]; rfl)), ?_⟩, h.len, h.root, pw_below_grown h.b _ (Nat.le_trans hgb h.k.1) hg (fun k e => Nat.le_trans hgb (hr k e)), hk⟩
  exact Kd.R_mono (Kd.R_grown (ok := fun k => k = ga) ⟨fun k hk => by simpa [Value.ownBlock] using hk.symm, h.g.t.2⟩ hg (fun k hk e => by have := hr k e.symm; omega)) (fun _ _ => trivial)
/-- Where telling stands: the graph, what is told, the classes' numbers. -/
structure LySt (w0 W : World) (base g : Nat) (vp : Value) (ga n c : Nat) (parts : List Pt) (R : Nat → Nat) (v : Value) (out : List Int) (m : Nat) (ns : List Int) : Prop where
  f : ∃ ys, FSt w0 W base g vp ga n c parts R ys
  o : Kd.R (Kd.int .i64) 3 W w0.heap.size (fun _ => True) v out
  nm : NumM W m ns
  mb : w0.heap.size ≤ m
section
variable {w0 W : World} {base g : Nat} {vp : Value} {ga n c : Nat} {parts : List Pt} {R : Nat → Nat} {v : Value} {out : List Int} {m : Nat} {ns ys0 : List Int}
theorem LySt.below {W' : World} (h : LySt w0 W base g vp ga n c parts R v out m ns) (hb : Below W.heap.size W W') : LySt w0 W' base g vp ga n c parts R v out m ns := by
  obtain ⟨ys, hf⟩ := h.f
  exact ⟨⟨ys, hf.below hb⟩, Kd.R_below h.o hb, h.nm.below hb, h.mb⟩
theorem find_ly (h : LySt w0 W base g vp ga n c parts R v out m ns) (h0 : Gr w0 base g vp (.slice (some ⟨ga, 0, none⟩) n c) parts ys0) {x : Nat} (hx : x < n) :
    Calls Try.prog 123 #[.pointer (some ⟨g, 0, none⟩), .int .i64 x] W fun e w' => e = .returned (.int .i64 (R x)) ∧ LySt w0 w' base g vp ga n c parts R v out m ns := by
  obtain ⟨ys, hF⟩ := h.f
  have hga : ga < w0.heap.size := Kd.R_lt h0.t ga rfl
  refine (find_st base g ga n c vp parts R ys x W W ⟨hF.g, hF.len, hF.root, Below.refl _ _, Kept.refl _ _⟩ hx).mono ?_
  rintro e w' ⟨ys', he, hF'⟩
  have hg : W.grownBy w' (some ga) := ⟨hF'.b.os, hF'.b.tape, hF'.b.output, hF'.k.1, fun i hi hne => hF'.k.2 i hi (fun e => hne (by rw [e]))⟩
  refine ⟨he, ⟨ys', hF'.g, hF'.len, hF'.root, hF.b.trans hF'.b, hF.k.then_ hF'.k (fun k hk => .inl hk)⟩, ?_, h.nm.kept hg (fun e => by injection e with e; have := h.mb; omega), h.mb⟩
  have hb := Kd.R_base h.o
  exact Kd.R_mono (Kd.R_kept (ok := fun k => w0.heap.size ≤ k) ⟨hb, h.o.2⟩ hF'.k (fun k hk e => by omega)) (fun _ _ => trivial)
theorem LySt.app {W' : World} {v' : Value} {out' : List Int} (h : LySt w0 W base g vp ga n c parts R v out m ns) (h0 : Gr w0 base g vp (.slice (some ⟨ga, 0, none⟩) n c) parts ys0) (ho : Kd.R (Kd.int .i64) 3 W' w0.heap.size (fun _ => True) v' out') (hg : W.grownBy W' v.ownBlock) : LySt w0 W' base g vp ga n c parts R v' out' m ns := by
  obtain ⟨ys, hf⟩ := h.f
  refine ⟨⟨ys, hf.grownNew h0 hg (Kd.R_base h.o)⟩, ho, h.nm.kept hg ?_, h.mb⟩
  obtain ⟨D, ⟨es, clock, hb, _⟩, _⟩ := h.nm
  intro e
  obtain ⟨cells, hc⟩ := Kd.R_typed h.o m e.symm
  rw [hc] at hb; cases hb
theorem LySt.num {W' : World} {ns' : List Int} (h : LySt w0 W base g vp ga n c parts R v out m ns) (h0 : Gr w0 base g vp (.slice (some ⟨ga, 0, none⟩) n c) parts ys0) (hm : NumM W' m ns') (hg : W.grownBy W' (some m)) : LySt w0 W' base g vp ga n c parts R v out m ns' := by
  obtain ⟨ys, hf⟩ := h.f
  obtain ⟨D, ⟨es, clock, hb, _⟩, _⟩ := h.nm
  exact ⟨⟨ys, hf.grownNew h0 hg (fun k e => by injection e with e; subst e; exact h.mb)⟩, Kd.R_mono (Kd.R_grown (R_ne_map h.o hb) hg (fun k hk e => hk.2 (by injection e))) (fun _ _ => trivial), hm, h.mb⟩
end
set_option maxRecDepth 100000 in
set_option maxHeartbeats 4000000 in
theorem lay_any (base g gq cq ga n c m : Nat) (parts : List Pt) (tm : Nat → List Int) (R : Nat → Nat) (w0 : World) (hG : GrOk w0 base g gq cq ga n c parts R) (hn : n ≤ 100000) : ∀ (k : Nat) (out : List Int) (x : Nat) (ns out' ns' : List Int) (v : Value) (w : World),
    ly (netP parts tm) R (repP parts) k out x ns = some (out', ns') → x < n → out'.length ≤ 100000 → ns.length ≤ out.length → LySt w0 w base g (.slice (some ⟨gq, 0, none⟩) n cq) ga n c parts R v out m ns →
    Calls Try.prog 106 #[.pointer (some ⟨g, 0, none⟩), v, .int .i64 x, .map (some m)] w fun e w' => ∃ v', e = .returned v' ∧ LySt w0 w' base g (.slice (some ⟨gq, 0, none⟩) n cq) ga n c parts R v' out' m ns' := by
  have HG := Aside0.mk hG
  clear hG
  intro k
  induction k with
  | zero => intro out x ns out' ns' v w h; simp [ly] at h
  | succ k ih =>
    intro out x ns out' ns' v w h hx hol hnl hS
    obtain ⟨ys0, G0⟩ := HG.out.gr
    have HG0 := Aside0.mk G0
    have HS := Aside0.mk hS
    have hlen := (ly_len _ _ _ _ _ _ _ _ _ h).1
    have HZ := Aside0.mk h
    have IH := Aside0.mk ih
    obtain ⟨cx, hcx⟩ : ∃ cx, cx = R x := ⟨_, rfl⟩
    have hcl : cx < n := by rw [hcx]; exact HG.out.lt x hx
    obtain ⟨A, cv, hvv⟩ := Kd.R_slice hS.o
    subst hvv
    clear G0 hS h ih
    go_enter Try.func106, Try.ntmps106
    go_wp2_with fail
    refine (find_ly HS.out HG0.out hx).mono ?_
    rintro e w1 ⟨rfl, hS1⟩
    rw [← hcx]
    have HS1 := Aside0.mk hS1
    have HCX := Aside0.mk hcx
    obtain ⟨Ax, ca, hPA⟩ := HG0.out.partAt hcl
    have HPA := Aside0.mk hPA
    obtain ⟨ys1, hF1⟩ := hS1.f
    have HF1 := Aside0.mk hF1
    obtain ⟨p0, p1, _⟩ := HPA.out.now HF1.out.k
    obtain ⟨g0, _⟩ := HF1.out.cells
    have i0 : (0 : Int) ≤ (cx : Int) := by omega
    have i1 : (cx : Int) < (n : Int) := by omega
    have HARG := Aside0.mk (HG.out.arg cx hcl)
    have hz : (if (ptA parts cx).1 < 0 then some (out ++ rn ns [-(cx : Int) - 1], rns ns [-(cx : Int) - 1]) else lys (ly (netP parts tm) R (repP parts) k) (out ++ [(ptA parts cx).1]) ((ptA parts cx).2.map Int.toNat) ns) = some (out', ns') := by
      have hz := HZ.out
      simp only [ly] at hz
      rw [← HCX.out] at hz
      by_cases hs : (ptA parts cx).1 < 0
      · rw [if_pos (by unfold repP; rw [if_pos hs]; omega)] at hz
        rw [if_pos hs]; exact hz
      · have hr : repP parts cx = cx := if_neg hs
        rw [hr, if_neg (by omega), Int.toNat_natCast] at hz
        rw [if_neg hs]; exact hz
    have HZZ := Aside0.mk hz
    clear hz hS1 hcx hPA hF1
    generalize ptA parts cx = pt at *
    obtain ⟨sy, ax⟩ := pt
    dsimp only at *
    have HS2 := Aside0.mk (HS1.out.below (below_alloc (Below.refl _ _) (.cells #[.int .i64 sy, .slice Ax ax.length ca] 155)))
    have hws : w0.heap.size ≤ (w1.alloc (.cells #[.int .i64 sy, .slice Ax ax.length ca] 155)).heap.size := by have := HF1.out.k.1; simp; omega
    have HB2 := Aside0.mk (heap_alloc_new w1 (.cells #[.int .i64 sy, .slice Ax ax.length ca] 155))
    go_upto_region 3 with fail
    clear p0 p1 g0
    obtain ⟨w2, hw2⟩ : ∃ w2, w2 = w1.alloc (.cells #[.int .i64 sy, .slice Ax ax.length ca] 155) := ⟨_, rfl⟩
    rw [← hw2] at HS2 hws HB2 ⊢
    clear hw2
    generalize w1.heap.size = bx at *
    have q0 : w2.cell? ⟨bx, 0, none⟩ = some (.int .i64 sy) := cell_of_row w2 bx 0 _ _ _ HB2.out
    have q1 : w2.cell? ⟨bx, 1, none⟩ = some (.slice Ax ax.length ca) := cell_of_row w2 bx 1 _ _ _ HB2.out
    have HNL : Aside0 (ns.length ≤ 100000 ∧ out.length ≤ 100000) := ⟨by omega, by omega⟩
    by_cases hs : sy < 0
    · have e0 : decide (sy < 0) = true := decide_eq_true hs
      have hz := HZZ.out
      rw [if_pos hs] at hz
      have hr := rn_one ns cx
      by_cases hin : (-(cx : Int) - 1) ∈ ns
      · rw [if_pos hin] at hr
        simp only [Prod.mk.injEq] at hr
        rw [hr.1, hr.2] at hz
        simp only [Option.some.injEq, Prod.mk.injEq] at hz
        obtain ⟨rfl, rfl⟩ := hz
        have hlk := HS2.out.nm.look (c := cx) (by omega)
        obtain ⟨pv, hpv⟩ : ∃ pv, pv = posI ns cx := ⟨_, rfl⟩
        have hp1 : 1 ≤ pv := by rw [hpv, posI_in hin]; omega
        have hp2 : pv ≤ 200000 := by rw [hpv, posI_in hin]; have := List.idxOf_le_length (a := -(cx : Int) - 1) (l := ns); omega
        rw [← hpv] at hlk
        have HPV := Aside0.mk hpv
        have e1 : (pv == 0) = false := beq_eq_false_iff_ne.2 (by omega)
        clear hr hs hin hpv
        go_wp2_with (at_builtin; refine Kd.R_append (Kd.int .i64) (w0 := w2) w0.heap.size rfl (.tmp 34) (.tmp 39) 25 3 (.int .i64 0) 8 rfl Try.underlying25 info3 rfl (by decide) (by omega) (.slice A out.length cv) out (-pv) [.int .i64 (-pv)] (fun _ => True) (fun _ => False) rfl rfl rfl (fun _ hk => hk.elim) (fun _ _ => trivial) HS2.out.o (Below.refl _ _) hws (by have := HNL.out; omega) ?_; intro v3 w3 ho3 hb3 hg3 hat3; have HS3 := Aside0.mk (HS2.out.app HG0.out ho3 hg3); clear ho3 hb3 hg3 hat3)
        go_ret
        exact ⟨v3, rfl, by rw [← HPV.out]; exact HS3.out⟩
      · rw [if_neg hin] at hr
        simp only [Prod.mk.injEq] at hr
        rw [hr.1, hr.2] at hz
        simp only [Option.some.injEq, Prod.mk.injEq] at hz
        obtain ⟨rfl, rfl⟩ := hz
        have hlk := HS2.out.nm.look (c := cx) (by omega)
        rw [posI_out hin] at hlk
        obtain ⟨D, ho, h2, h3⟩ := HS2.out.nm
        have HD := Aside0.mk (And.intro h2 h3)
        have HT := Aside0.mk (ho.tidy keyed3)
        have HIN := Aside0.mk hin
        have HO := Aside0.mk ho
        have hnl2 := HNL.out.1
        clear hr hs hin h2 h3 ho
        go_wp2_with (first | (at_len; refine wpList_len_own _ rfl (.tmp 31) 133 rfl 3 3 Try.underlying133 (plainElem Try.prog 3) m ns.length D rfl HO.out ?_; rw [HD.out.1]) | (at_mapUpdate; refine wpList_mapUpdate_own _ rfl (.tmp 29) (.tmp 30) (.tmp 33) 133 rfl 3 3 keyed3 Try.underlying133 (plainElem Try.prog 3) m ns.length D rfl HO.out (by have := HNL.out; unfold maxLen; omega) (.int .i64 cx) (.int .i64 ((ns.length : Int) + 1)) (.int .i64 cx) rfl rfl (keyOf_int_mk Try.underlying3 (small_wf (by omega))) (.lit (.int .i64 ((ns.length : Int) + 1))) [] (plainElem_int Try.underlying3 (small_wf (a := ns.length + 1) (by omega))) ?_; intro w3 ho3 hg3; have HN3 : Aside0 (NumM w3 m (ns ++ [-(cx : Int) - 1])) := ⟨⟨_, by simpa using ho3, NumM.put HT.out HIN.out HD.out.1 HD.out.2⟩⟩; have hlk3 := HN3.out.look (c := cx) (by omega); rw [show posI (ns ++ [-(cx : Int) - 1]) cx = (ns.length : Int) + 1 from (by have hni := HIN.out; rw [posI_in (by simp), List.idxOf_append, if_neg hni]; simp)] at hlk3; have HS3 := Aside0.mk (HS2.out.num HG0.out HN3.out hg3); have hw3 : w0.heap.size ≤ w3.heap.size := Nat.le_trans hws hg3.size; clear ho3 hg3 hlk) | (at_builtin; refine Kd.R_append (Kd.int .i64) (w0 := w3) w0.heap.size rfl (.tmp 34) (.tmp 39) 25 3 (.int .i64 0) 8 rfl Try.underlying25 info3 rfl (by decide) (by omega) (.slice A out.length cv) out (-((ns.length : Int) + 1)) [.int .i64 (-((ns.length : Int) + 1))] (fun _ => True) (fun _ => False) rfl rfl rfl (fun _ hk => hk.elim) (fun _ _ => trivial) HS3.out.o (Below.refl _ _) hw3 (by have := HNL.out; omega) ?_; intro v4 w4 ho4 hb4 hg4 hat4; have HS4 := Aside0.mk (HS3.out.app HG0.out ho4 hg4); clear ho4 hb4 hg4 hat4))
        go_ret
        exact ⟨v4, rfl, HS4.out⟩
    · have e0 : decide (sy < 0) = false := decide_eq_false hs
      have hz := HZZ.out
      rw [if_neg hs] at hz
      have HZ2 := Aside0.mk hz
      clear hz hs
      go_wp2_with (at_builtin; refine Kd.R_append (Kd.int .i64) (w0 := w2) w0.heap.size rfl (.tmp 41) (.tmp 44) 25 3 (.int .i64 0) 8 rfl Try.underlying25 info3 rfl (by decide) (by omega) (.slice A out.length cv) out sy [.int .i64 sy] (fun _ => True) (fun _ => False) rfl rfl rfl (fun _ hk => hk.elim) (fun _ _ => trivial) HS2.out.o (Below.refl _ _) hws (by have := HNL.out; omega) ?_; intro v3 w3 ho3 hb3 hg3 hat3; have HS3 := Aside0.mk (HS2.out.app HG0.out ho3 hg3); have HB3 := Aside0.mk (blk_grown HB2.out hg3 (Kd.R_ne HS2.out.o HB2.out (by decide))); have q3 : w3.cell? ⟨bx, 1, none⟩ = some (.slice Ax ax.length ca) := cell_of_row w3 bx 1 _ _ _ HB3.out; clear ho3 hb3 hg3 hat3)
      clear q0 q1 q3
      go_loopg [1, 49] ax.length (fun r a i wr => ∃ (j : Nat) (oj nj : List Int), i = .int .i64 j ∧ j ≤ ax.length ∧ Aside0 (r = ax.length - j) ∧ Aside0 (nj.length ≤ oj.length) ∧ Aside0 (lys (ly (netP parts tm) R (repP parts) k) oj ((ax.drop j).map Int.toNat) nj = some (out', ns')) ∧ Aside0 (LySt w0 wr base g (.slice (some ⟨gq, 0, none⟩) n cq) ga n c parts R a oj m nj))
      case atStart => exact ⟨0, _, ns, rfl, by omega, ⟨by omega⟩, ⟨by simp; omega⟩, ⟨by rw [List.drop_zero]; exact HZ2.out⟩, HS3⟩
      case round =>
        clear HZ2 HS3 HZZ
        obtain ⟨j, oj, nj, rfl, hj, HM, HL, HK, HS⟩ := hrel
        obtain ⟨A', c', e⟩ := Kd.R_slice HS.out.o
        subst e
        by_cases hlt : j < ax.length
        · obtain ⟨y, hy⟩ : ∃ y : Nat, rd ax j = y := ⟨(rd ax j).toNat, by have := (HARG.out.2 _ (rd_mem hlt)).1; omega⟩
          have hyl : y < n := by have := (HARG.out.2 _ (rd_mem hlt)).2; omega
          obtain ⟨ysr, hFr⟩ := HS.out.f
          obtain ⟨_, _, hC⟩ := HPA.out.now hFr.k
          obtain ⟨ad, ex, hx1⟩ := int_at hC j hlt
          cases ex
          rw [hy] at hx1
          have hk := HK.out
          rw [drop_rd ax j hlt, List.map_cons, hy, Int.toNat_natCast] at hk
          simp only [lys] at hk
          cases hq : ly (netP parts tm) R (repP parts) k oj y nj with
          | none => rw [hq] at hk; simp at hk
          | some q =>
            obtain ⟨o1, n1⟩ := q
            rw [hq, Option.bind_some] at hk
            have HQ := Aside0.mk hq
            have HKK := Aside0.mk hk
            have hl1 := lys_len (fun o x ns o' ns' => ly_len (netP parts tm) R (repP parts) k o x ns o' ns') _ _ _ _ _ hk
            have hl2 := ly_len _ _ _ _ _ _ _ _ _ hq
            have HLN : Aside0 (o1.length ≤ 100000 ∧ n1.length ≤ o1.length) := ⟨by have := hl1.1; dsimp only at this; omega, by have := hl2.2; have := HL.out; omega⟩
            clear hq hk hFr hC hy hl1 hl2
            have hj6 : j < 6 := by have := HARG.out.1; omega
            go_wp2_with fail
            refine (IH.out oj y nj o1 n1 _ _ HQ.out hyl HLN.out.1 HL.out HS.out).mono ?_
            rintro e w4 ⟨v4, rfl, hS4⟩
            have HS4 := Aside0.mk hS4
            clear hS4
            go_wp2_with fail
            go_roundg (ax.length - (j + 1))
            case measure => have := HM.out; omega
            case rel => exact ⟨j + 1, o1, n1, by go_num, by omega, ⟨rfl⟩, ⟨HLN.out.2⟩, ⟨HKK.out⟩, HS4⟩
        · obtain rfl : j = ax.length := by omega
          have hk := HK.out
          rw [List.drop_length, List.map_nil] at hk
          simp only [lys, Option.some.injEq, Prod.mk.injEq] at hk
          obtain ⟨rfl, rfl⟩ := hk
          go_wp2_with fail
          go_ret
          exact ⟨_, rfl, HS.out⟩
end Go.Proofs.Ytadjoaipmcbieaa

/-! Y4 -/
namespace Go.Proofs.Ytadjoaipmcbieaa
open Go.RowKit Go.Proofs.YtadjoaipmcbieaaW.PrintWords Go.Proofs.YtadjoaipmcbieaaW.PrintLast Go.Proofs.YtadjoaipmcbieaaW.PrintMore A
set_option linter.unusedSimpArgs false
set_option linter.unusedVariables false
/-- The joined net, all the while that terms are counted and told. -/
structure DOk (w0 : World) (base g : Nat) (vl vt va : Value) (gu cu gr cr N : Nat) (up rep ts : List Int) (args : List (List Int)) (tm : Nat → List Int) (R : Nat → Nat) : Prop where
  t : NtOk w0 base vt va gu gr N ts args
  l : g < w0.heap.size ∧ gu < w0.heap.size ∧ gr < w0.heap.size
  r : RootOk up R
  lt : ∀ x, x < N → R x < N
  rp : ∀ x, x < N → 0 ≤ rd rep (R x) → ∃ f : Nat, rd rep (R x) = f ∧ f < ts.length ∧ 0 ≤ rd ts f
  arg : ∀ x, (argR args x).length ≤ 6 ∧ ∀ a ∈ argR args x, 0 ≤ a ∧ a < N
/-- Where counting stands. -/
structure DSz (w0 W : World) (base g : Nat) (vl vt va : Value) (gu cu gr cr N : Nat) (up rep : List Int) (gk ck : Nat) (K : List Int) : Prop where
  s : NSt w0 W base g vl vt va gu cu gr cr N up rep
  k : Kd.R (Kd.int .i64) 3 W w0.heap.size (fun _ => True) (.slice (some ⟨gk, 0, none⟩) N ck) K
section
variable {w0 W W' : World} {base g : Nat} {vl vt va : Value} {gu cu gr cr N : Nat} {up rep ts : List Int} {args : List (List Int)} {tm : Nat → List Int} {R : Nat → Nat} {gk ck : Nat} {K : List Int}
theorem DSz.below (h : DSz w0 W base g vl vt va gu cu gr cr N up rep gk ck K) (hb : Below W.heap.size W W') : DSz w0 W' base g vl vt va gu cu gr cr N up rep gk ck K := ⟨h.s.below hb, Kd.R_below h.k hb⟩
theorem DSz.put (h : DSz w0 W base g vl vt va gu cu gr cr N up rep gk ck K) (h0 : g < w0.heap.size ∧ gu < w0.heap.size ∧ gr < w0.heap.size) (i : Nat) (x : Int) : DSz w0 (W.setCell ⟨gk, i, none⟩ (.int .i64 x)) base g vl vt va gu cu gr cr N up rep gk ck (K.set i x) :=
  ⟨h.s.far h0 (p := ⟨gk, i, none⟩) (Kd.R_base h.k gk rfl) _, (Kd.R_putg h.k (i : Int) x).1⟩
set_option maxRecDepth 100000 in
set_option maxHeartbeats 4000000 in
theorem dsize_any (gk ck : Nat) (hG : DOk w0 base g vl vt va gu cu gr cr N up rep ts args tm R) : ∀ (k : Nat) (K : List Int) (x : Nat) (K' : List Int) (r : Option Int) (w : World),
    sz (netR N ts args tm) R (repL rep) k K x = some (K', r) → Small K → x < N → DSz w0 w base g vl vt va gu cu gr cr N up rep gk ck K →
    Calls Try.prog 111 #[.pointer (some ⟨g, 0, none⟩), .slice (some ⟨gk, 0, none⟩) N ck, .int .i64 x] w fun e w' => e = .returned (.int .i64 (r.getD (-2))) ∧ DSz w0 w' base g vl vt va gu cu gr cr N up rep gk ck K' := by
  have HG := Aside0.mk hG
  clear hG
  intro k
  induction k with
  | zero => intro K x K' r w h; simp [sz] at h
  | succ k ih =>
    intro K x K' r w h hK hx hS
    have HS := Aside0.mk hS
    have HZ := Aside0.mk h
    have HSM := Aside0.mk hK
    have IH := Aside0.mk ih
    obtain ⟨cx, hcx⟩ : ∃ cx, cx = R x := ⟨_, rfl⟩
    have hcl : cx < N := by rw [hcx]; exact HG.out.lt x hx
    have HRP := Aside0.mk (HG.out.rp x hx)
    rw [← hcx] at HRP
    clear hS h hK ih
    go_enter Try.func111, Try.ntmps111
    go_wp2_with fail
    refine (class_any R x HS.out.s HG.out.r hx).mono ?_
    rintro e w1 ⟨rfl, rfl⟩
    rw [← hcx]
    have HCX := Aside0.mk hcx
    clear hcx
    by_cases e0 : rd K cx = -1
    · obtain ⟨d0, _⟩ := cell_row HS.out.k hcl e0
      have hz := HZ.out
      simp only [sz] at hz
      rw [← HCX.out, if_pos e0] at hz
      simp only [Option.some.injEq, Prod.mk.injEq] at hz
      obtain ⟨rfl, rfl⟩ := hz
      clear e0
      go_wp2_with fail
      go_ret
      exact ⟨rfl, HS.out⟩
    · by_cases e1 : rd K cx = 0
      · obtain ⟨d0, f0⟩ := cell_row HS.out.k hcl e1
        obtain ⟨a0, a1, a2, a3, a4⟩ := HS.out.s.cells
        obtain ⟨F, hF⟩ : ∃ F, F = rd rep cx := ⟨_, rfl⟩
        obtain ⟨d1, -⟩ := cell_row HS.out.s.r hcl hF.symm
        have hz := HZ.out
        simp only [sz] at hz
        rw [← HCX.out, if_neg (by omega), if_neg (by omega)] at hz
        rw [show repL rep cx = F from hF.symm] at hz
        rw [← hF] at HRP
        by_cases hf : F < 0
        · have e2 : decide (F < 0) = true := decide_eq_true hf
          rw [if_pos hf] at hz
          simp only [Option.some.injEq, Prod.mk.injEq] at hz
          obtain ⟨rfl, rfl⟩ := hz
          have HS2 := Aside0.mk (HS.out.put HG.out.l cx 1)
          clear e0 e1 hF hf
          go_wp2_with fail
          go_ret
          exact ⟨rfl, HS2.out⟩
        · have e2 : decide (F < 0) = false := decide_eq_false hf
          rw [if_neg hf] at hz
          obtain ⟨f, rfl, hfl, _⟩ := HRP.out (by omega)
          rw [Int.toNat_natCast] at hz
          change (szs (sz (netR N ts args tm) R (repL rep) k) (K.set cx (-1)) ((argR args f).map Int.toNat) 1).bind _ = _ at hz
          cases hq : szs (sz (netR N ts args tm) R (repL rep) k) (K.set cx (-1)) ((argR args f).map Int.toNat) 1 with
          | none => rw [hq] at hz; simp at hz
          | some q =>
            obtain ⟨K2, r2⟩ := q
            rw [hq, Option.bind_some] at hz
            have HK2 := Aside0.mk hq
            have HR2 := Aside0.mk hz
            have HS2 := Aside0.mk (HS.out.put HG.out.l cx (-1))
            have HSM2 := Aside0.mk (HSM.out.set cx (v := -1) (by omega) (by omega))
            obtain ⟨gt, ct, ga, ca, Ax, cx', rfl, rfl, hPX⟩ := HG.out.t.place hfl
            obtain ⟨-, r0, -⟩ := hPX _ HS2.out.s.k
            obtain ⟨b0, b1, b2, b3, b4⟩ := HS2.out.s.cells
            obtain ⟨d2, -⟩ := cell_row HS2.out.s.r hcl hF.symm
            have HPX := Aside0.mk hPX
            have HARG := Aside0.mk (HG.out.arg f)
            clear hPX hf hF e0 e1 hq hz
            generalize argR args f = ax at *
            go_wp2_with fail
            clear d0 f0 d1 e2
            generalize w.setCell ⟨gk, cx, none⟩ (.int .i64 (-1)) = w2 at *
            clear a0 a1 a2 a3 a4
            go_quiet (fail)
            go_wp2_with fail
            clear b0 b1 b2 b3 b4 r0 d2
            replace HS2 := Aside0.mk (HS2.out.below (pw_below_drewN (Below.refl _ _) nq))
            generalize w2.drewN nq = w3 at *
            go_loopg [8, 10] ax.length (fun m a i wr => ∃ (j : Nat) (Ki : List Int) (ai : Int), i = .int .i64 j ∧ a = .int .i64 ai ∧ j ≤ ax.length ∧ 1 ≤ ai ∧ ai ≤ 2001 ∧ Aside0 (m = ax.length - j) ∧ Aside0 (szs (sz (netR N ts args tm) R (repL rep) k) Ki ((ax.drop j).map Int.toNat) ai = some (K2, r2)) ∧ Aside0 (Small Ki) ∧ Aside0 (DSz w0 wr base g vl (.slice (some ⟨gt, 0, none⟩) ts.length ct) (.slice (some ⟨ga, 0, none⟩) ts.length ca) gu cu gr cr N up rep gk ck Ki))
            case atStart => exact ⟨0, _, 1, rfl, rfl, by omega, by omega, by omega, ⟨by omega⟩, ⟨by rw [List.drop_zero]; exact HK2.out⟩, HSM2, HS2⟩
            case round =>
              clear HK2 HSM2 HS2
              obtain ⟨j, Ki, ai, rfl, rfl, hj, ha1, ha2, HM, HK, HSM, HS⟩ := hrel
              by_cases hlt : j < ax.length
              · obtain ⟨y, hy⟩ : ∃ y : Nat, rd ax j = y := ⟨(rd ax j).toNat, by have := (HARG.out.2 _ (rd_mem hlt)).1; omega⟩
                have hyl : y < N := by have := (HARG.out.2 _ (rd_mem hlt)).2; omega
                obtain ⟨-, -, hC⟩ := HPX.out _ HS.out.s.k
                obtain ⟨ad, ex, hx1⟩ := int_at (Kd.R_reads' hC).2.2 j hlt
                cases ex
                rw [hy] at hx1
                have hk := HK.out
                rw [drop_rd ax j hlt, List.map_cons, hy, Int.toNat_natCast] at hk
                simp only [szs] at hk
                cases hq : sz (netR N ts args tm) R (repL rep) k Ki y with
                | none => rw [hq] at hk; simp at hk
                | some q =>
                  obtain ⟨K1, r1⟩ := q
                  rw [hq, Option.bind_some] at hk
                  have HQ := Aside0.mk hq
                  have HKK := Aside0.mk hk
                  have hb1 := (sz_small _ _ _ _ _ _ _ _ HSM.out hq)
                  have HB1 := Aside0.mk hb1
                  clear hq hk hC hy hb1
                  have b0 : (0 : Int) ≤ (j : Int) := by omega
                  have hj6 : j < 6 := by have := HARG.out.1; omega
                  cases r1 with
                  | none =>
                    go_wp2_with fail
                    refine (IH.out Ki y K1 none _ HQ.out HSM.out hyl HS.out).mono ?_
                    rintro e w3 ⟨rfl, hS3⟩
                    have HS3 := Aside0.mk hS3
                    clear hS3
                    simp only [Option.getD_none]
                    go_wp2_with fail
                    go_ret
                    have := HKK.out
                    simp only [Option.some.injEq, Prod.mk.injEq] at this
                    obtain ⟨rfl, rfl⟩ := this
                    have h2 := HR2.out
                    simp only [Option.some.injEq, Prod.mk.injEq] at h2
                    obtain ⟨rfl, rfl⟩ := h2
                    exact ⟨rfl, HS3.out⟩
                  | some m1 =>
                    have hm := HB1.out.2 m1 rfl
                    have hm1 := hm.1
                    have hm2 := hm.2
                    have e9 : (m1 == -2) = false := beq_eq_false_iff_ne.2 (by omega)
                    clear hm
                    go_wp2_with fail
                    refine (IH.out Ki y K1 (some m1) _ HQ.out HSM.out hyl HS.out).mono ?_
                    rintro e w3 ⟨rfl, hS3⟩
                    have HS3 := Aside0.mk hS3
                    clear hS3
                    simp only [Option.getD_some]
                    go_wp2_with fail
                    all_goals
                      go_roundg (ax.length - (j + 1))
                      case measure => have := HM.out; omega
                      case rel =>
                        refine ⟨j + 1, K1, _, by go_num, rfl, by omega, by omega, by omega, ⟨rfl⟩, ⟨?_⟩, ⟨HB1.out.1⟩, HS3⟩
                        have h : szs _ K1 _ (min (ai + m1) 2001) = some (K2, r2) := HKK.out
                        first | rwa [show min (ai + m1) 2001 = 2001 by omega] at h | rwa [show min (ai + m1) 2001 = ai + m1 by omega] at h
              · obtain rfl : j = ax.length := by omega
                have hk := HK.out
                rw [List.drop_length, List.map_nil] at hk
                simp only [szs, Option.some.injEq, Prod.mk.injEq] at hk
                obtain ⟨rfl, rfl⟩ := hk
                have h2 := HR2.out
                simp only [Option.some.injEq, Prod.mk.injEq] at h2
                obtain ⟨rfl, rfl⟩ := h2
                obtain ⟨d0, f0⟩ := cell_row HS.out.k hcl (x := rd Ki cx) rfl
                have HS4 := Aside0.mk (HS.out.put HG.out.l cx ai)
                go_wp2_with fail
                go_ret
                exact ⟨rfl, HS4.out⟩
      · obtain ⟨v, hv⟩ : ∃ v, v = rd K cx := ⟨_, rfl⟩
        obtain ⟨d0, _⟩ := cell_row HS.out.k hcl hv.symm
        rw [← hv] at e0 e1
        have hz := HZ.out
        simp only [sz] at hz
        rw [← HCX.out, ← hv, if_neg e0, if_pos e1] at hz
        simp only [Option.some.injEq, Prod.mk.injEq] at hz
        obtain ⟨rfl, rfl⟩ := hz
        have e2 : (v == -1) = false := beq_eq_false_iff_ne.2 e0
        have e3 : (v != 0) = true := bne_iff_ne.2 e1
        clear e0 e1 hv
        go_wp2_with fail
        go_ret
        exact ⟨rfl, HS.out⟩
end
end Go.Proofs.Ytadjoaipmcbieaa

/-! Y5 -/
namespace Go.Proofs.Ytadjoaipmcbieaa
open Go.RowKit Go.Proofs.YtadjoaipmcbieaaW.PrintWords Go.Proofs.YtadjoaipmcbieaaW.PrintLast Go.Proofs.YtadjoaipmcbieaaW.PrintMore A
set_option linter.unusedSimpArgs false
set_option linter.unusedVariables false
/-- Where telling stands. -/
structure DTd (w0 W : World) (base g : Nat) (vl vt va : Value) (gu cu gr cr N : Nat) (up rep : List Int) (v : Value) (out : List Int) : Prop where
  s : NSt w0 W base g vl vt va gu cu gr cr N up rep
  v : Kd.R (Kd.int .i64) 3 W w0.heap.size (fun _ => True) v out
section
variable {w0 W W' : World} {base g : Nat} {vl vt va : Value} {gu cu gr cr N : Nat} {up rep ts : List Int} {args : List (List Int)} {tm : Nat → List Int} {R : Nat → Nat}
theorem DTd.below {v : Value} {out : List Int} (h : DTd w0 W base g vl vt va gu cu gr cr N up rep v out) (hb : Below W.heap.size W W') : DTd w0 W' base g vl vt va gu cu gr cr N up rep v out := ⟨h.s.below hb, Kd.R_below h.v hb⟩
theorem DTd.app {v v1 : Value} {out out' : List Int} (h : DTd w0 W base g vl vt va gu cu gr cr N up rep v out) (h0 : g < w0.heap.size ∧ gu < w0.heap.size ∧ gr < w0.heap.size)
    (ho : Kd.R (Kd.int .i64) 3 W' w0.heap.size (fun _ => True) v1 out') (hg : W.grownBy W' v.ownBlock) : DTd w0 W' base g vl vt va gu cu gr cr N up rep v1 out' :=
  ⟨h.s.grownNew h0 hg (fun k hk => Kd.R_base h.v k hk), ho⟩
set_option maxRecDepth 100000 in
set_option maxHeartbeats 4000000 in
theorem dtold_any (hG : DOk w0 base g vl vt va gu cu gr cr N up rep ts args tm R) : ∀ (n : Nat) (T : List Int) (x : Nat) (out : List Int) (v : Value) (w : World),
    T.length ≤ n → Unf (netR N ts args tm) R (repL rep) [x] T → x < N → out.length + T.length ≤ 100000 → DTd w0 w base g vl vt va gu cu gr cr N up rep v out →
    Calls Try.prog 108 #[.pointer (some ⟨g, 0, none⟩), v, .int .i64 x] w fun e w' => ∃ v', e = .returned v' ∧ DTd w0 w' base g vl vt va gu cu gr cr N up rep v' (out ++ T) := by
  have HG := Aside0.mk hG
  clear hG
  intro n
  induction n with
  | zero => intro T x out v w h hu; have := hu.len; simp at this; omega
  | succ n ih =>
    intro T x out v w hT hu hx hol hS
    have HS := Aside0.mk hS
    have HU := Aside0.mk hu
    have HT := Aside0.mk (And.intro hT hol)
    have IH := Aside0.mk ih
    obtain ⟨cx, hcx⟩ : ∃ cx, cx = R x := ⟨_, rfl⟩
    have hcl : cx < N := by rw [hcx]; exact HG.out.lt x hx
    have hNb : N ≤ 5000 := HG.out.t.big
    have HRP := Aside0.mk (HG.out.rp x hx)
    rw [← hcx] at HRP
    obtain ⟨A, cv, hvv⟩ := Kd.R_slice hS.v
    subst hvv
    obtain ⟨a0, a1, a2, a3, a4⟩ := HS.out.s.cells
    obtain ⟨F, hF⟩ : ∃ F, F = rd rep cx := ⟨_, rfl⟩
    obtain ⟨d1, -⟩ := cell_row HS.out.s.r hcl hF.symm
    have hws : w0.heap.size ≤ w.heap.size := HS.out.s.k.1
    have HF := Aside0.mk hF
    rw [← hF] at HRP
    clear hS hu ih hT hol
    go_enter Try.func108, Try.ntmps108
    go_wp2_with fail
    refine (class_any R x HS.out.s HG.out.r hx).mono ?_
    rintro e w1 ⟨rfl, rfl⟩
    rw [← hcx]
    have HCX := Aside0.mk hcx
    clear hcx hF
    by_cases hf : F < 0
    · have e2 : decide (F < 0) = true := decide_eq_true hf
      have hu := HU.out
      have HE : Aside0 (T = [-((cx : Int) + 1)]) := by
        cases hu with
        | var _ r => cases r; exact ⟨by rw [HCX.out]; congr 1; omega⟩
        | app h _ => exfalso; rw [← HCX.out] at h; have := HF.out; simp only [repL] at h; omega
      have hol2 : out.length ≤ 100000 := by have := HT.out; omega
      clear hu hf
      go_wp2_with (at_builtin; refine Kd.R_append (Kd.int .i64) (w0 := w) w0.heap.size rfl (.tmp 21) (.tmp 25) 25 3 (.int .i64 0) 8 rfl Try.underlying25 info3 rfl (by decide) (by omega) (.slice A out.length cv) out (-((cx : Int) + 1)) [.int .i64 (-((cx : Int) + 1))] (fun _ => True) (fun _ => False) rfl rfl rfl (fun _ hk => hk.elim) (fun _ _ => trivial) HS.out.v (Below.refl _ _) hws (by omega) ?_; intro v3 w3 ho3 hb3 hg3 hat3; have HS3 := Aside0.mk (HS.out.app HG.out.l ho3 hg3); clear ho3 hb3 hg3 hat3)
      go_ret
      exact ⟨v3, rfl, by rw [HE.out]; exact HS3.out⟩
    · have e2 : decide (F < 0) = false := decide_eq_false hf
      obtain ⟨f, rfl, hfl, _⟩ := HRP.out (by omega)
      have hu := HU.out
      have HE : Aside0 (∃ T', T = rd ts f :: T' ∧ Unf (netR N ts args tm) R (repL rep) ((argR args f).map Int.toNat) T') := by
        cases hu with
        | var h _ => exfalso; rw [← HCX.out] at h; have := HF.out; simp only [repL] at h; omega
        | app h r =>
          have e : (repL rep (R x)).toNat = f := by rw [← HCX.out]; have := HF.out; simp only [repL]; omega
          rw [e] at r ⊢
          rw [List.append_nil] at r
          exact ⟨_, by simp only [netR]; rw [if_pos hfl], r⟩
      obtain ⟨T', rfl, hu'⟩ := HE.out
      have HU' := Aside0.mk hu'
      obtain ⟨gt, ct, ga, ca, Ax, cx', rfl, rfl, hPX⟩ := HG.out.t.place hfl
      obtain ⟨t0, r0, -⟩ := hPX _ HS.out.s.k
      have HPX := Aside0.mk hPX
      have HARG := Aside0.mk (HG.out.arg f)
      have hol2 : out.length ≤ 100000 := by have := HT.out; omega
      have hfn : f < N := by have := HG.out.t.le; omega
      clear hPX hf hu hu' HE
      generalize argR args f = ax at *
      go_wp2_with fail
      go_region_held3 (fun w' => w'.cell? ⟨g, 1, none⟩ = some (.slice (some ⟨gt, 0, none⟩) ts.length ct) ∧ w'.cell? ⟨g, 4, none⟩ = some (.slice (some ⟨gr, 0, none⟩) N cr) ∧ w'.cell? ⟨gr, cx, none⟩ = some (.int .i64 f) ∧ w'.cell? ⟨gt, f, none⟩ = some (.int .i64 (rd ts f))) (first | exact ⟨by assumption, by assumption, by assumption, by assumption⟩ | go_keep)
        (first | (refine Kd.R_append_step (W := w.drew) (Kd.int .i64) (w0 := w.drew) w0.heap.size (by rfl) (.tmp 27) (.tmp 41) 25 3 (.int .i64 0) 8 (by rfl) Try.underlying25 info3 rfl (by decide) (by omega) (.slice A out.length cv) out (rd ts f) [.int .i64 (rd ts f)] (fun _ => True) (fun _ => False) (by rfl) (by rfl) rfl (fun _ hk => hk.elim) (fun _ _ => trivial) HS.out.v (Below.refl _ _) hws (by omega) ?_; intro v3 w3 ho3 hb3 hg3 hat3; have HS3 := Aside0.mk ((HS.out.below (below_drew (Below.refl _ _))).app HG.out.l ho3 hg3); obtain ⟨n0, n1, n2, n3, n4⟩ := HS3.out.s.cells; obtain ⟨n5, -⟩ := cell_row HS3.out.s.r hcl HF.out.symm; obtain ⟨n6, n7, -⟩ := HPX.out _ HS3.out.s.k; clear ho3 hb3 hg3 hat3))
      go_wp2_with fail
      go_quiet (fail)
      go_wp2_with fail
      clear a0 a1 a2 a3 a4 d1 t0 r0 n0 n1 n2 n3 n4 n5 n6 n7
      replace HS3 := Aside0.mk (HS3.out.below (pw_below_drewN (Below.refl _ _) nq))
      generalize w3.drewN nq = w4 at *
      go_loopg [1, 9] ax.length (fun m a i wr => ∃ (j : Nat) (oj Tj : List Int), i = .int .i64 j ∧ j ≤ ax.length ∧ Aside0 (m = ax.length - j) ∧ Aside0 (Unf (netR N ts args tm) R (repL rep) ((ax.drop j).map Int.toNat) Tj) ∧ Aside0 (oj ++ Tj = out ++ rd ts f :: T' ∧ Tj.length ≤ T'.length) ∧ Aside0 (DTd w0 wr base g vl (.slice (some ⟨gt, 0, none⟩) ts.length ct) (.slice (some ⟨ga, 0, none⟩) ts.length ca) gu cu gr cr N up rep a oj))
      case atStart => exact ⟨0, out ++ [rd ts f], T', rfl, by omega, ⟨by omega⟩, ⟨by rw [List.drop_zero]; exact HU'.out⟩, ⟨by simp, Nat.le_refl _⟩, HS3⟩
      case round =>
        clear HU' HS3
        obtain ⟨j, oj, Tj, rfl, hj, HM, HK, HE, HS⟩ := hrel
        obtain ⟨A', c', e⟩ := Kd.R_slice HS.out.v
        subst e
        by_cases hlt : j < ax.length
        · obtain ⟨y, hy⟩ : ∃ y : Nat, rd ax j = y := ⟨(rd ax j).toNat, by have := (HARG.out.2 _ (rd_mem hlt)).1; omega⟩
          have hyl : y < N := by have := (HARG.out.2 _ (rd_mem hlt)).2; omega
          obtain ⟨-, -, hC⟩ := HPX.out _ HS.out.s.k
          obtain ⟨ad, ex, hx1⟩ := int_at (Kd.R_reads' hC).2.2 j hlt
          cases ex
          rw [hy] at hx1
          have hk := HK.out
          rw [drop_rd ax j hlt, List.map_cons, hy, Int.toNat_natCast] at hk
          obtain ⟨U, V, rfl, h1, h2⟩ := Unf.split (xs := [y]) hk
          have HQ := Aside0.mk h1
          have HKK := Aside0.mk h2
          have HLN : Aside0 (U.length ≤ n ∧ oj.length + U.length ≤ 100000 ∧ V.length ≤ T'.length) := ⟨by have h3 := HT.out; have h4 := HE.out; have h5 := congrArg List.length h4.1; simp at h3 h4 h5; omega⟩
          have HE2 : Aside0 ((oj ++ U) ++ V = out ++ rd ts f :: T') := ⟨by rw [List.append_assoc]; exact HE.out.1⟩
          clear hk h1 h2 hC hy
          have hj6 : j < 6 := by have := HARG.out.1; omega
          go_wp2_with fail
          refine (IH.out U y oj _ _ HLN.out.1 HQ.out hyl HLN.out.2.1 HS.out).mono ?_
          rintro e w4 ⟨v4, rfl, hS4⟩
          have HS4 := Aside0.mk hS4
          clear hS4
          go_wp2_with fail
          go_roundg (ax.length - (j + 1))
          case measure => have := HM.out; omega
          case rel => exact ⟨j + 1, oj ++ U, V, by go_num, by omega, ⟨rfl⟩, HKK, ⟨HE2.out, HLN.out.2.2⟩, HS4⟩
        · obtain rfl : j = ax.length := by omega
          have hk := HK.out
          rw [List.drop_length, List.map_nil] at hk
          cases hk
          go_wp2_with fail
          go_ret
          exact ⟨_, rfl, by have h := HE.out.1; rw [List.append_nil] at h; rw [← h]; exact HS.out⟩
end
end Go.Proofs.Ytadjoaipmcbieaa

/-! UW -/
namespace Go.Proofs.Ytadjoaipmcbieaa
open Go.RowKit Go.Proofs.YtadjoaipmcbieaaW.PrintWords A
/-- Variables, made unlike others by d. -/
def tgD (d : Int) (t : List Int) : List Int := t.map fun n => if n < 0 then n - d else n
theorem tgD_zero (t : List Int) : tgD 0 t = t := by
  unfold tgD
  conv => rhs; rw [← List.map_id t]
  apply List.map_congr_left
  intro n _; simp
theorem tg_tgD (ap : Bool) (t : List Int) : tg ap t = tgD (if ap = true then 1000 else 0) t := by
  cases ap
  · simp [tg, tgD_zero]
  · simp [tg, tgD]
theorem tgD_sym {d n : Int} (h : 0 ≤ n) (t : List Int) : tgD d (n :: t) = n :: tgD d t := by simp only [tgD, List.map_cons]; rw [if_neg (by omega)]
theorem tgD_var {d n : Int} (h : n < 0) : tgD d [n] = [n - d] := by simp only [tgD, List.map_cons, List.map_nil]; rw [if_pos h]
theorem tgD_append (d : Int) (t u : List Int) : tgD d (t ++ u) = tgD d t ++ tgD d u := by simp [tgD]
theorem tgD_flatten (d : Int) : ∀ (ts : List (List Int)), tgD d ts.flatten = (ts.map (tgD d)).flatten
  | [] => rfl
  | t :: ts => by rw [List.flatten_cons, tgD_append, tgD_flatten d ts]; rfl
theorem an_neg {l : List S89} {n : Int} (h : n < 0) : an l n = 0 := by unfold an; rw [ar_neg h]; rfl
theorem tgD_isT {l : List S89} {d : Int} (hd : 0 ≤ d) {k : Nat} {t : List Int} (h : IsT (an l) k t) : IsT (an l) k (tgD d t) := by
  induction h with
  | nil => exact .nil
  | @cons k n r _ ih =>
    by_cases hn : n < 0
    · rw [show tgD d (n :: r) = (n - d) :: tgD d r by simp only [tgD, List.map_cons]; rw [if_pos hn]]
      refine .cons ?_
      rw [an_neg (by omega)]
      rw [an_neg hn] at ih; exact ih
    · rw [tgD_sym (by omega)]; exact .cons ih
/-- The subterm at a place: its symbol, its arguments. -/
theorem starts_sub {l : List S89} (hl : GoodL l) {t : List Int} : ∀ {ss : List (List Int)} {q : Nat} {r : List Int}, (∀ s ∈ ss, Ter l s) → t.drop q = ss.flatten ++ r → (starts q ss).map (subL l t) = ss
  | [], _, _, _, _ => rfl
  | s :: ss, q, r, hs, e => by
    rw [List.flatten_cons, List.append_assoc] at e
    simp only [starts, List.map_cons]
    rw [subL_of hl e (hs s (by simp)), starts_sub hl (fun x hx => hs x (by simp [hx])) (r := r) (by rw [← List.drop_drop, e]; simp)]
theorem subL_sym {l : List S89} (hl : GoodL l) {t : List Int} (hT : Ter l t) {p : Nat} (hp : p < t.length) : subL l t p = rd t p :: ((argsL l t p).map (subL l t)).flatten ∧ Ter l (subL l t p) ∧ (argsL l t p).length = an l (rd t p) := by
  obtain ⟨ss, r, e, hn, hs, hT2⟩ := hT.args_at hp
  have e2 : t.drop p = (rd t p :: ss.flatten) ++ r := by rw [drop_rd t p hp, e]; rfl
  have h1 := subL_of hl e2 hT2
  rw [argsL_at hl e hn hs, starts_sub hl hs e, h1]
  refine ⟨rfl, hT2, ?_⟩
  rw [← hn]
  clear e hn hs hT2 e2 h1
  generalize p + 1 = q
  induction ss generalizing q with
  | nil => rfl
  | cons s ss ih => simp [starts, ih]
theorem subL_var {l : List S89} (hl : GoodL l) {t : List Int} (hT : Ter l t) {p : Nat} (hp : p < t.length) (hv : rd t p < 0) : subL l t p = [rd t p] := by
  obtain ⟨h1, _, h3⟩ := subL_sym hl hT hp
  rw [an_neg hv] at h3
  rw [h1, List.eq_nil_of_length_eq_zero h3]; rfl
theorem subL_whole {l : List S89} (hl : GoodL l) {t : List Int} (hT : Ter l t) : subL l t 0 = t := subL_of hl (r := []) (by simp) hT
/-- What the parts stand for. -/
def tmF (tms : List (List Int)) (x : Nat) : List Int := tms.getD x []
theorem tmF_old {tms : List (List Int)} {t : List Int} {x : Nat} (h : x < tms.length) : tmF (tms ++ [t]) x = tmF tms x := by
  simp only [tmF, List.getD_eq_getElem?_getD, List.getElem?_append_left h]
theorem tmF_new {tms : List (List Int)} {t : List Int} : tmF (tms ++ [t]) tms.length = t := by
  simp [tmF, List.getD_eq_getElem?_getD]
theorem ptA_old {parts : List Pt} {p : Pt} {x : Nat} (h : x < parts.length) : ptA (parts ++ [p]) x = ptA parts x := by
  simp only [ptA, List.getD_eq_getElem?_getD, List.getElem?_append_left h]
theorem ptA_new {parts : List Pt} {p : Pt} : ptA (parts ++ [p]) parts.length = p := by
  simp [ptA, List.getD_eq_getElem?_getD]
theorem rd_old {xs : List Int} {a : Int} {k : Nat} (h : k < xs.length) : rd (xs ++ [a]) k = rd xs k := by
  simp only [rd, Int.toNat_natCast, List.getD_eq_getElem?_getD, List.getElem?_append_left h]
theorem rd_new {xs : List Int} {a : Int} : rd (xs ++ [a]) xs.length = a := by
  simp [rd, List.getD_eq_getElem?_getD]
/-- The net as it has been laid so far: all terms before, and the places of t from i on. -/
structure AddOk (l : List S89) (t : List Int) (d : Int) (i : Nat) (parts : List Pt) (tos pl V : List Int) (tms : List (List Int)) : Prop where
  tl : tms.length = parts.length
  tol : tos.length = parts.length
  tof : ∀ k, k < parts.length → rd tos k = (k : Int)
  net : NetOk (an l) (netP parts (tmF tms))
  inj : ∀ x y, x < parts.length → y < parts.length → (ptA parts x).1 < 0 → (ptA parts y).1 < 0 → tmF tms x = tmF tms y → x = y
  nm : ∀ x w, x < parts.length → tmF tms x = [w] → w < 0 → -99 ≤ w ∨ (d = 1000 ∧ w ≤ -1001)
  vr : ∀ v : Nat, 1 ≤ v → v ≤ 99 → (rd V v = -1 ∧ ∀ x, x < parts.length → tmF tms x ≠ [-(v : Int) - d]) ∨ ∃ x : Nat, rd V v = x ∧ x < parts.length ∧ (ptA parts x).1 < 0 ∧ tmF tms x = [-(v : Int) - d]
  vl : V.length = 100
  pll : pl.length = t.length
  plc : ∀ p, i ≤ p → p < t.length → ∃ x : Nat, rd pl p = x ∧ x < parts.length ∧ tmF tms x = tgD d (subL l t p)
  arg : ∀ x, x < parts.length → (ptA parts x).2.length ≤ 6 ∧ ∀ a ∈ (ptA parts x).2, 0 ≤ a ∧ a < parts.length
  var : ∀ x, x < parts.length → (ptA parts x).1 < 0 → (ptA parts x).2 = []
section
variable {l : List S89} {t : List Int} {d : Int} {i : Nat} {parts : List Pt} {tos pl V : List Int} {tms : List (List Int)}
/-- A variable that has stood before. -/
theorem AddOk.old (h : AddOk l t d (i + 1) parts tos pl V tms) (hl : GoodL l) (hT : Ter l t) (hi : i < t.length) {v : Nat} (hv : rd t i = -(v : Int)) (h1 : 1 ≤ v) (h2 : v ≤ 99) (h3 : 0 ≤ rd V v) : AddOk l t d i parts tos (pl.set i (rd V v)) V tms := by
  refine ⟨h.tl, h.tol, h.tof, h.net, h.inj, h.nm, h.vr, h.vl, by rw [List.length_set]; exact h.pll, fun p hp hpt => ?_, h.arg, h.var⟩
  rw [rd_set _ _ _ _ (by rw [h.pll]; exact hi)]
  by_cases e : i = p
  · subst e
    rw [if_pos rfl]
    rcases h.vr v h1 h2 with ⟨e1, _⟩ | ⟨x, e1, e2, e3, e4⟩
    · omega
    · exact ⟨x, e1, e2, by rw [e4, subL_var hl hT hi (by omega), hv, tgD_var (by omega)]⟩
  · rw [if_neg e]; exact h.plc p (by omega) hpt
/-- A part more. -/
theorem AddOk.push (h : AddOk l t d (i + 1) parts tos pl V tms) (hd : 0 ≤ d) (hl : GoodL l) (hT : Ter l t) (hi : i < t.length) {p : Pt} {tm : List Int} (V' : List Int)
    (hp6 : p.2.length ≤ 6 ∧ ∀ a ∈ p.2, 0 ≤ a ∧ a < parts.length)
    (hs : (0 ≤ p.1 ∧ p.2.length = an l p.1 ∧ tm = p.1 :: ((p.2.map Int.toNat).map (tmF tms)).flatten ∧ V' = V) ∨
      (∃ v : Nat, 1 ≤ v ∧ v ≤ 99 ∧ p.1 < 0 ∧ p.2 = [] ∧ tm = [-(v : Int) - d] ∧ rd V v = -1 ∧ V' = V.set v parts.length ∧ (d = 0 ∨ d = 1000)))
    (htm : tm = tgD d (subL l t i)) : AddOk l t d i (parts ++ [p]) (tos ++ [(parts.length : Int)]) (pl.set i parts.length) V' (tms ++ [tm]) := by
  have hTm : IsT (an l) 1 tm := by rw [htm]; exact tgD_isT hd (subL_sym hl hT hi).2.1
  have hlen : (parts ++ [p]).length = parts.length + 1 := by simp
  have hx : ∀ {x : Nat}, x < (parts ++ [p]).length → x < parts.length ∨ x = parts.length := fun hx => by rw [hlen] at hx; omega
  have tO : ∀ {x : Nat}, x < parts.length → tmF (tms ++ [tm]) x = tmF tms x := fun hx => tmF_old (by rw [h.tl]; exact hx)
  have tn : tmF (tms ++ [tm]) parts.length = tm := by rw [← h.tl]; exact tmF_new
  have hfresh : ∀ w, w < 0 → tm = [w] → ∀ x, x < parts.length → tmF tms x ≠ [w] := by
    intro w hw e x hxn
    rcases hs with ⟨s1, _, s3, _⟩ | ⟨v, v1, v2, _, _, s3, s4, _, _⟩
    · rw [s3] at e; injection e with e _; omega
    · rcases h.vr v v1 v2 with ⟨_, q⟩ | ⟨y, q, _⟩
      · rw [← e, s3]; exact q x hxn
      · omega
  refine ⟨by simp [h.tl], by simp [h.tol], fun k hk => ?_, ?_, ?_, ?_, ?_, ?_, by rw [List.length_set]; exact h.pll, ?_, ?_, ?_⟩
  · rcases hx hk with hk | rfl
    · rw [rd_old (by rw [h.tol]; exact hk)]; exact h.tof k hk
    · have := rd_new (xs := tos) (a := (parts.length : Int)); rw [h.tol] at this; exact this
  · refine ⟨h.net.bv, fun x hxn hsx => ?_, fun x hxn => ?_, fun x hxn hsx => ?_, fun x hxn hsx => ?_⟩
    · rcases hx hxn with hxo | rfl
      · simp only [netP] at hsx ⊢
        rw [ptA_old hxo] at hsx ⊢
        obtain ⟨q1, q2⟩ := h.net.arg x hxo hsx
        exact ⟨q1, fun a ha => by have := q2 a ha; simp only [netP] at this; rw [hlen]; omega⟩
      · simp only [netP] at hsx ⊢
        rw [ptA_new] at hsx ⊢
        rcases hs with ⟨_, s2, _, _⟩ | ⟨v, _, _, s1, _⟩
        · refine ⟨by rw [List.length_map]; exact s2, fun a ha => ?_⟩
          obtain ⟨z, hz, rfl⟩ := List.mem_map.1 ha
          have := hp6.2 z hz; rw [hlen]; omega
        · omega
    · rcases hx hxn with hxo | rfl
      · show IsT (an l) 1 (tmF (tms ++ [tm]) x); rw [tO hxo]; exact h.net.tmT x hxo
      · show IsT (an l) 1 (tmF (tms ++ [tm]) parts.length); rw [tn]; exact hTm
    · rcases hx hxn with hxo | rfl
      · simp only [netP] at hsx ⊢
        rw [ptA_old hxo] at hsx ⊢
        rw [tO hxo]
        have q := h.net.tms x hxo hsx
        simp only [netP] at q
        rw [q]
        congr 2
        apply List.map_congr_left
        intro a ha
        have := (h.net.arg x hxo hsx).2 a ha
        exact (tO this).symm
      · simp only [netP] at hsx ⊢
        rw [ptA_new] at hsx ⊢
        rw [tn]
        rcases hs with ⟨_, _, s3, _⟩ | ⟨v, _, _, s1, _⟩
        · conv => lhs; rw [s3]
          congr 2
          apply List.map_congr_left
          intro a ha
          obtain ⟨z, hz, rfl⟩ := List.mem_map.1 ha
          have := hp6.2 z hz
          exact (tO (x := z.toNat) (by omega)).symm
        · omega
    · rcases hx hxn with hxo | rfl
      · simp only [netP] at hsx ⊢
        rw [ptA_old hxo] at hsx
        rw [tO hxo]; exact h.net.tmv x hxo hsx
      · simp only [netP] at hsx ⊢
        rw [ptA_new] at hsx
        rw [tn]
        rcases hs with ⟨s1, _⟩ | ⟨v, v1, _, _, _, s3, _⟩
        · omega
        · exact ⟨_, by omega, s3⟩
  · intro x y hxn hyn sx sy e
    have key : ∀ {z : Nat}, z < parts.length → (ptA (parts ++ [p]) parts.length).1 < 0 → tmF tms z ≠ tm := by
      intro z hz sp
      rw [ptA_new] at sp
      rcases hs with ⟨s1, _⟩ | ⟨v, v1, _, _, _, s3, _⟩
      · omega
      · rw [s3]; exact hfresh _ (by omega) s3 z hz
    rcases hx hxn with hxo | rfl
    · rcases hx hyn with hyo | rfl
      · rw [ptA_old hxo] at sx
        rw [ptA_old hyo] at sy
        rw [tO hxo, tO hyo] at e
        exact h.inj x y hxo hyo sx sy e
      · rw [tO hxo, tn] at e
        exact absurd e (key hxo sy)
    · rcases hx hyn with hyo | rfl
      · rw [tO hyo, tn] at e
        exact absurd e.symm (key hyo sx)
      · rfl
  · intro x w hxn e hw
    rcases hx hxn with hxo | rfl
    · rw [tO hxo] at e; exact h.nm x w hxo e hw
    · rw [tn] at e
      rcases hs with ⟨s1, _, s3, _⟩ | ⟨v, v1, v2, _, _, s3, _, _, s4⟩
      · rw [s3] at e; injection e with e _; omega
      · rw [s3] at e; injection e with e _
        rcases s4 with rfl | rfl
        · exact .inl (by omega)
        · exact .inr ⟨rfl, by omega⟩
  · intro v v1 v2
    have keep : rd V v = rd V' v → ¬ (tm = [-(v : Int) - d]) → (rd V' v = -1 ∧ ∀ x, x < (parts ++ [p]).length → tmF (tms ++ [tm]) x ≠ [-(v : Int) - d]) ∨ ∃ x : Nat, rd V' v = x ∧ x < (parts ++ [p]).length ∧ (ptA (parts ++ [p]) x).1 < 0 ∧ tmF (tms ++ [tm]) x = [-(v : Int) - d] := by
      intro e0 e1
      rw [← e0]
      rcases h.vr v v1 v2 with ⟨q1, q2⟩ | ⟨x, q1, q2, q3, q4⟩
      · refine .inl ⟨q1, fun x hxn => ?_⟩
        rcases hx hxn with hxo | rfl
        · rw [tO hxo]; exact q2 x hxo
        · rw [tn]; exact e1
      · exact .inr ⟨x, q1, by rw [hlen]; omega, by rw [ptA_old q2]; exact q3, by rw [tO q2]; exact q4⟩
    rcases hs with ⟨s1, _, s3, rfl⟩ | ⟨u, u1, u2, s1, _, s3, s4, rfl, _⟩
    · exact keep rfl (fun e => by rw [s3] at e; injection e with e _; omega)
    · by_cases e : u = v
      · subst e
        refine .inr ⟨parts.length, by rw [rd_set _ _ _ _ (by rw [h.vl]; omega), if_pos rfl], by rw [hlen]; omega, by rw [ptA_new]; exact s1, by rw [tn]; exact s3⟩
      · exact keep (by rw [rd_set _ _ _ _ (by rw [h.vl]; omega), if_neg e]) (fun e2 => by rw [s3] at e2; injection e2 with e2 _; omega)
  · rcases hs with ⟨_, _, _, rfl⟩ | ⟨u, _, _, _, _, _, _, rfl, _⟩
    · exact h.vl
    · rw [List.length_set]; exact h.vl
  · intro q hq hqt
    rw [rd_set _ _ _ _ (by rw [h.pll]; exact hi)]
    by_cases e : i = q
    · subst e
      rw [if_pos rfl]
      exact ⟨parts.length, rfl, by rw [hlen]; omega, by rw [tn]; exact htm⟩
    · rw [if_neg e]
      obtain ⟨x, q1, q2, q3⟩ := h.plc q (by omega) hqt
      exact ⟨x, q1, by rw [hlen]; omega, by rw [tO q2]; exact q3⟩
  · intro x hxn
    rw [hlen]
    rcases hx hxn with hxo | rfl
    · rw [ptA_old hxo]
      exact ⟨(h.arg x hxo).1, fun a ha => by have := (h.arg x hxo).2 a ha; omega⟩
    · rw [ptA_new]
      exact ⟨hp6.1, fun a ha => by have := hp6.2 a ha; omega⟩
  · intro x hxn sx
    rcases hx hxn with hxo | rfl
    · rw [ptA_old hxo] at sx ⊢; exact h.var x hxo sx
    · rw [ptA_new] at sx ⊢
      rcases hs with ⟨s1, _⟩ | ⟨v, _, _, _, s2, _⟩
      · omega
      · exact s2
/-- .. a variable's. -/
theorem AddOk.newVar (h : AddOk l t d (i + 1) parts tos pl V tms) (hd : d = 0 ∨ d = 1000) (hl : GoodL l) (hT : Ter l t) (hi : i < t.length) {v : Nat} (hv : rd t i = -(v : Int)) (h1 : 1 ≤ v) (h2 : v ≤ 99) (h3 : rd V v = -1) :
    AddOk l t d i (parts ++ [(rd t i, [])]) (tos ++ [(parts.length : Int)]) (pl.set i parts.length) (V.set v parts.length) (tms ++ [[-(v : Int) - d]]) :=
  h.push (by omega) hl hT hi _ ⟨by simp, by simp⟩ (.inr ⟨v, h1, h2, by simp only; omega, rfl, rfl, h3, rfl, hd⟩) (by rw [subL_var hl hT hi (by omega), hv, tgD_var (by omega)])
/-- .. a symbol's. -/
theorem AddOk.newSym (h : AddOk l t d (i + 1) parts tos pl V tms) (hd : 0 ≤ d) (hl : GoodL l) (hT : Ter l t) (hi : i < t.length) (hs : 0 ≤ rd t i) :
    AddOk l t d i (parts ++ [(rd t i, (argsL l t i).map fun x : Nat => rd pl (x : Int))]) (tos ++ [(parts.length : Int)]) (pl.set i parts.length) V (tms ++ [tgD d (subL l t i)]) := by
  obtain ⟨e1, _, e3⟩ := subL_sym hl hT hi
  have hple : ∀ x ∈ argsL l t i, ∃ z : Nat, rd pl x = z ∧ z < parts.length ∧ tmF tms z = tgD d (subL l t x) := fun x hx => by
    have := argsL_le hl hT hi x hx
    exact h.plc x (by omega) this.2
  refine h.push hd hl hT hi _ ⟨?_, fun a ha => ?_⟩ (.inl ⟨hs, by simp only [List.length_map]; exact e3, ?_, rfl⟩) rfl
  · have := ar_bd hl (rd t i)
    have := an_ar hl (rd t i)
    simp only [List.length_map]; omega
  · obtain ⟨x, hx, rfl⟩ := List.mem_map.1 ha
    obtain ⟨z, hz, hz2, _⟩ := hple x hx
    rw [hz]; omega
  · rw [e1, tgD_sym hs, tgD_flatten, List.map_map, List.map_map, List.map_map]
    congr 2
    apply List.map_congr_left
    intro x hx
    obtain ⟨z, hz, _, hz3⟩ := hple x hx
    simp only [Function.comp_apply]
    rw [hz, Int.toNat_natCast, hz3]
end
end Go.Proofs.Ytadjoaipmcbieaa
namespace Go.Proofs.Ytadjoaipmcbieaa
open Go.RowKit Go.Proofs.YtadjoaipmcbieaaW.PrintWords Go.Proofs.YtadjoaipmcbieaaW.PrintLast Go.Proofs.YtadjoaipmcbieaaW.PrintMore A
theorem info155 : (Try.prog.info? 155).map (fun i => (i.zero, i.size, i.bytes)) = some (some (.agg #[.int .i64 0, .slice none 0 0]), 2, 32) := by kernel_rfl
/-- Where add stands: the graph at g, its own list of the places' parts (block gp), the variables' parts (block vb), another block of such (v2). -/
structure AdSt (W : World) (base g vb gp v2 : Nat) (vp vt : Value) (N c : Nat) (parts : List Pt) (tos pl V : List Int) (cs2 : Array Value) : Prop where
  blk : W.heap[g]? = some (.cells #[vp, vt] 143 (0, 0))
  hb : base ≤ g
  p : Kd.R kpt 155 W base (fun k => k ≠ gp ∧ some k ≠ vt.ownBlock) vp parts
  t : Kd.R (Kd.int .i64) 3 W base (fun k => k ≠ gp) vt tos
  plr : Kd.R (Kd.int .i64) 3 W base (fun k => k = gp) (.slice (some ⟨gp, 0, none⟩) N c) pl
  vbk : W.heap[vb]? = some (.cells (nums .i64 V).toArray 140 (0, 0))
  hvb : base ≤ vb
  o : W.heap[v2]? = some (.cells cs2 140 (0, 0))
  ne : v2 ≠ vb
section
variable {W W' w1 : World} {base g vb gp v2 : Nat} {vp vt vp1 vt1 : Value} {N c : Nat} {parts parts' : List Pt} {tos tos' pl V : List Int} {cs2 : Array Value}
theorem AdSt.below (h : AdSt W base g vb gp v2 vp vt N c parts tos pl V cs2) (hb : Below W.heap.size W W') : AdSt W' base g vb gp v2 vp vt N c parts tos pl V cs2 :=
  ⟨(hb.block _ (blk_lt h.blk)).trans h.blk, h.hb, Kd.R_below h.p hb, Kd.R_below h.t hb, Kd.R_below h.plr hb, (hb.block _ (blk_lt h.vbk)).trans h.vbk, h.hvb, (hb.block _ (blk_lt h.o)).trans h.o, h.ne⟩
theorem AdSt.of_old (h : AdSt W base g vb gp v2 vp vt N c parts tos pl V cs2) (hk : ∀ i, i < W.heap.size → W'.heap[i]? = W.heap[i]?) : AdSt W' base g vb gp v2 vp vt N c parts tos pl V cs2 :=
  ⟨(hk _ (blk_lt h.blk)).trans h.blk, h.hb, Kd.R_step h.p (fun k _ hl => hk k hl), Kd.R_step h.t (fun k _ hl => hk k hl), Kd.R_step h.plr (fun k _ hl => hk k hl), (hk _ (blk_lt h.vbk)).trans h.vbk, h.hvb, (hk _ (blk_lt h.o)).trans h.o, h.ne⟩
theorem AdSt.plBlk (h : AdSt W base g vb gp v2 vp vt N c parts tos pl V cs2) : ∃ cells, W.heap[gp]? = some (.cells cells 3 (0, 0)) := Kd.R_typed h.plr gp rfl
theorem AdSt.cells (h : AdSt W base g vb gp v2 vp vt N c parts tos pl V cs2) : W.cell? ⟨g, 0, none⟩ = some vp ∧ W.cell? ⟨g, 1, none⟩ = some vt := by
  have c0 := cell_of_row W g 0 _ _ _ h.blk
  have c1 := cell_of_row W g 1 _ _ _ h.blk
  exact ⟨c0, c1⟩
theorem AdSt.plCell (h : AdSt W base g vb gp v2 vp vt N c parts tos pl V cs2) {i : Nat} (hi : i < N) {x : Int} (hx : rd pl i = x) : W.cell? ⟨gp, i, none⟩ = some (.int .i64 x) ∧ W.frozen? ⟨gp, i, none⟩ = false := by
  obtain ⟨hx1, hf1⟩ := Kd.R_celln 0 h.plr (i : Int) (by omega) (by omega)
  rw [Int.toNat_natCast] at hx1 hf1
  rw [show rdOf (0 : Int) pl (i : Int) = x from hx] at hx1
  exact ⟨hx1, hf1⟩
theorem AdSt.vCell (h : AdSt W base g vb gp v2 vp vt N c parts tos pl V cs2) {v : Nat} (hv : v < V.length) {x : Int} (hx : rd V v = x) : W.cell? ⟨vb, v, none⟩ = some (.int .i64 x) ∧ W.frozen? ⟨vb, v, none⟩ = false := by
  refine ⟨?_, frozen_of_row h.vbk v⟩
  rw [cell_of_row W vb v _ _ _ h.vbk, ← hx]
  simp [nums, hv, rd, List.getD_eq_getElem?_getD]
theorem AdSt.putPl (h : AdSt W base g vb gp v2 vp vt N c parts tos pl V cs2) (i : Nat) (x : Int) : AdSt (W.setCell ⟨gp, i, none⟩ (.int .i64 x)) base g vb gp v2 vp vt N c parts tos (pl.set i x) V cs2 := by
  obtain ⟨cells, hc⟩ := h.plBlk
  have n1 := blk_ne h.blk hc (by decide)
  have n2 := blk_ne h.vbk hc (by decide)
  have n3 := blk_ne h.o hc (by decide)
  exact ⟨blk_far h.blk (p := ⟨gp, i, none⟩) n1 _, h.hb, Kd.R_far h.p (p := ⟨gp, i, none⟩) (fun k hk => hk.1) _, Kd.R_far h.t (p := ⟨gp, i, none⟩) (fun k hk => hk) _, (Kd.R_putg h.plr (i : Int) x).1,
    blk_far h.vbk (p := ⟨gp, i, none⟩) n2 _, h.hvb, blk_far h.o (p := ⟨gp, i, none⟩) n3 _, h.ne⟩
theorem nums_set (V : List Int) (v : Nat) (x : Int) : ((nums .i64 V).toArray.setIfInBounds v (.int .i64 x)) = (nums .i64 (V.set v x)).toArray := by simp [nums, List.map_set]
theorem AdSt.putV (h : AdSt W base g vb gp v2 vp vt N c parts tos pl V cs2) (v : Nat) (x : Int) : AdSt (W.setCell ⟨vb, v, none⟩ (.int .i64 x)) base g vb gp v2 vp vt N c parts tos pl (V.set v x) cs2 := by
  refine ⟨blk_far h.blk (p := ⟨vb, v, none⟩) (blk_ne h.blk h.vbk (by decide)) _, h.hb, Kd.R_set h.p h.vbk (by decide) v _, Kd.R_set h.t h.vbk (by decide) v _, Kd.R_set h.plr h.vbk (by decide) v _, ?_, h.hvb, blk_far h.o (p := ⟨vb, v, none⟩) h.ne _, h.ne⟩
  rw [← nums_set]
  exact blk_set h.vbk v _
theorem blk_set2 {w : World} {g : Nat} {a b : Value} {t : TypeId} (h : w.heap[g]? = some (.cells #[a, b] t (0, 0))) (u : Value) : (w.setCell ⟨g, 1, none⟩ u).heap[g]? = some (.cells #[a, u] t (0, 0)) := by
  simp [World.setCell, Array.getElem?_modify, h]
/-- g.parts = append(g.parts, ..). -/
theorem AdSt.appP (h : AdSt W base g vb gp v2 vp vt N c parts tos pl V cs2) (hp : Kd.R kpt 155 w1 base (fun k => k ≠ gp ∧ some k ≠ vt.ownBlock) vp1 parts') (hg : W.grownBy w1 vp.ownBlock) : AdSt (w1.setCell ⟨g, 0, none⟩ vp1) base g vb gp v2 vp1 vt N c parts' tos pl V cs2 := by
  have hblk := blk_grown h.blk hg (Kd.R_ne h.p h.blk (by decide))
  exact ⟨blk_set0 hblk _, h.hb, Kd.R_set hp hblk (by decide) 0 _, Kd.R_set (Kd.R_over h.t h.p (by decide) hg) hblk (by decide) 0 _, Kd.R_set (Kd.R_over h.plr h.p (by decide) hg) hblk (by decide) 0 _,
    blk_far (blk_grown h.vbk hg (Kd.R_ne h.p h.vbk (by decide))) (p := ⟨g, 0, none⟩) (blk_ne h.vbk h.blk (by decide)) _, h.hvb, blk_far (blk_grown h.o hg (Kd.R_ne h.p h.o (by decide))) (p := ⟨g, 0, none⟩) (blk_ne h.o h.blk (by decide)) _, h.ne⟩
/-- g.to = append(g.to, ..). -/
theorem AdSt.appT (h : AdSt W base g vb gp v2 vp vt N c parts tos pl V cs2) (ht : Kd.R (Kd.int .i64) 3 w1 base (fun k => k ≠ gp) vt1 tos') (hg : W.grownBy w1 vt.ownBlock) (hat : vt1.ownBlock = vt.ownBlock ∨ ∃ b, vt1.ownBlock = some b ∧ W.heap.size ≤ b) : AdSt (w1.setCell ⟨g, 1, none⟩ vt1) base g vb gp v2 vp vt1 N c parts tos' pl V cs2 := by
  have hblk := blk_grown h.blk hg (Kd.R_ne h.t h.blk (by decide))
  have hpl : Kd.R (Kd.int .i64) 3 w1 base (fun k => k = gp) (.slice (some ⟨gp, 0, none⟩) N c) pl := Kd.R_grown h.plr hg (fun k hk e => h.t.1 k e.symm hk)
  exact ⟨blk_set2 hblk _, h.hb, Kd.R_set (Kd.R_after h.p hg hat) hblk (by decide) 1 _, Kd.R_set ht hblk (by decide) 1 _, Kd.R_set hpl hblk (by decide) 1 _,
    blk_far (blk_grown h.vbk hg (Kd.R_ne h.t h.vbk (by decide))) (p := ⟨g, 1, none⟩) (blk_ne h.vbk h.blk (by decide)) _, h.hvb, blk_far (blk_grown h.o hg (Kd.R_ne h.t h.o (by decide))) (p := ⟨g, 1, none⟩) (blk_ne h.o h.blk (by decide)) _, h.ne⟩
/-- The element that is put into the graph: its arguments lie in newer blocks. -/
theorem kpt_M {B : Nat} {n : Int} {va : Value} {ar : List Int} {ok : Nat → Prop} (h : Kd.R (Kd.int .i64) 3 W B ok va ar) (hB : base ≤ B) : kpt.M W base (fun k => B ≤ k) (n, ar) [.int .i64 n, va] :=
  ⟨[_], [_], rfl, rfl, va, rfl, Kd.R_lower (Kd.R_mono (Kd.R_bound h) (fun _ hk => hk.2.1)) hB⟩
theorem AdSt.lts (h : AdSt W base g vb gp v2 vp vt N c parts tos pl V cs2) {B : Nat} (hB : W.heap.size ≤ B) : ∀ k, B ≤ k → ((k ≠ gp ∧ some k ≠ vt.ownBlock) ∧ some k ≠ vp.ownBlock) := by
  obtain ⟨cells, hc⟩ := h.plBlk
  have l1 := blk_lt hc
  exact fun k hk => ⟨⟨by omega, fun e => by have := Kd.R_lt h.t k e.symm; omega⟩, fun e => by have := Kd.R_lt h.p k e.symm; omega⟩
end
end Go.Proofs.Ytadjoaipmcbieaa

/-! U8 -/
namespace Go.Proofs.Ytadjoaipmcbieaa
open Go.RowKit Go.Proofs.YtadjoaipmcbieaaW.PrintWords Go.Proofs.YtadjoaipmcbieaaW.PrintLast Go.Proofs.YtadjoaipmcbieaaW.PrintMore A
set_option linter.unusedSimpArgs false
set_option linter.unusedVariables false
theorem make_zero2 (N : Nat) (hN : N ≤ 17592186044416) (W : World) : (Instr.makeSlice 24 (.int .i64 N) (.int .i64 N)).run Try.prog W = .ok (.slice (some ⟨W.heap.size, 0, none⟩) N N) (W.alloc (.cells (nums .i64 (List.replicate N 0)).toArray 3)) := by
  obtain ⟨i0, hi, hz0, hz1, hz2⟩ := info_parts info3
  have hr := run_make (P := Try.prog) W 24 3 i0 (.int .i64 0) Try.underlying24 hi hz0 .i64 .i64 N N (by omega) (by omega) (by rw [hz2]; omega) (by omega)
  rw [hz1] at hr
  have e : (madeCells #[.int .i64 0] N) = (nums .i64 (List.replicate N 0)).toArray := by
    apply Array.ext
    · simp [size_madeCells, nums]
    · intro i h1 h2
      simp [madeCells, nums, Nat.mod_one]
  rw [← e]
  simpa [Value.cells] using hr
theorem chk_num {l : List S89} {t : List Int} (h : chk l t = 0) {p : Nat} (hp : p < t.length) : -99 ≤ rd t p ∧ rd t p < l.length := by
  unfold chk at h
  split at h
  · omega
  · have key : ∀ (r : List Int) (z : Int), bads l.length r z = 0 → ∀ n ∈ r, -99 ≤ n ∧ n < l.length := by
      intro r
      induction r with
      | nil => intro z _ n hn; simp at hn
      | cons m r ih =>
        intro z hz n hn
        rw [bads] at hz
        split at hz
        · rename_i h0
          rcases List.mem_cons.1 hn with rfl | hn
          · unfold badN at h0; split at h0
            · omega
            · split at h0 <;> omega
          · exact ih z hz n hn
        · contradiction
    exact key t _ h _ (rd_mem hp)
/-- The pointed-to list of a call's own zeroes. -/
theorem own_zeros {base : Nat} (W : World) (N : Nat) (hb : base ≤ W.heap.size) (hN : N ≤ 100000) : Kd.R (Kd.int .i64) 3 (W.alloc (.cells (nums .i64 (List.replicate N 0)).toArray 3)) base (fun k => k = W.heap.size) (.slice (some ⟨W.heap.size, 0, none⟩) N N) (List.replicate N 0) := by
  have h := ints_own (heap_alloc_new W (.cells (nums .i64 (List.replicate N 0)).toArray 3)) (show (List.replicate N (0 : Int)).length = N by simp) hb (by omega)
  exact ⟨fun k hk => by simpa [Value.ownBlock] using hk.symm, h.2⟩
set_option maxRecDepth 100000 in
set_option maxHeartbeats 8000000 in
theorem add_any {g vb v2 sg P0 : Nat} {l : List S89} {t : List Int} {A : Option Addr} {c : Nat} {d : Int} {vp0 vt0 : Value} {parts0 : List Pt} {tos0 V0 : List Int} {tms0 : List (List Int)} {cs2 : Array Value} (b0 : Nat) (w00 w : World)
    (hb0 : b0 = w00.heap.size) (hB : Below b0 w00 w) (hs : SigC w00 sg l) (hl : GoodL l) (ht : Kd.C (Kd.int .i64) w00 A t.length t) (hc : chk l t = 0)
    (hg : Gr w b0 g vp0 vt0 parts0 tos0) (hvb : w.heap[vb]? = some (.cells (nums .i64 V0).toArray 140 (0, 0))) (hvb0 : b0 ≤ vb) (hv2 : w.heap[v2]? = some (.cells cs2 140 (0, 0))) (hne : v2 ≠ vb) (hd : d = 0 ∨ d = 1000)
    (hP : parts0.length = P0) (hP2 : P0 ≤ 2000) (hA : ∀ pl : List Int, pl.length = t.length → AddOk l t d t.length parts0 tos0 pl V0 tms0) :
    Calls Try.prog 112 #[.pointer (some ⟨g, 0, none⟩), .pointer (some ⟨sg, 0, none⟩), .slice A t.length c, .pointer (some ⟨vb, 0, none⟩)] w fun e w' => ∃ (x : Nat) (vp vt : Value) (parts : List Pt) (tos pl V : List Int) (tms : List (List Int)), e = .returned (.int .i64 x) ∧
      Gr w' b0 g vp vt parts tos ∧ w'.heap[vb]? = some (.cells (nums .i64 V).toArray 140 (0, 0)) ∧ w'.heap[v2]? = some (.cells cs2 140 (0, 0)) ∧ Below b0 w00 w' ∧ parts.length ≤ P0 + t.length ∧ AddOk l t d 0 parts tos pl V tms ∧ x < parts.length ∧ tmF tms x = tgD d t ∧
      P0 ≤ parts.length ∧ ∀ z, z < P0 → tmF tms z = tmF tms0 z := by
  have HT := Aside0.mk (chk_ter hl hc)
  have HN := Aside0.mk (fun p hp => chk_num (p := p) hc hp)
  have h2000 := chk_len hc
  have hpos : 0 < t.length := HT.out.pos
  have mk := make_zero2 t.length (by omega)
  have HB := Aside0.mk hB
  have HS := Aside0.mk hs
  have HL := Aside0.mk hl
  have HTC := Aside0.mk ht
  have HC := Aside0.mk hc
  have HG := Aside0.mk hg
  have HVB := Aside0.mk hvb
  have HV2 := Aside0.mk hv2
  have HA := Aside0.mk hA
  have HB0 := Aside0.mk hb0
  have HD := Aside0.mk hd
  have HP0 := Aside0.mk hP
  have hgs : b0 ≤ w.heap.size := by rw [hb0]; exact hB.size
  clear hB hs hl ht hc hg hvb hv2 hA hb0 hd hP
  go_enter Try.func112, Try.ntmps112
  go_wp2_with fail
  clear mk
  have H1 : Aside0 (AdSt (w.alloc (.cells (nums .i64 (List.replicate t.length 0)).toArray 3)) b0 g vb w.heap.size v2 vp0 vt0 t.length t.length parts0 tos0 (List.replicate t.length 0) V0 cs2) :=
    ⟨(Below.heap_alloc _ _ _ (blk_lt HG.out.blk)).trans HG.out.blk, HG.out.hb, Kd.R_below (Kd.R_mono (Kd.R_bound HG.out.p) (fun k hk => ⟨by have := hk.2.2.1; omega, hk.1⟩)) (below_alloc (Below.refl _ _) _), Kd.R_below (Kd.R_mono (Kd.R_bound HG.out.t) (fun k hk => by have := hk.2.2.1; omega)) (below_alloc (Below.refl _ _) _),
     own_zeros w t.length hgs (by omega), (Below.heap_alloc _ _ _ (blk_lt HVB.out)).trans HVB.out, hvb0, (Below.heap_alloc _ _ _ (blk_lt HV2.out)).trans HV2.out, hne⟩
  have HB1 : Aside0 (Below b0 w00 (w.alloc (.cells (nums .i64 (List.replicate t.length 0)).toArray 3))) := ⟨HB.out.alloc hgs _⟩
  have HAK := Aside0.mk (HA.out (List.replicate t.length 0) (by simp))
  clear HG HVB HV2 HB HA
  generalize w.alloc (.cells (nums .i64 (List.replicate t.length 0)).toArray 3) = w1 at *
  generalize w.heap.size = gp at *
  go_loopg [10] t.length (fun m a wr => ∃ (z : Int) (vp vt : Value) (parts : List Pt) (tos pl V : List Int) (tms : List (List Int)), a = .int .i64 z ∧ Aside0 (z = (m : Int) - 1) ∧ Aside0 (m ≤ t.length) ∧ Aside0 (AdSt wr b0 g vb gp v2 vp vt t.length t.length parts tos pl V cs2) ∧ Aside0 (AddOk l t d m parts tos pl V tms) ∧ Aside0 (Below b0 w00 wr) ∧
    Aside0 (parts.length + m ≤ P0 + t.length ∧ P0 ≤ parts.length) ∧ Aside0 (∀ z, z < P0 → tmF tms z = tmF tms0 z))
  case atStart => exact ⟨_, vp0, vt0, parts0, tos0, _, V0, tms0, rfl, ⟨rfl⟩, ⟨Nat.le_refl _⟩, H1, HAK, HB1, ⟨by have := HP0.out; omega, by have := HP0.out; omega⟩, ⟨fun _ _ => rfl⟩⟩
  case round =>
    clear H1 HAK HB1
    obtain ⟨z, vp, vt, parts, tos, pl, V, tms, rfl, HZ, HM, HA, HK, HB, HP, HPRE⟩ := hrel
    obtain ⟨Ap, cp, e⟩ := Kd.R_slice HA.out.p
    subst e
    obtain ⟨At, ct, e⟩ := Kd.R_slice HA.out.t
    subst e
    rcases Nat.eq_zero_or_pos gk with rfl | hgk
    · obtain rfl : z = -1 := by have := HZ.out; omega
      obtain ⟨x, hx0, hx1, hx2⟩ := HK.out.plc 0 (Nat.le_refl _) hpos
      obtain ⟨p0, _⟩ := HA.out.plCell hpos hx0
      have HX := Aside0.mk (And.intro hx1 hx2)
      clear hx0 hx1 hx2
      go_wp2_with fail
      go_ret
      exact ⟨x, _, _, parts, tos, pl, V, tms, rfl, ⟨HA.out.blk, HA.out.hb, Kd.R_mono HA.out.p (fun _ hk => hk.2), Kd.R_mono HA.out.t (fun _ _ => trivial)⟩, HA.out.vbk, HA.out.o, HB.out, by have := HP.out; omega, HK.out, HX.out.1, by rw [HX.out.2, subL_whole HL.out HT.out], HP.out.2, HPRE.out⟩
    · obtain ⟨j, rfl⟩ : ∃ j, gk = j + 1 := ⟨gk - 1, by omega⟩
      obtain rfl : z = (j : Int) := by have := HZ.out; omega
      have hj : j < t.length := by have := HM.out; omega
      obtain ⟨ad, e, hx⟩ := int_at (Kd.C_below HTC.out (by rw [← HB0.out]; exact HB.out)) j hj
      cases e
      have hnum := HN.out j hj
      clear hgk
      by_cases hneg : rd t j < 0
      · obtain ⟨v, hv⟩ : ∃ v : Nat, rd t j = -(v : Int) := ⟨(-(rd t j)).toNat, by omega⟩
        rw [hv] at hx
        have hv1 : 1 ≤ v := by omega
        have hv2' : v ≤ 99 := by omega
        have HV := Aside0.mk hv
        obtain ⟨xv, hxv⟩ : ∃ xv, rd V v = xv := ⟨_, rfl⟩
        have HXV := Aside0.mk hxv
        obtain ⟨c0, f0⟩ := HA.out.vCell (v := v) (by rw [HK.out.vl]; omega) hxv
        clear hneg hnum hv hxv
        by_cases h0 : 0 ≤ xv
        · obtain ⟨p0, p1⟩ := HA.out.plCell hj rfl
          have HA2 := Aside0.mk (HA.out.putPl j xv)
          have HK2 := Aside0.mk (HK.out.old HL.out HT.out hj HV.out hv1 hv2' (by rw [HXV.out]; exact h0))
          go_wp2_with fail
          go_roundg j
          case measure => omega
          case rel => exact ⟨_, _, _, parts, tos, _, V, tms, rfl, ⟨by omega⟩, ⟨by omega⟩, ⟨by have := HA2.out; exact this⟩, ⟨by have := HK2.out; rw [HXV.out] at this; exact this⟩, ⟨HB.out.setCell (p := ⟨gp, j, none⟩) (by have := Kd.R_base HA.out.plr gp rfl; exact this) _⟩, ⟨by have := HP.out; omega, HP.out.2⟩, HPRE⟩
        · have hxm : xv = -1 := by
            rcases HK.out.vr v hv1 hv2' with ⟨e, _⟩ | ⟨y, e, _⟩
            · rw [← HXV.out]; exact e
            · rw [HXV.out] at e; omega
          subst hxm
          clear h0
          go_upto_region 9 with fail
          have HA0 := HA
          have HLT := Aside0.mk (HA.out.lts (Nat.le_refl _))
          have HGP : Aside0 (gp < wr.heap.size ∧ vb < wr.heap.size ∧ g < wr.heap.size) := ⟨(by obtain ⟨cells, hc⟩ := HA.out.plBlk; exact blk_lt hc), blk_lt HA.out.vbk, blk_lt HA.out.blk⟩
          replace HA := Aside0.mk (HA.out.below (below_alloc (Below.refl _ _) (.cells #[.int .i64 (-(v : Int)), .slice none 0 0] 155)))
          have HX := Aside0.mk (heap_alloc_new wr (.cells #[.int .i64 (-(v : Int)), .slice none 0 0] 155))
          have HZS : Aside0 ((wr.alloc (.cells #[.int .i64 (-(v : Int)), .slice none 0 0] 155)).heap.size = wr.heap.size + 1) := ⟨by simp⟩
          replace HB : Aside0 (Below b0 w00 (wr.alloc (.cells #[.int .i64 (-(v : Int)), .slice none 0 0] 155))) := ⟨HB.out.alloc (Nat.le_trans HA.out.hb (Nat.le_of_lt HGP.out.2.2)) _⟩
          obtain ⟨w5, hw5⟩ : ∃ w5, w5 = wr.alloc (.cells #[.int .i64 (-(v : Int)), .slice none 0 0] 155) := ⟨_, rfl⟩
          rw [← hw5] at HA HX HB HZS ⊢
          have HKW : Aside0 (∀ i, i < wr.heap.size → w5.heap[i]? = wr.heap[i]?) := ⟨fun i hi => by rw [hw5]; exact Below.heap_alloc _ _ _ hi⟩
          clear hw5
          generalize hbx : wr.heap.size = bx at *
          have HBX0 := Aside0.mk hbx
          clear hbx
          obtain ⟨va, hva⟩ : ∃ va : Value, va = .slice none 0 0 := ⟨_, rfl⟩
          obtain ⟨ar, har⟩ : ∃ ar : List Int, ar = [] := ⟨_, rfl⟩
          have HR : Aside0 (Kd.R (Kd.int .i64) 3 w5 (bx + 1) (fun k => bx + 1 ≤ k) va ar) := ⟨by rw [hva, har]; exact Kd.R_nil _ _ _ _ _⟩
          rw [← hva] at HX
          have HAR := Aside0.mk har
          have HBX : Aside0 (bx ≤ bx + 1 ∧ b0 ≤ bx) := ⟨by omega, by have := HA.out.hb; have := HGP.out; omega⟩
          clear hva har c0 f0
          obtain ⟨p0, p1⟩ := HA.out.plCell hj rfl
          obtain ⟨q0, q1⟩ := HA.out.cells
          have HBP : Aside0 (b0 ≤ gp) := ⟨Kd.R_base HA.out.plr gp rfl⟩
          have HA6 := Aside0.mk (HA.out.putPl j (parts.length : Int))
          have HX6 := Aside0.mk (blk_far HX.out (p := ⟨gp, j, none⟩) (by have := HGP.out; show bx ≠ gp; omega) (.int .i64 (parts.length : Int)))
          have HR6 := Aside0.mk (Kd.R_far HR.out (p := ⟨gp, j, none⟩) (fun k hk => by have := HGP.out; have := HBX.out; show k ≠ gp; omega) (.int .i64 (parts.length : Int)))
          have HB6 : Aside0 (Below b0 w00 (w5.setCell ⟨gp, j, none⟩ (.int .i64 (parts.length : Int)))) := ⟨HB.out.setCell (p := ⟨gp, j, none⟩) HBP.out _⟩
          have hpl5 : parts.length ≤ 4000 := by have := HP.out; omega
          go_upto_region 18 with fail
          clear p0 p1 q0 q1
          obtain ⟨w6, hw6⟩ : ∃ w6, w6 = w5.setCell ⟨gp, j, none⟩ (.int .i64 (parts.length : Int)) := ⟨_, rfl⟩
          rw [← hw6] at HA6 HX6 HR6 HB6 ⊢
          clear hw6
          obtain ⟨p0, _⟩ := HA6.out.plCell hj (x := (parts.length : Int)) (by rw [rd_set _ _ _ _ (by rw [HK.out.pll]; exact hj), if_pos rfl])
          obtain ⟨c0, f0⟩ := HA6.out.vCell (v := v) (by rw [HK.out.vl]; omega) rfl
          have HA7 := Aside0.mk (HA6.out.putV v (parts.length : Int))
          have HX7 := Aside0.mk (blk_far HX6.out (p := ⟨vb, v, none⟩) (by have := HGP.out; show bx ≠ vb; omega) (.int .i64 (parts.length : Int)))
          have HR7 := Aside0.mk (Kd.R_far HR6.out (p := ⟨vb, v, none⟩) (fun k hk => by have := HGP.out; have := HBX.out; show k ≠ vb; omega) (.int .i64 (parts.length : Int)))
          have HB7 : Aside0 (Below b0 w00 (w6.setCell ⟨vb, v, none⟩ (.int .i64 (parts.length : Int)))) := ⟨HB6.out.setCell (p := ⟨vb, v, none⟩) HA6.out.hvb _⟩
          have hvl : v < 100 := by omega
          have hvi : (v : Int) < 100 := by omega
          have hvj : (0 : Int) ≤ (v : Int) := by omega
          have hji : (j : Int) < (t.length : Int) := by omega
          have hwv : IntKind.i64.wrap (v : Int) = v := by rw [i64_w]; exact wrap_id (by omega) (by omega)
          go_still_tail 9, (by kernel_rfl)
          change wpList _ _ _ _ _ w6.drew
          replace c0 : w6.drew.cell? ⟨vb, v, none⟩ = _ := c0
          replace f0 : w6.drew.frozen? ⟨vb, v, none⟩ = false := f0
          go_upto_region 19 with fail
          clear c0 f0 p0
          obtain ⟨w7, hw7⟩ : ∃ w7, w7 = (w6.setCell ⟨vb, v, none⟩ (.int .i64 (parts.length : Int))).drew := ⟨_, rfl⟩
          replace HA7 : Aside0 (AdSt w7 b0 g vb gp v2 (.slice Ap parts.length cp) (.slice At tos.length ct) t.length t.length parts tos (pl.set j (parts.length : Int)) (V.set v (parts.length : Int)) cs2) := ⟨by rw [hw7]; exact HA7.out.below (below_drew (Below.refl _ _))⟩
          replace HX7 : Aside0 (w7.heap[bx]? = some (.cells #[.int .i64 (-(v : Int)), va] 155 (0, 0))) := ⟨by rw [hw7]; exact HX7.out⟩
          replace HR7 : Aside0 (Kd.R (Kd.int .i64) 3 w7 (bx + 1) (fun k => (bx + 1) ≤ k) va ar) := ⟨by rw [hw7]; exact HR7.out⟩
          replace HB7 : Aside0 (Below b0 w00 w7) := ⟨by rw [hw7]; exact HB7.out.drew⟩
          rw [← hw7]
          clear hw7
          clear HA6 HX6 HR6 HB6
          clear HA HX HR HB
          obtain ⟨c0, _⟩ := HA7.out.cells
          have c1 := cell_of_row w7 bx 0 _ _ _ HX7.out
          have c2 := cell_of_row w7 bx 1 _ _ _ HX7.out
          simp at c1 c2
          have hb8 : b0 ≤ w7.drew.heap.size := by have := blk_lt HA7.out.blk; have := HA7.out.hb; show b0 ≤ w7.heap.size; omega
          refine start_ (n := 11) (S := fun w' => w'.cell? ⟨g, 0, none⟩ = some (.slice Ap parts.length cp) ∧ w'.cell? ⟨bx, 0, none⟩ = some (.int .i64 (-(v : Int))) ∧ w'.cell? ⟨bx, 1, none⟩ = some va) (ds := [10]) #[false, false, false, false, false, false, false, false, false, false, false] (by kernel_rfl) rfl rfl ⟨c0, c1, c2⟩ (fun hHeld => ?_)
          replace HA7 : Aside0 (AdSt w7.drew b0 g vb gp v2 (.slice Ap parts.length cp) (.slice At tos.length ct) t.length t.length parts tos (pl.set j (parts.length : Int)) (V.set v (parts.length : Int)) cs2) := ⟨HA7.out.below (below_drew (Below.refl _ _))⟩
          replace HX7 : Aside0 (w7.drew.heap[bx]? = some (.cells #[.int .i64 (-(v : Int)), va] 155 (0, 0))) := ⟨HX7.out⟩
          replace HR7 : Aside0 (Kd.R (Kd.int .i64) 3 w7.drew (bx + 1) (fun k => (bx + 1) ≤ k) va ar) := ⟨HR7.out⟩
          replace HB7 : Aside0 (Below b0 w00 w7.drew) := ⟨HB7.out.drew⟩
          generalize w7.drew = w8 at *
          clear c0 c1 c2
          refine pure_ (i := 0) (N := some 97) (v := ?_) (a' := ?_) #[true, false, false, false, false, false, false, false, false, false, false] rfl rfl (by kernel_rfl) (fun _ _ _ h => h) (Or.inl ⟨by rfl, ?_⟩) ?_ ?_
          rotate_left
          · intro w'
            go_simp
            with_reducible rfl
          rotate_left
          · simp only [Act.put, List.setIfInBounds_toArray, List.set_cons_zero, List.set_cons_succ, i64_w, i32_w]
            rfl
          refine pure_ (i := 1) (N := some 98) (v := ?_) (a' := ?_) #[true, true, false, false, false, false, false, false, false, false, false] rfl rfl (by kernel_rfl) (fun _ _ _ h => h) (Or.inl ⟨by rfl, ?_⟩) ?_ ?_
          rotate_left
          · intro w'
            go_simp
            with_reducible rfl
          rotate_left
          · simp only [Act.put, List.setIfInBounds_toArray, List.set_cons_zero, List.set_cons_succ, i64_w, i32_w]
            rfl
          refine pure_ (i := 2) (N := some 99) (v := ?_) (a' := ?_) #[true, true, true, false, false, false, false, false, false, false, false] rfl rfl (by kernel_rfl) (fun _ _ _ h => h) (Or.inl ⟨by rfl, ?_⟩) ?_ ?_
          rotate_left
          · intro w'
            go_simp
            with_reducible rfl
          rotate_left
          · simp only [Act.put, List.setIfInBounds_toArray, List.set_cons_zero, List.set_cons_succ, i64_w, i32_w]
            rfl
          refine pure_ (i := 3) (N := some 100) (v := ?_) (a' := ?_) #[true, true, true, true, false, false, false, false, false, false, false] rfl rfl (by kernel_rfl) (fun _ _ _ h => h) (Or.inl ⟨by rfl, ?_⟩) ?_ ?_
          rotate_left
          · intro w'
            go_simp
            with_reducible rfl
          rotate_left
          · simp only [Act.put, List.setIfInBounds_toArray, List.set_cons_zero, List.set_cons_succ, i64_w, i32_w]
            rfl
          refine take_ (i := 4) (N := some 101) (v := ?_) (a' := ?_) #[true, true, true, true, true, false, false, false, false, false, false] rfl rfl (by kernel_rfl) (fun _ _ _ h => h) (Or.inl ⟨by rfl, ?_⟩) hHeld ?_ ?_
          rotate_left
          · rintro w' ⟨s0, s1, s2⟩
            go_simp
            with_reducible rfl
          rotate_left
          · simp only [Act.put, List.setIfInBounds_toArray, List.set_cons_zero, List.set_cons_succ, i64_w, i32_w]
            rfl
          refine take_ (i := 5) (N := some 102) (v := ?_) (a' := ?_) #[true, true, true, true, true, true, false, false, false, false, false] rfl rfl (by kernel_rfl) (fun _ _ _ h => h) (Or.inl ⟨by rfl, ?_⟩) hHeld ?_ ?_
          rotate_left
          · rintro w' ⟨s0, s1, s2⟩
            go_simp
            with_reducible rfl
          rotate_left
          · simp only [Act.put, List.setIfInBounds_toArray, List.set_cons_zero, List.set_cons_succ, i64_w, i32_w]
            rfl
          refine one_ (i := 6) (N := some 103) #[true, true, true, true, true, true, true, false, false, false, false] rfl rfl (by kernel_rfl) (by decide) (fun K hK => ?_)
          refine value_ (w1 := ?_) (v := ?_) (by rfl) rfl ?_ ?_
          rotate_left 2
          · go_simp
            constructor
            · rfl
            · rfl
          refine hK.out _ _ ⟨(cell_alloc hHeld.1 _), (cell_alloc hHeld.2.1 _), (cell_alloc hHeld.2.2 _)⟩ (fun hHeld => ?_)
          clear hK K
          refine norm_ (a' := ?_) ?_ ?_
          rotate_left
          · show Act.put _ (some 103) _ = _
            simp only [Act.put, List.setIfInBounds_toArray, List.set_cons_zero, List.set_cons_succ, i64_w, i32_w]
            rfl
          refine one_ (i := 7) (N := some 104) #[true, true, true, true, true, true, true, true, false, false, false] rfl rfl (by kernel_rfl) (by decide) (fun K hK => ?_)
          refine Kd.R_append_step (W := w8) kpt (w0 := w8) b0 (by rfl) (.tmp 101) (.tmp 103) 141 155 (.agg #[.int .i64 0, .slice none 0 0]) 32 (by rfl) Try.underlying141 info155 rfl (by decide) (by omega) (.slice Ap parts.length cp) parts ((-(v : Int)), ar) [.int .i64 (-(v : Int)), va] (fun k => k ≠ gp ∧ some k ≠ (Value.slice At tos.length ct).ownBlock) (fun k => (bx + 1) ≤ k) (by rfl) (by rfl) (kpt_M HR7.out (by have := HB7.out.size; have := HGP.out; have := HBX.out; omega)) (fun k hk => HLT.out k (by have := HBX.out; omega)) (fun k hk => (HA7.out.lts (Nat.le_refl _) k hk).1) HA7.out.p (Below.refl _ _) hb8 (by omega) ?_
          intro v3 w3 ho3 hb3 hg3 hat3
          have hG3 := blk_grown HA7.out.blk hg3 (Kd.R_ne HA7.out.p HA7.out.blk (by decide))
          have hX3 := blk_grown HX7.out hg3 (fun e => (HLT.out bx (Nat.le_refl _)).2 e)
          have c03 := cell_of_row w3 g 0 _ _ _ hG3
          have f03 := frozen_of_row hG3 0
          have HA9 := Aside0.mk (HA7.out.appP ho3 hg3)
          have HB9 : Aside0 (Below b0 w00 (w3.setCell ⟨g, 0, none⟩ v3)) := ⟨(HB7.out.trans hb3).setCell (p := ⟨g, 0, none⟩) HA7.out.hb _⟩
          obtain ⟨A3, c3, e3⟩ := Kd.R_slice ho3
          subst e3
          rw [List.length_append, List.length_singleton] at ho3 hat3 HA9 HB9 ⊢
          simp at c03
          refine hK.out _ _ ⟨c03, (cell_of_row w3 bx 0 _ _ _ hX3), (cell_of_row w3 bx 1 _ _ _ hX3)⟩ (fun hHeld => ?_)
          clear hK K
          refine norm_ (a' := ?_) ?_ ?_
          rotate_left
          · show Act.put _ (some 104) _ = _
            simp only [Act.put, List.setIfInBounds_toArray, List.set_cons_zero, List.set_cons_succ, i64_w, i32_w]
            rfl
          refine pure_ (i := 8) (N := some 105) (v := ?_) (a' := ?_) #[true, true, true, true, true, true, true, true, true, false, false] rfl rfl (by kernel_rfl) (fun _ _ _ h => h) (Or.inl ⟨by rfl, ?_⟩) ?_ ?_
          rotate_left
          · intro w'
            go_simp
            with_reducible rfl
          rotate_left
          · simp only [Act.put, List.setIfInBounds_toArray, List.set_cons_zero, List.set_cons_succ, i64_w, i32_w]
            rfl
          refine pure_ (i := 9) (N := some 106) (v := ?_) (a' := ?_) #[true, true, true, true, true, true, true, true, true, true, false] rfl rfl (by kernel_rfl) (fun _ _ _ h => h) (Or.inl ⟨by rfl, ?_⟩) ?_ ?_
          rotate_left
          · intro w'
            go_simp
            with_reducible rfl
          rotate_left
          · simp only [Act.put, List.setIfInBounds_toArray, List.set_cons_zero, List.set_cons_succ, i64_w, i32_w]
            rfl
          refine last_ (i := 10) (N := none) #[true, true, true, true, true, true, true, true, true, true, true] rfl rfl (by kernel_rfl) (by decide) (fun K hK => ?_)
          refine skip_ (w1 := ?_) (by rfl) rfl ?_ ?_
          rotate_left
          · go_simp
            rfl
          refine hK.out _ _ ?_
          clear hK K
          refine done_ (by kernel_rfl) ?_
          go_upto_region 20 with fail
          obtain ⟨w9, hw9⟩ : ∃ w9, w9 = w3.setCell ⟨g, 0, none⟩ (.slice A3 (parts.length + 1) c3) := ⟨_, rfl⟩
          rw [← hw9] at HA9 HB9 ⊢
          clear hw9 f03
          obtain ⟨_, c0⟩ := HA9.out.cells
          obtain ⟨p0, _⟩ := HA9.out.plCell hj (x := (parts.length : Int)) (by rw [rd_set _ _ _ _ (by rw [HK.out.pll]; exact hj), if_pos rfl])
          have hb9 : b0 ≤ w9.drew.heap.size := by have := blk_lt HA9.out.blk; have := HA9.out.hb; show b0 ≤ w9.heap.size; omega
          have htl : tos.length ≤ 4000 := by rw [HK.out.tol]; exact hpl5
          refine start_ (n := 14) (S := fun w' => w'.cell? ⟨g, 1, none⟩ = some (.slice At tos.length ct) ∧ w'.cell? ⟨gp, j, none⟩ = some (.int .i64 (parts.length : Int))) (ds := [13]) #[false, false, false, false, false, false, false, false, false, false, false, false, false, false] (by kernel_rfl) rfl rfl ⟨c0, p0⟩ (fun hHeld => ?_)
          replace HA9 : Aside0 (AdSt w9.drew b0 g vb gp v2 (.slice A3 (parts.length + 1) c3) (.slice At tos.length ct) t.length t.length (parts ++ [((-(v : Int)), ar)]) tos (pl.set j (parts.length : Int)) (V.set v (parts.length : Int)) cs2) := ⟨HA9.out.below (below_drew (Below.refl _ _))⟩
          replace HB9 : Aside0 (Below b0 w00 w9.drew) := ⟨HB9.out.drew⟩
          generalize w9.drew = w10 at *
          clear c0 p0
          refine pure_ (i := 0) (N := some 107) (v := ?_) (a' := ?_) #[true, false, false, false, false, false, false, false, false, false, false, false, false, false] rfl rfl (by kernel_rfl) (fun _ _ _ h => h) (Or.inl ⟨by rfl, ?_⟩) ?_ ?_
          rotate_left
          · intro w'
            go_simp
            with_reducible rfl
          rotate_left
          · simp only [Act.put, List.setIfInBounds_toArray, List.set_cons_zero, List.set_cons_succ, i64_w, i32_w]
            rfl
          refine pure_ (i := 1) (N := some 108) (v := ?_) (a' := ?_) #[true, true, false, false, false, false, false, false, false, false, false, false, false, false] rfl rfl (by kernel_rfl) (fun _ _ _ h => h) (Or.inl ⟨by rfl, ?_⟩) ?_ ?_
          rotate_left
          · intro w'
            go_simp
            with_reducible rfl
          rotate_left
          · simp only [Act.put, List.setIfInBounds_toArray, List.set_cons_zero, List.set_cons_succ, i64_w, i32_w]
            rfl
          refine pure_ (i := 2) (N := some 109) (v := ?_) (a' := ?_) #[true, true, true, false, false, false, false, false, false, false, false, false, false, false] rfl rfl (by kernel_rfl) (fun _ _ _ h => h) (Or.inl ⟨by rfl, ?_⟩) ?_ ?_
          rotate_left
          · intro w'
            go_simp
            with_reducible rfl
          rotate_left
          · simp only [Act.put, List.setIfInBounds_toArray, List.set_cons_zero, List.set_cons_succ, i64_w, i32_w]
            rfl
          refine pure_ (i := 3) (N := some 110) (v := ?_) (a' := ?_) #[true, true, true, true, false, false, false, false, false, false, false, false, false, false] rfl rfl (by kernel_rfl) (fun _ _ _ h => h) (Or.inl ⟨by rfl, ?_⟩) ?_ ?_
          rotate_left
          · intro w'
            go_simp
            with_reducible rfl
          rotate_left
          · simp only [Act.put, List.setIfInBounds_toArray, List.set_cons_zero, List.set_cons_succ, i64_w, i32_w]
            rfl
          refine pure_ (i := 5) (N := some 112) (v := ?_) (a' := ?_) #[true, true, true, true, false, true, false, false, false, false, false, false, false, false] rfl rfl (by kernel_rfl) (fun _ _ _ h => h) (Or.inl ⟨by rfl, ?_⟩) ?_ ?_
          rotate_left
          · intro w'
            go_simp
            with_reducible rfl
          rotate_left
          · simp only [Act.put, List.setIfInBounds_toArray, List.set_cons_zero, List.set_cons_succ, i64_w, i32_w]
            rfl
          refine pure_ (i := 6) (N := some 113) (v := ?_) (a' := ?_) #[true, true, true, true, false, true, true, false, false, false, false, false, false, false] rfl rfl (by kernel_rfl) (fun _ _ _ h => h) (Or.inl ⟨by rfl, ?_⟩) ?_ ?_
          rotate_left
          · intro w'
            go_simp
            with_reducible rfl
          rotate_left
          · simp only [Act.put, List.setIfInBounds_toArray, List.set_cons_zero, List.set_cons_succ, i64_w, i32_w]
            rfl
          refine pure_ (i := 7) (N := some 114) (v := ?_) (a' := ?_) #[true, true, true, true, false, true, true, true, false, false, false, false, false, false] rfl rfl (by kernel_rfl) (fun _ _ _ h => h) (Or.inl ⟨by rfl, ?_⟩) ?_ ?_
          rotate_left
          · intro w'
            go_simp
            with_reducible rfl
          rotate_left
          · simp only [Act.put, List.setIfInBounds_toArray, List.set_cons_zero, List.set_cons_succ, i64_w, i32_w]
            rfl
          refine take_ (i := 4) (N := some 111) (v := ?_) (a' := ?_) #[true, true, true, true, true, true, true, true, false, false, false, false, false, false] rfl rfl (by kernel_rfl) (fun _ _ _ h => h) (Or.inl ⟨by rfl, ?_⟩) hHeld ?_ ?_
          rotate_left
          · rintro w' ⟨s0, s1⟩
            go_simp
            with_reducible rfl
          rotate_left
          · simp only [Act.put, List.setIfInBounds_toArray, List.set_cons_zero, List.set_cons_succ, i64_w, i32_w]
            rfl
          refine take_ (i := 8) (N := some 115) (v := ?_) (a' := ?_) #[true, true, true, true, true, true, true, true, true, false, false, false, false, false] rfl rfl (by kernel_rfl) (fun _ _ _ h => h) (Or.inl ⟨by rfl, ?_⟩) hHeld ?_ ?_
          rotate_left
          · rintro w' ⟨s0, s1⟩
            go_simp
            with_reducible rfl
          rotate_left
          · simp only [Act.put, List.setIfInBounds_toArray, List.set_cons_zero, List.set_cons_succ, i64_w, i32_w]
            rfl
          refine one_ (i := 9) (N := some 116) #[true, true, true, true, true, true, true, true, true, true, false, false, false, false] rfl rfl (by kernel_rfl) (by decide) (fun K hK => ?_)
          refine value_ (w1 := ?_) (v := ?_) (by rfl) rfl ?_ ?_
          rotate_left 2
          · go_simp
            constructor
            · rfl
            · rfl
          refine hK.out _ _ ⟨(cell_alloc hHeld.1 _), (cell_alloc hHeld.2 _)⟩ (fun hHeld => ?_)
          clear hK K
          refine norm_ (a' := ?_) ?_ ?_
          rotate_left
          · show Act.put _ (some 116) _ = _
            simp only [Act.put, List.setIfInBounds_toArray, List.set_cons_zero, List.set_cons_succ, i64_w, i32_w]
            rfl
          refine one_ (i := 10) (N := some 117) #[true, true, true, true, true, true, true, true, true, true, true, false, false, false] rfl rfl (by kernel_rfl) (by decide) (fun K hK => ?_)
          refine Kd.R_append_step (W := w10) (Kd.int .i64) (w0 := w10) b0 (by rfl) (.tmp 111) (.tmp 116) 24 3 (.int .i64 0) 8 (by rfl) Try.underlying24 info3 rfl (by decide) (by omega) (.slice At tos.length ct) tos (parts.length : Int) [.int .i64 (parts.length : Int)] (fun k => k ≠ gp) (fun _ => False) (by rfl) (by rfl) rfl (fun _ hk => hk.elim) (fun k hk => (HA9.out.lts (Nat.le_refl _) k hk).1.1) HA9.out.t (Below.refl _ _) hb9 (by omega) ?_
          intro v4 w4 ho4 hb4 hg4 hat4
          have hG4 := blk_grown HA9.out.blk hg4 (Kd.R_ne HA9.out.t HA9.out.blk (by decide))
          have c04 := cell_of_row w4 g 1 _ _ _ hG4
          have f04 := frozen_of_row hG4 1
          have HA11 := Aside0.mk (HA9.out.appT ho4 hg4 hat4)
          have HPL4 := Aside0.mk (Kd.R_celln 0 (Kd.R_grown HA9.out.plr hg4 (fun k hk e => HA9.out.t.1 k e.symm hk)) (j : Int) (by omega) (by omega)).1
          rw [Int.toNat_natCast, show rdOf (0 : Int) (pl.set j (parts.length : Int)) (j : Int) = (parts.length : Int) from (by have h := rd_set pl j j (parts.length : Int) (by rw [HK.out.pll]; exact hj); rw [if_pos rfl] at h; exact h)] at HPL4
          have HB11 : Aside0 (Below b0 w00 (w4.setCell ⟨g, 1, none⟩ v4)) := ⟨(HB9.out.trans hb4).setCell (p := ⟨g, 1, none⟩) HA9.out.hb _⟩
          obtain ⟨A4, c4, e4⟩ := Kd.R_slice ho4
          subst e4
          rw [List.length_append, List.length_singleton] at ho4 hat4 HA11 HB11 ⊢
          simp at c04
          refine hK.out _ _ ⟨c04, HPL4.out⟩ (fun hHeld => ?_)
          clear hK K
          refine norm_ (a' := ?_) ?_ ?_
          rotate_left
          · show Act.put _ (some 117) _ = _
            simp only [Act.put, List.setIfInBounds_toArray, List.set_cons_zero, List.set_cons_succ, i64_w, i32_w]
            rfl
          refine pure_ (i := 11) (N := some 118) (v := ?_) (a' := ?_) #[true, true, true, true, true, true, true, true, true, true, true, true, false, false] rfl rfl (by kernel_rfl) (fun _ _ _ h => h) (Or.inl ⟨by rfl, ?_⟩) ?_ ?_
          rotate_left
          · intro w'
            go_simp
            with_reducible rfl
          rotate_left
          · simp only [Act.put, List.setIfInBounds_toArray, List.set_cons_zero, List.set_cons_succ, i64_w, i32_w]
            rfl
          refine pure_ (i := 12) (N := some 119) (v := ?_) (a' := ?_) #[true, true, true, true, true, true, true, true, true, true, true, true, true, false] rfl rfl (by kernel_rfl) (fun _ _ _ h => h) (Or.inl ⟨by rfl, ?_⟩) ?_ ?_
          rotate_left
          · intro w'
            go_simp
            with_reducible rfl
          rotate_left
          · simp only [Act.put, List.setIfInBounds_toArray, List.set_cons_zero, List.set_cons_succ, i64_w, i32_w]
            rfl
          refine last_ (i := 13) (N := none) #[true, true, true, true, true, true, true, true, true, true, true, true, true, true] rfl rfl (by kernel_rfl) (by decide) (fun K hK => ?_)
          refine skip_ (w1 := ?_) (by rfl) rfl ?_ ?_
          rotate_left
          · go_simp
            rfl
          refine hK.out _ _ ?_
          clear hK K
          refine done_ (by kernel_rfl) ?_
          go_wp2_with fail
          go_roundg j
          case measure => omega
          case rel =>
            have HK3 := HK.out.newVar HD.out HL.out HT.out hj HV.out hv1 hv2' HXV.out
            rw [HV.out] at HK3
            have har := HAR.out
            subst har
            exact ⟨_, _, _, _, _, _, _, _, rfl, ⟨by omega⟩, ⟨by omega⟩, ⟨by have h := HA11.out; exact h⟩, ⟨HK3⟩, HB11, ⟨by rw [List.length_append, List.length_singleton]; have := HP.out; omega, by rw [List.length_append, List.length_singleton]; have := HP.out; omega⟩, ⟨fun z hz => (tmF_old (by rw [HK.out.tl]; have := HP.out; omega)).trans (HPRE.out z hz)⟩⟩
      · have hsy : 0 ≤ rd t j := by omega
        clear hneg hnum
        have HPLC : Aside0 (plc l t (j : Int) = 0) := ⟨by have := HC.out; unfold plc; rw [if_pos this, if_neg (by omega), if_neg (by omega)]⟩
        go_upto_region 9 with fail
        have HA0 := HA
        have HLT := Aside0.mk (HA.out.lts (Nat.le_refl _))
        have HGP : Aside0 (gp < wr.heap.size ∧ vb < wr.heap.size ∧ g < wr.heap.size) := ⟨(by obtain ⟨cells, hc⟩ := HA.out.plBlk; exact blk_lt hc), blk_lt HA.out.vbk, blk_lt HA.out.blk⟩
        replace HA := Aside0.mk (HA.out.below (below_alloc (Below.refl _ _) (.cells #[.int .i64 (rd t j), .slice none 0 0] 155)))
        have HX := Aside0.mk (heap_alloc_new wr (.cells #[.int .i64 (rd t j), .slice none 0 0] 155))
        have HZS : Aside0 ((wr.alloc (.cells #[.int .i64 (rd t j), .slice none 0 0] 155)).heap.size = wr.heap.size + 1) := ⟨by simp⟩
        replace HB : Aside0 (Below b0 w00 (wr.alloc (.cells #[.int .i64 (rd t j), .slice none 0 0] 155))) := ⟨HB.out.alloc (Nat.le_trans HA.out.hb (Nat.le_of_lt HGP.out.2.2)) _⟩
        obtain ⟨w5, hw5⟩ : ∃ w5, w5 = wr.alloc (.cells #[.int .i64 (rd t j), .slice none 0 0] 155) := ⟨_, rfl⟩
        rw [← hw5] at HA HX HB HZS ⊢
        have HKW : Aside0 (∀ i, i < wr.heap.size → w5.heap[i]? = wr.heap[i]?) := ⟨fun i hi => by rw [hw5]; exact Below.heap_alloc _ _ _ hi⟩
        clear hw5
        generalize hbx : wr.heap.size = bx at *
        have HBX0 := Aside0.mk hbx
        clear hbx
        go_wp2_with fail
        clear hx
        refine (Args_okN sg l (some ad) c t j _ (HS.out.below (by rw [← HB0.out]; exact HB.out)) HL.out (Kd.C_below HTC.out (by rw [← HB0.out]; exact HB.out)) HPLC.out).mono ?_
        rintro e w6 ⟨v1, rfl, hr1, hb6⟩
        have HZ6 : Aside0 (bx + 1 ≤ w5.heap.size ∧ w5.heap.size ≤ w6.heap.size) := ⟨by have := HZS.out; omega, hb6.size⟩
        have RW : Aside0 (Rw w6 w5.heap.size w6.heap.size v1 (toI (argsL l t j))) := ⟨Rw.mk hr1⟩
        obtain ⟨A1, c1, e, hcl1, _⟩ := RW.out.reads
        subst e
        replace HX := Aside0.mk ((hb6.block bx (blk_lt HX.out)).trans HX.out)
        replace HB := Aside0.mk (HB.out.trans (hb6.mono (by have := HZ6.out; have := HGP.out; have := HA.out.hb; omega)))
        replace HKW : Aside0 (∀ i, i < bx → w6.heap[i]? = wr.heap[i]?) := ⟨fun i hi => (hb6.block i (by have := HZ6.out; omega)).trans (HKW.out i hi)⟩
        have HNA : Aside0 ((argsL l t j).length ≤ 6) := ⟨by unfold argsL; rw [argsF_length]; have := ar_bd HL.out (rd t j); omega⟩
        clear hr1 hb6 HA hcl1
        generalize w5.heap.size = s5 at *
        generalize hs6 : w6.heap.size = s6 at *
        have HS6 : Aside0 (s6 ≤ w6.heap.size) := ⟨by omega⟩
        clear hs6
        have htl1 := toI_length (argsL l t j)
        rw [htl1]
        have HTL := Aside0.mk htl1
        clear htl1
        obtain ⟨wo, hwo⟩ : ∃ wo : World, wo = wr := ⟨_, rfl⟩
        rw [← hwo] at HA0 HKW HBX0
        clear hwo
        go_wp2_with fail
        go_loopg [64] (argsL l t j).length (fun m i wi => ∃ (k : Nat) (vk : Value), i = .int .i64 k ∧ k ≤ (argsL l t j).length ∧ Aside0 (m = (argsL l t j).length - k) ∧ Aside0 (wi.heap[bx]? = some (.cells #[.int .i64 (rd t j), vk] 155 (0, 0))) ∧
          Aside0 (Kd.R (Kd.int .i64) 3 wi s6 (fun z => s6 ≤ z) vk (((argsL l t j).take k).map fun x : Nat => rd pl (x : Int))) ∧ Aside0 (Rw wi s5 s6 (.slice A1 (toI (argsL l t j)).length c1) (toI (argsL l t j))) ∧ Aside0 (Below b0 w00 wi) ∧ Aside0 (∀ i, i < bx → wi.heap[i]? = wo.heap[i]?) ∧ Aside0 (s6 ≤ wi.heap.size))
        case atStart => exact ⟨0, _, rfl, by omega, ⟨by omega⟩, HX, ⟨Kd.R_nil _ _ _ _ _⟩, RW, HB, HKW, HS6⟩
        case round =>
          clear HX RW HB HKW HS6
          obtain ⟨k, vk, rfl, hk, HM2, HX, HR, RW, HB, HKW, HS6⟩ := hrel
          obtain ⟨Ak, ck, e⟩ := Kd.R_slice HR.out
          subst e
          have HA := Aside0.mk (HA0.out.of_old (W' := wr) (fun i hi => HKW.out i (by have := HBX0.out; omega)))
          have hlk : (((argsL l t j).take k).map fun x : Nat => rd pl (x : Int)).length = k := by rw [List.length_map, List.length_take]; omega
          rw [hlk] at HX HR
          clear hlk
          by_cases hlt : k < (argsL l t j).length
          · have hk' : k < (toI (argsL l t j)).length := by rw [HTL.out]; exact hlt
            obtain ⟨d1, e, hx1⟩ := int_at (Kd.R_reads' RW.out).2.2 k hk'
            cases e
            rw [toI_at] at hx1
            obtain ⟨a, ha⟩ : ∃ a : Nat, a = (argsL l t j).getD k 0 := ⟨_, rfl⟩
            rw [← ha] at hx1
            have hal := argsL_le HL.out HT.out hj a (by rw [ha]; exact getD_mem hlt)
            obtain ⟨p0, _⟩ := HA.out.plCell hal.2 (x := rd pl a) rfl
            have c0 := cell_of_row wr bx 1 _ _ _ HX.out
            simp at c0
            have HAA := Aside0.mk ha
            have hal2 := hal.2
            have hk6 : k < 6 := by have := HNA.out; omega
            have hsl := HS6.out
            clear hal ha hk'
            go_upto_region 14 with fail
            clear hx1
            have hsl10 : s6 ≤ wr.drew.heap.size := hsl
            refine start_ (n := 10) (S := fun w' => w'.cell? ⟨bx, 1, none⟩ = some (.slice Ak k ck) ∧ w'.cell? ⟨gp, a, none⟩ = some (.int .i64 (rd pl a))) (ds := [9]) #[false, false, false, false, false, false, false, false, false, false] (by kernel_rfl) rfl rfl ⟨c0, p0⟩ (fun hHeld => ?_)
            replace HX : Aside0 (wr.drew.heap[bx]? = some (.cells #[.int .i64 (rd t j), (.slice Ak k ck)] 155 (0, 0))) := ⟨HX.out⟩
            replace HR : Aside0 (Kd.R (Kd.int .i64) 3 wr.drew s6 (fun z => s6 ≤ z) (.slice Ak k ck) (((argsL l t j).take k).map fun x : Nat => rd pl (x : Int))) := ⟨HR.out⟩
            replace RW : Aside0 (Rw wr.drew s5 s6 (.slice (some d1) (toI (argsL l t j)).length c1) (toI (argsL l t j))) := ⟨RW.out⟩
            replace HB : Aside0 (Below b0 w00 wr.drew) := ⟨HB.out.drew⟩
            replace HKW : Aside0 (∀ i, i < bx → (wr.drew).heap[i]? = wo.heap[i]?) := ⟨HKW.out⟩
            replace HA : Aside0 (AdSt wr.drew b0 g vb gp v2 (.slice Ap parts.length cp) (.slice At tos.length ct) t.length t.length parts tos pl V cs2) := ⟨HA.out.below (below_drew (Below.refl _ _))⟩
            generalize wr.drew = w10 at *
            clear c0 p0
            refine pure_ (i := 0) (N := some 68) (v := ?_) (a' := ?_) #[true, false, false, false, false, false, false, false, false, false] rfl rfl (by kernel_rfl) (fun _ _ _ h => h) (Or.inl ⟨by rfl, ?_⟩) ?_ ?_
            rotate_left
            · intro w'
              go_simp
              with_reducible rfl
            rotate_left
            · simp only [Act.put, List.setIfInBounds_toArray, List.set_cons_zero, List.set_cons_succ, i64_w, i32_w]
              rfl
            refine pure_ (i := 2) (N := some 70) (v := ?_) (a' := ?_) #[true, false, true, false, false, false, false, false, false, false] rfl rfl (by kernel_rfl) (fun _ _ _ h => h) (Or.inl ⟨by rfl, ?_⟩) ?_ ?_
            rotate_left
            · intro w'
              go_simp
              with_reducible rfl
            rotate_left
            · simp only [Act.put, List.setIfInBounds_toArray, List.set_cons_zero, List.set_cons_succ, i64_w, i32_w]
              rfl
            refine pure_ (i := 3) (N := some 71) (v := ?_) (a' := ?_) #[true, false, true, true, false, false, false, false, false, false] rfl rfl (by kernel_rfl) (fun _ _ _ h => h) (Or.inl ⟨by rfl, ?_⟩) ?_ ?_
            rotate_left
            · intro w'
              go_simp
              with_reducible rfl
            rotate_left
            · simp only [Act.put, List.setIfInBounds_toArray, List.set_cons_zero, List.set_cons_succ, i64_w, i32_w]
              rfl
            refine pure_ (i := 4) (N := some 72) (v := ?_) (a' := ?_) #[true, false, true, true, true, false, false, false, false, false] rfl rfl (by kernel_rfl) (fun _ _ _ h => h) (Or.inl ⟨by rfl, ?_⟩) ?_ ?_
            rotate_left
            · intro w'
              go_simp
              with_reducible rfl
            rotate_left
            · simp only [Act.put, List.setIfInBounds_toArray, List.set_cons_zero, List.set_cons_succ, i64_w, i32_w]
              rfl
            refine take_ (i := 1) (N := some 69) (v := ?_) (a' := ?_) #[true, true, true, true, true, false, false, false, false, false] rfl rfl (by kernel_rfl) (fun _ _ _ h => h) (Or.inl ⟨by rfl, ?_⟩) hHeld ?_ ?_
            rotate_left
            · rintro w' ⟨s0, s1⟩
              go_simp
              with_reducible rfl
            rotate_left
            · simp only [Act.put, List.setIfInBounds_toArray, List.set_cons_zero, List.set_cons_succ, i64_w, i32_w]
              rfl
            refine take_ (i := 5) (N := some 73) (v := ?_) (a' := ?_) #[true, true, true, true, true, true, false, false, false, false] rfl rfl (by kernel_rfl) (fun _ _ _ h => h) (Or.inl ⟨by rfl, ?_⟩) hHeld ?_ ?_
            rotate_left
            · rintro w' ⟨s0, s1⟩
              go_simp
              with_reducible rfl
            rotate_left
            · simp only [Act.put, List.setIfInBounds_toArray, List.set_cons_zero, List.set_cons_succ, i64_w, i32_w]
              rfl
            refine one_ (i := 6) (N := some 74) #[true, true, true, true, true, true, true, false, false, false] rfl rfl (by kernel_rfl) (by decide) (fun K hK => ?_)
            refine value_ (w1 := ?_) (v := ?_) (by rfl) rfl ?_ ?_
            rotate_left 2
            · go_simp
              constructor
              · rfl
              · rfl
            refine hK.out _ _ ⟨(cell_alloc hHeld.1 _), (cell_alloc hHeld.2 _)⟩ (fun hHeld => ?_)
            clear hK K
            refine norm_ (a' := ?_) ?_ ?_
            rotate_left
            · show Act.put _ (some 74) _ = _
              simp only [Act.put, List.setIfInBounds_toArray, List.set_cons_zero, List.set_cons_succ, i64_w, i32_w]
              rfl
            refine one_ (i := 7) (N := some 75) #[true, true, true, true, true, true, true, true, false, false] rfl rfl (by kernel_rfl) (by decide) (fun K hK => ?_)
            refine Kd.R_append_step (W := w10) (Kd.int .i64) (w0 := w10) s6 (by rfl) (.tmp 69) (.tmp 74) 24 3 (.int .i64 0) 8 (by rfl) Try.underlying24 info3 rfl (by decide) (by omega) (.slice Ak k ck) (((argsL l t j).take k).map fun x : Nat => rd pl (x : Int)) (rd pl a) [.int .i64 (rd pl a)] (fun z => s6 ≤ z) (fun _ => False) (by rfl) (by rfl) rfl (fun _ hk => hk.elim) (fun z hz => Nat.le_trans hsl10 hz) HR.out (Below.refl _ _) hsl10 (by have := HNA.out; rw [List.length_map, List.length_take]; omega) ?_
            intro v3 w3 ho3 hb3 hg3 hat3
            obtain ⟨A3, c3, e3⟩ := Kd.R_slice ho3
            obtain ⟨n3, hn3⟩ : ∃ n3, n3 = ((((argsL l t j).take k).map fun x : Nat => rd pl (x : Int)) ++ [rd pl a]).length := ⟨_, rfl⟩
            rw [← hn3] at e3
            subst e3
            clear hn3
            have hX3 := blk_grown HX.out hg3 (fun e => by have := HR.out.1 bx e.symm; have := HZ6.out; omega)
            have c03 := cell_of_row w3 bx 1 _ _ _ hX3
            have f03 := frozen_of_row hX3 1
            have HK3 : Aside0 (∀ i, i < bx → w3.heap[i]? = wo.heap[i]?) := ⟨fun i hi => (hg3.block i (by have := HZ6.out; omega) (fun e => by have := HR.out.1 i e.symm; have := HZ6.out; omega)).trans (HKW.out i hi)⟩
            have HA3 := Aside0.mk (HA0.out.of_old (W' := w3) (fun i hi => HK3.out i (by have := HBX0.out; omega)))
            have p03 := (HA3.out.plCell hal2 (x := rd pl a) rfl).1
            have HB3 : Aside0 (Below b0 w00 (w3.setCell ⟨bx, 1, none⟩ (.slice A3 n3 c3))) := ⟨(HB.out.trans (hb3.mono (by have := HZ6.out; have := HGP.out; have := HA0.out.hb; omega))).setCell (p := ⟨bx, 1, none⟩) (by have := HGP.out; have := HA0.out.hb; show b0 ≤ bx; omega) _⟩
            have HX3 := Aside0.mk (blk_set2 hX3 (.slice A3 n3 c3))
            have HR3 := Aside0.mk (Kd.R_far ho3 (p := ⟨bx, 1, none⟩) (fun z hz => by have := HZ6.out; show z ≠ bx; omega) (.slice A3 n3 c3))
            have RW3 : Aside0 (Rw (w3.setCell ⟨bx, 1, none⟩ (.slice A3 n3 c3)) s5 s6 (.slice (some d1) (toI (argsL l t j)).length c1) (toI (argsL l t j))) := ⟨Kd.R_far (Kd.R_grown RW.out hg3 (fun z hz e => by have := HR.out.1 z e.symm; omega)) (p := ⟨bx, 1, none⟩) (fun z hz => by have := HZ6.out; show z ≠ bx; omega) _⟩
            have HK4 : Aside0 (∀ i, i < bx → (w3.setCell ⟨bx, 1, none⟩ (.slice A3 n3 c3)).heap[i]? = wo.heap[i]?) := ⟨fun i hi => (Below.heap_setCell w3 ⟨bx, 1, none⟩ _ i (by show i ≠ bx; omega)).trans (HK3.out i hi)⟩
            have HS7 : Aside0 (s6 ≤ (w3.setCell ⟨bx, 1, none⟩ (.slice A3 n3 c3)).heap.size) := ⟨by have := hb3.size; simp [World.setCell]; omega⟩
            simp at c03
            clear ho3 hb3 hg3 hat3 hX3
            refine hK.out _ _ ⟨c03, p03⟩ (fun hHeld => ?_)
            clear hK K
            refine norm_ (a' := ?_) ?_ ?_
            rotate_left
            · show Act.put _ (some 75) _ = _
              simp only [Act.put, List.setIfInBounds_toArray, List.set_cons_zero, List.set_cons_succ, i64_w, i32_w]
              rfl
            refine pure_ (i := 8) (N := some 76) (v := ?_) (a' := ?_) #[true, true, true, true, true, true, true, true, true, false] rfl rfl (by kernel_rfl) (fun _ _ _ h => h) (Or.inl ⟨by rfl, ?_⟩) ?_ ?_
            rotate_left
            · intro w'
              go_simp
              with_reducible rfl
            rotate_left
            · simp only [Act.put, List.setIfInBounds_toArray, List.set_cons_zero, List.set_cons_succ, i64_w, i32_w]
              rfl
            refine last_ (i := 9) (N := none) #[true, true, true, true, true, true, true, true, true, true] rfl rfl (by kernel_rfl) (by decide) (fun K hK => ?_)
            refine skip_ (w1 := ?_) (by rfl) rfl ?_ ?_
            rotate_left
            · go_simp
              rfl
            refine hK.out _ _ ?_
            clear hK K
            refine done_ (by kernel_rfl) ?_
            go_wp2_with fail
            go_roundg ((argsL l t j).length - (k + 1))
            case measure => have := HM2.out; omega
            case rel =>
              refine ⟨k + 1, _, by go_num, by omega, ⟨rfl⟩, HX3, ⟨?_⟩, RW3, HB3, HK4, HS7⟩
              have h := HR3.out
              rw [List.take_succ_eq_append_getElem hlt, List.map_append]
              have e : (argsL l t j)[k] = a := by rw [HAA.out, List.getD_eq_getElem?_getD, List.getElem?_eq_getElem hlt]; rfl
              rw [List.map_cons, List.map_nil, e]
              exact h
          · obtain rfl : k = (argsL l t j).length := by omega
            rw [List.take_length] at HR
            obtain ⟨va, hva⟩ : ∃ va : Value, va = .slice Ak (argsL l t j).length ck := ⟨_, rfl⟩
            rw [← hva] at HX HR
            clear hva
            obtain ⟨ar, har⟩ : ∃ ar : List Int, ar = (argsL l t j).map fun x : Nat => rd pl (x : Int) := ⟨_, rfl⟩
            rw [← har] at HR
            have HAR := Aside0.mk har
            have HBX : Aside0 (bx ≤ s6 ∧ b0 ≤ bx) := ⟨by have := HZ6.out; omega, by have := HA.out.hb; have := HGP.out; omega⟩
            obtain ⟨w5', hw5'⟩ : ∃ w5' : World, w5' = wr := ⟨_, rfl⟩
            rw [← hw5'] at HX HR HB HA ⊢
            clear har hw5' HKW RW HS6
            obtain ⟨p0, p1⟩ := HA.out.plCell hj rfl
            obtain ⟨q0, q1⟩ := HA.out.cells
            have HBP : Aside0 (b0 ≤ gp) := ⟨Kd.R_base HA.out.plr gp rfl⟩
            have HA6 := Aside0.mk (HA.out.putPl j (parts.length : Int))
            have HX6 := Aside0.mk (blk_far HX.out (p := ⟨gp, j, none⟩) (by have := HGP.out; show bx ≠ gp; omega) (.int .i64 (parts.length : Int)))
            have HR6 := Aside0.mk (Kd.R_far HR.out (p := ⟨gp, j, none⟩) (fun k hk => by have := HGP.out; have := HBX.out; show k ≠ gp; omega) (.int .i64 (parts.length : Int)))
            have HB6 : Aside0 (Below b0 w00 (w5'.setCell ⟨gp, j, none⟩ (.int .i64 (parts.length : Int)))) := ⟨HB.out.setCell (p := ⟨gp, j, none⟩) HBP.out _⟩
            have hpl5 : parts.length ≤ 4000 := by have := HP.out; omega
            go_upto_region 19 with fail
            clear p0 p1 q0 q1
            obtain ⟨w6, hw6⟩ : ∃ w6, w6 = w5'.setCell ⟨gp, j, none⟩ (.int .i64 (parts.length : Int)) := ⟨_, rfl⟩
            rw [← hw6] at HA6 HX6 HR6 HB6 ⊢
            clear hw6
            have HA7 := HA6
            have HX7 := HX6
            have HR7 := HR6
            have HB7 := HB6
            obtain ⟨w7, rfl⟩ : ∃ w7 : World, w7 = w6 := ⟨_, rfl⟩
            clear HA6 HX6 HR6 HB6
            clear HA HX HR HB
            obtain ⟨c0, _⟩ := HA7.out.cells
            have c1 := cell_of_row w7 bx 0 _ _ _ HX7.out
            have c2 := cell_of_row w7 bx 1 _ _ _ HX7.out
            simp at c1 c2
            have hb8 : b0 ≤ w7.drew.heap.size := by have := blk_lt HA7.out.blk; have := HA7.out.hb; show b0 ≤ w7.heap.size; omega
            refine start_ (n := 11) (S := fun w' => w'.cell? ⟨g, 0, none⟩ = some (.slice Ap parts.length cp) ∧ w'.cell? ⟨bx, 0, none⟩ = some (.int .i64 (rd t j)) ∧ w'.cell? ⟨bx, 1, none⟩ = some va) (ds := [10]) #[false, false, false, false, false, false, false, false, false, false, false] (by kernel_rfl) rfl rfl ⟨c0, c1, c2⟩ (fun hHeld => ?_)
            replace HA7 : Aside0 (AdSt w7.drew b0 g vb gp v2 (.slice Ap parts.length cp) (.slice At tos.length ct) t.length t.length parts tos (pl.set j (parts.length : Int)) V cs2) := ⟨HA7.out.below (below_drew (Below.refl _ _))⟩
            replace HX7 : Aside0 (w7.drew.heap[bx]? = some (.cells #[.int .i64 (rd t j), va] 155 (0, 0))) := ⟨HX7.out⟩
            replace HR7 : Aside0 (Kd.R (Kd.int .i64) 3 w7.drew s6 (fun k => s6 ≤ k) va ar) := ⟨HR7.out⟩
            replace HB7 : Aside0 (Below b0 w00 w7.drew) := ⟨HB7.out.drew⟩
            generalize w7.drew = w8 at *
            clear c0 c1 c2
            refine pure_ (i := 0) (N := some 97) (v := ?_) (a' := ?_) #[true, false, false, false, false, false, false, false, false, false, false] rfl rfl (by kernel_rfl) (fun _ _ _ h => h) (Or.inl ⟨by rfl, ?_⟩) ?_ ?_
            rotate_left
            · intro w'
              go_simp
              with_reducible rfl
            rotate_left
            · simp only [Act.put, List.setIfInBounds_toArray, List.set_cons_zero, List.set_cons_succ, i64_w, i32_w]
              rfl
            refine pure_ (i := 1) (N := some 98) (v := ?_) (a' := ?_) #[true, true, false, false, false, false, false, false, false, false, false] rfl rfl (by kernel_rfl) (fun _ _ _ h => h) (Or.inl ⟨by rfl, ?_⟩) ?_ ?_
            rotate_left
            · intro w'
              go_simp
              with_reducible rfl
            rotate_left
            · simp only [Act.put, List.setIfInBounds_toArray, List.set_cons_zero, List.set_cons_succ, i64_w, i32_w]
              rfl
            refine pure_ (i := 2) (N := some 99) (v := ?_) (a' := ?_) #[true, true, true, false, false, false, false, false, false, false, false] rfl rfl (by kernel_rfl) (fun _ _ _ h => h) (Or.inl ⟨by rfl, ?_⟩) ?_ ?_
            rotate_left
            · intro w'
              go_simp
              with_reducible rfl
            rotate_left
            · simp only [Act.put, List.setIfInBounds_toArray, List.set_cons_zero, List.set_cons_succ, i64_w, i32_w]
              rfl
            refine pure_ (i := 3) (N := some 100) (v := ?_) (a' := ?_) #[true, true, true, true, false, false, false, false, false, false, false] rfl rfl (by kernel_rfl) (fun _ _ _ h => h) (Or.inl ⟨by rfl, ?_⟩) ?_ ?_
            rotate_left
            · intro w'
              go_simp
              with_reducible rfl
            rotate_left
            · simp only [Act.put, List.setIfInBounds_toArray, List.set_cons_zero, List.set_cons_succ, i64_w, i32_w]
              rfl
            refine take_ (i := 4) (N := some 101) (v := ?_) (a' := ?_) #[true, true, true, true, true, false, false, false, false, false, false] rfl rfl (by kernel_rfl) (fun _ _ _ h => h) (Or.inl ⟨by rfl, ?_⟩) hHeld ?_ ?_
            rotate_left
            · rintro w' ⟨s0, s1, s2⟩
              go_simp
              with_reducible rfl
            rotate_left
            · simp only [Act.put, List.setIfInBounds_toArray, List.set_cons_zero, List.set_cons_succ, i64_w, i32_w]
              rfl
            refine take_ (i := 5) (N := some 102) (v := ?_) (a' := ?_) #[true, true, true, true, true, true, false, false, false, false, false] rfl rfl (by kernel_rfl) (fun _ _ _ h => h) (Or.inl ⟨by rfl, ?_⟩) hHeld ?_ ?_
            rotate_left
            · rintro w' ⟨s0, s1, s2⟩
              go_simp
              with_reducible rfl
            rotate_left
            · simp only [Act.put, List.setIfInBounds_toArray, List.set_cons_zero, List.set_cons_succ, i64_w, i32_w]
              rfl
            refine one_ (i := 6) (N := some 103) #[true, true, true, true, true, true, true, false, false, false, false] rfl rfl (by kernel_rfl) (by decide) (fun K hK => ?_)
            refine value_ (w1 := ?_) (v := ?_) (by rfl) rfl ?_ ?_
            rotate_left 2
            · go_simp
              constructor
              · rfl
              · rfl
            refine hK.out _ _ ⟨(cell_alloc hHeld.1 _), (cell_alloc hHeld.2.1 _), (cell_alloc hHeld.2.2 _)⟩ (fun hHeld => ?_)
            clear hK K
            refine norm_ (a' := ?_) ?_ ?_
            rotate_left
            · show Act.put _ (some 103) _ = _
              simp only [Act.put, List.setIfInBounds_toArray, List.set_cons_zero, List.set_cons_succ, i64_w, i32_w]
              rfl
            refine one_ (i := 7) (N := some 104) #[true, true, true, true, true, true, true, true, false, false, false] rfl rfl (by kernel_rfl) (by decide) (fun K hK => ?_)
            refine Kd.R_append_step (W := w8) kpt (w0 := w8) b0 (by rfl) (.tmp 101) (.tmp 103) 141 155 (.agg #[.int .i64 0, .slice none 0 0]) 32 (by rfl) Try.underlying141 info155 rfl (by decide) (by omega) (.slice Ap parts.length cp) parts ((rd t j), ar) [.int .i64 (rd t j), va] (fun k => k ≠ gp ∧ some k ≠ (Value.slice At tos.length ct).ownBlock) (fun k => s6 ≤ k) (by rfl) (by rfl) (kpt_M HR7.out (by have := HB7.out.size; have := HGP.out; have := HBX.out; omega)) (fun k hk => HLT.out k (by have := HBX.out; omega)) (fun k hk => (HA7.out.lts (Nat.le_refl _) k hk).1) HA7.out.p (Below.refl _ _) hb8 (by omega) ?_
            intro v3 w3 ho3 hb3 hg3 hat3
            have hG3 := blk_grown HA7.out.blk hg3 (Kd.R_ne HA7.out.p HA7.out.blk (by decide))
            have hX3 := blk_grown HX7.out hg3 (fun e => (HLT.out bx (Nat.le_refl _)).2 e)
            have c03 := cell_of_row w3 g 0 _ _ _ hG3
            have f03 := frozen_of_row hG3 0
            have HA9 := Aside0.mk (HA7.out.appP ho3 hg3)
            have HB9 : Aside0 (Below b0 w00 (w3.setCell ⟨g, 0, none⟩ v3)) := ⟨(HB7.out.trans hb3).setCell (p := ⟨g, 0, none⟩) HA7.out.hb _⟩
            obtain ⟨A3, c3, e3⟩ := Kd.R_slice ho3
            subst e3
            rw [List.length_append, List.length_singleton] at ho3 hat3 HA9 HB9 ⊢
            simp at c03
            refine hK.out _ _ ⟨c03, (cell_of_row w3 bx 0 _ _ _ hX3), (cell_of_row w3 bx 1 _ _ _ hX3)⟩ (fun hHeld => ?_)
            clear hK K
            refine norm_ (a' := ?_) ?_ ?_
            rotate_left
            · show Act.put _ (some 104) _ = _
              simp only [Act.put, List.setIfInBounds_toArray, List.set_cons_zero, List.set_cons_succ, i64_w, i32_w]
              rfl
            refine pure_ (i := 8) (N := some 105) (v := ?_) (a' := ?_) #[true, true, true, true, true, true, true, true, true, false, false] rfl rfl (by kernel_rfl) (fun _ _ _ h => h) (Or.inl ⟨by rfl, ?_⟩) ?_ ?_
            rotate_left
            · intro w'
              go_simp
              with_reducible rfl
            rotate_left
            · simp only [Act.put, List.setIfInBounds_toArray, List.set_cons_zero, List.set_cons_succ, i64_w, i32_w]
              rfl
            refine pure_ (i := 9) (N := some 106) (v := ?_) (a' := ?_) #[true, true, true, true, true, true, true, true, true, true, false] rfl rfl (by kernel_rfl) (fun _ _ _ h => h) (Or.inl ⟨by rfl, ?_⟩) ?_ ?_
            rotate_left
            · intro w'
              go_simp
              with_reducible rfl
            rotate_left
            · simp only [Act.put, List.setIfInBounds_toArray, List.set_cons_zero, List.set_cons_succ, i64_w, i32_w]
              rfl
            refine last_ (i := 10) (N := none) #[true, true, true, true, true, true, true, true, true, true, true] rfl rfl (by kernel_rfl) (by decide) (fun K hK => ?_)
            refine skip_ (w1 := ?_) (by rfl) rfl ?_ ?_
            rotate_left
            · go_simp
              rfl
            refine hK.out _ _ ?_
            clear hK K
            refine done_ (by kernel_rfl) ?_
            go_upto_region 20 with fail
            obtain ⟨w9, hw9⟩ : ∃ w9, w9 = w3.setCell ⟨g, 0, none⟩ (.slice A3 (parts.length + 1) c3) := ⟨_, rfl⟩
            rw [← hw9] at HA9 HB9 ⊢
            clear hw9 f03
            obtain ⟨_, c0⟩ := HA9.out.cells
            obtain ⟨p0, _⟩ := HA9.out.plCell hj (x := (parts.length : Int)) (by rw [rd_set _ _ _ _ (by rw [HK.out.pll]; exact hj), if_pos rfl])
            have hb9 : b0 ≤ w9.drew.heap.size := by have := blk_lt HA9.out.blk; have := HA9.out.hb; show b0 ≤ w9.heap.size; omega
            have htl : tos.length ≤ 4000 := by rw [HK.out.tol]; exact hpl5
            refine start_ (n := 14) (S := fun w' => w'.cell? ⟨g, 1, none⟩ = some (.slice At tos.length ct) ∧ w'.cell? ⟨gp, j, none⟩ = some (.int .i64 (parts.length : Int))) (ds := [13]) #[false, false, false, false, false, false, false, false, false, false, false, false, false, false] (by kernel_rfl) rfl rfl ⟨c0, p0⟩ (fun hHeld => ?_)
            replace HA9 : Aside0 (AdSt w9.drew b0 g vb gp v2 (.slice A3 (parts.length + 1) c3) (.slice At tos.length ct) t.length t.length (parts ++ [((rd t j), ar)]) tos (pl.set j (parts.length : Int)) V cs2) := ⟨HA9.out.below (below_drew (Below.refl _ _))⟩
            replace HB9 : Aside0 (Below b0 w00 w9.drew) := ⟨HB9.out.drew⟩
            generalize w9.drew = w10 at *
            clear c0 p0
            refine pure_ (i := 0) (N := some 107) (v := ?_) (a' := ?_) #[true, false, false, false, false, false, false, false, false, false, false, false, false, false] rfl rfl (by kernel_rfl) (fun _ _ _ h => h) (Or.inl ⟨by rfl, ?_⟩) ?_ ?_
            rotate_left
            · intro w'
              go_simp
              with_reducible rfl
            rotate_left
            · simp only [Act.put, List.setIfInBounds_toArray, List.set_cons_zero, List.set_cons_succ, i64_w, i32_w]
              rfl
            refine pure_ (i := 1) (N := some 108) (v := ?_) (a' := ?_) #[true, true, false, false, false, false, false, false, false, false, false, false, false, false] rfl rfl (by kernel_rfl) (fun _ _ _ h => h) (Or.inl ⟨by rfl, ?_⟩) ?_ ?_
            rotate_left
            · intro w'
              go_simp
              with_reducible rfl
            rotate_left
            · simp only [Act.put, List.setIfInBounds_toArray, List.set_cons_zero, List.set_cons_succ, i64_w, i32_w]
              rfl
            refine pure_ (i := 2) (N := some 109) (v := ?_) (a' := ?_) #[true, true, true, false, false, false, false, false, false, false, false, false, false, false] rfl rfl (by kernel_rfl) (fun _ _ _ h => h) (Or.inl ⟨by rfl, ?_⟩) ?_ ?_
            rotate_left
            · intro w'
              go_simp
              with_reducible rfl
            rotate_left
            · simp only [Act.put, List.setIfInBounds_toArray, List.set_cons_zero, List.set_cons_succ, i64_w, i32_w]
              rfl
            refine pure_ (i := 3) (N := some 110) (v := ?_) (a' := ?_) #[true, true, true, true, false, false, false, false, false, false, false, false, false, false] rfl rfl (by kernel_rfl) (fun _ _ _ h => h) (Or.inl ⟨by rfl, ?_⟩) ?_ ?_
            rotate_left
            · intro w'
              go_simp
              with_reducible rfl
            rotate_left
            · simp only [Act.put, List.setIfInBounds_toArray, List.set_cons_zero, List.set_cons_succ, i64_w, i32_w]
              rfl
            refine pure_ (i := 5) (N := some 112) (v := ?_) (a' := ?_) #[true, true, true, true, false, true, false, false, false, false, false, false, false, false] rfl rfl (by kernel_rfl) (fun _ _ _ h => h) (Or.inl ⟨by rfl, ?_⟩) ?_ ?_
            rotate_left
            · intro w'
              go_simp
              with_reducible rfl
            rotate_left
            · simp only [Act.put, List.setIfInBounds_toArray, List.set_cons_zero, List.set_cons_succ, i64_w, i32_w]
              rfl
            refine pure_ (i := 6) (N := some 113) (v := ?_) (a' := ?_) #[true, true, true, true, false, true, true, false, false, false, false, false, false, false] rfl rfl (by kernel_rfl) (fun _ _ _ h => h) (Or.inl ⟨by rfl, ?_⟩) ?_ ?_
            rotate_left
            · intro w'
              go_simp
              with_reducible rfl
            rotate_left
            · simp only [Act.put, List.setIfInBounds_toArray, List.set_cons_zero, List.set_cons_succ, i64_w, i32_w]
              rfl
            refine pure_ (i := 7) (N := some 114) (v := ?_) (a' := ?_) #[true, true, true, true, false, true, true, true, false, false, false, false, false, false] rfl rfl (by kernel_rfl) (fun _ _ _ h => h) (Or.inl ⟨by rfl, ?_⟩) ?_ ?_
            rotate_left
            · intro w'
              go_simp
              with_reducible rfl
            rotate_left
            · simp only [Act.put, List.setIfInBounds_toArray, List.set_cons_zero, List.set_cons_succ, i64_w, i32_w]
              rfl
            refine take_ (i := 4) (N := some 111) (v := ?_) (a' := ?_) #[true, true, true, true, true, true, true, true, false, false, false, false, false, false] rfl rfl (by kernel_rfl) (fun _ _ _ h => h) (Or.inl ⟨by rfl, ?_⟩) hHeld ?_ ?_
            rotate_left
            · rintro w' ⟨s0, s1⟩
              go_simp
              with_reducible rfl
            rotate_left
            · simp only [Act.put, List.setIfInBounds_toArray, List.set_cons_zero, List.set_cons_succ, i64_w, i32_w]
              rfl
            refine take_ (i := 8) (N := some 115) (v := ?_) (a' := ?_) #[true, true, true, true, true, true, true, true, true, false, false, false, false, false] rfl rfl (by kernel_rfl) (fun _ _ _ h => h) (Or.inl ⟨by rfl, ?_⟩) hHeld ?_ ?_
            rotate_left
            · rintro w' ⟨s0, s1⟩
              go_simp
              with_reducible rfl
            rotate_left
            · simp only [Act.put, List.setIfInBounds_toArray, List.set_cons_zero, List.set_cons_succ, i64_w, i32_w]
              rfl
            refine one_ (i := 9) (N := some 116) #[true, true, true, true, true, true, true, true, true, true, false, false, false, false] rfl rfl (by kernel_rfl) (by decide) (fun K hK => ?_)
            refine value_ (w1 := ?_) (v := ?_) (by rfl) rfl ?_ ?_
            rotate_left 2
            · go_simp
              constructor
              · rfl
              · rfl
            refine hK.out _ _ ⟨(cell_alloc hHeld.1 _), (cell_alloc hHeld.2 _)⟩ (fun hHeld => ?_)
            clear hK K
            refine norm_ (a' := ?_) ?_ ?_
            rotate_left
            · show Act.put _ (some 116) _ = _
              simp only [Act.put, List.setIfInBounds_toArray, List.set_cons_zero, List.set_cons_succ, i64_w, i32_w]
              rfl
            refine one_ (i := 10) (N := some 117) #[true, true, true, true, true, true, true, true, true, true, true, false, false, false] rfl rfl (by kernel_rfl) (by decide) (fun K hK => ?_)
            refine Kd.R_append_step (W := w10) (Kd.int .i64) (w0 := w10) b0 (by rfl) (.tmp 111) (.tmp 116) 24 3 (.int .i64 0) 8 (by rfl) Try.underlying24 info3 rfl (by decide) (by omega) (.slice At tos.length ct) tos (parts.length : Int) [.int .i64 (parts.length : Int)] (fun k => k ≠ gp) (fun _ => False) (by rfl) (by rfl) rfl (fun _ hk => hk.elim) (fun k hk => (HA9.out.lts (Nat.le_refl _) k hk).1.1) HA9.out.t (Below.refl _ _) hb9 (by omega) ?_
            intro v4 w4 ho4 hb4 hg4 hat4
            have hG4 := blk_grown HA9.out.blk hg4 (Kd.R_ne HA9.out.t HA9.out.blk (by decide))
            have c04 := cell_of_row w4 g 1 _ _ _ hG4
            have f04 := frozen_of_row hG4 1
            have HA11 := Aside0.mk (HA9.out.appT ho4 hg4 hat4)
            have HPL4 := Aside0.mk (Kd.R_celln 0 (Kd.R_grown HA9.out.plr hg4 (fun k hk e => HA9.out.t.1 k e.symm hk)) (j : Int) (by omega) (by omega)).1
            rw [Int.toNat_natCast, show rdOf (0 : Int) (pl.set j (parts.length : Int)) (j : Int) = (parts.length : Int) from (by have h := rd_set pl j j (parts.length : Int) (by rw [HK.out.pll]; exact hj); rw [if_pos rfl] at h; exact h)] at HPL4
            have HB11 : Aside0 (Below b0 w00 (w4.setCell ⟨g, 1, none⟩ v4)) := ⟨(HB9.out.trans hb4).setCell (p := ⟨g, 1, none⟩) HA9.out.hb _⟩
            obtain ⟨A4, c4, e4⟩ := Kd.R_slice ho4
            subst e4
            rw [List.length_append, List.length_singleton] at ho4 hat4 HA11 HB11 ⊢
            simp at c04
            refine hK.out _ _ ⟨c04, HPL4.out⟩ (fun hHeld => ?_)
            clear hK K
            refine norm_ (a' := ?_) ?_ ?_
            rotate_left
            · show Act.put _ (some 117) _ = _
              simp only [Act.put, List.setIfInBounds_toArray, List.set_cons_zero, List.set_cons_succ, i64_w, i32_w]
              rfl
            refine pure_ (i := 11) (N := some 118) (v := ?_) (a' := ?_) #[true, true, true, true, true, true, true, true, true, true, true, true, false, false] rfl rfl (by kernel_rfl) (fun _ _ _ h => h) (Or.inl ⟨by rfl, ?_⟩) ?_ ?_
            rotate_left
            · intro w'
              go_simp
              with_reducible rfl
            rotate_left
            · simp only [Act.put, List.setIfInBounds_toArray, List.set_cons_zero, List.set_cons_succ, i64_w, i32_w]
              rfl
            refine pure_ (i := 12) (N := some 119) (v := ?_) (a' := ?_) #[true, true, true, true, true, true, true, true, true, true, true, true, true, false] rfl rfl (by kernel_rfl) (fun _ _ _ h => h) (Or.inl ⟨by rfl, ?_⟩) ?_ ?_
            rotate_left
            · intro w'
              go_simp
              with_reducible rfl
            rotate_left
            · simp only [Act.put, List.setIfInBounds_toArray, List.set_cons_zero, List.set_cons_succ, i64_w, i32_w]
              rfl
            refine last_ (i := 13) (N := none) #[true, true, true, true, true, true, true, true, true, true, true, true, true, true] rfl rfl (by kernel_rfl) (by decide) (fun K hK => ?_)
            refine skip_ (w1 := ?_) (by rfl) rfl ?_ ?_
            rotate_left
            · go_simp
              rfl
            refine hK.out _ _ ?_
            clear hK K
            refine done_ (by kernel_rfl) ?_
            go_wp2_with fail
            go_roundg j
            case measure => omega
            case rel =>
              have HK3 := HK.out.newSym (by have := HD.out; omega) HL.out HT.out hj hsy
              have har := HAR.out
              subst har
              exact ⟨_, _, _, _, _, _, _, _, rfl, ⟨by omega⟩, ⟨by omega⟩, ⟨by have h := HA11.out; exact h⟩, ⟨HK3⟩, HB11, ⟨by rw [List.length_append, List.length_singleton]; have := HP.out; omega, by rw [List.length_append, List.length_singleton]; have := HP.out; omega⟩, ⟨fun z hz => (tmF_old (by rw [HK.out.tl]; have := HP.out; omega)).trans (HPRE.out z hz)⟩⟩
end Go.Proofs.Ytadjoaipmcbieaa

/-! Y6 -/
namespace Go.Proofs.Ytadjoaipmcbieaa
open Go.RowKit Go.Proofs.YtadjoaipmcbieaaW.PrintWords Go.Proofs.YtadjoaipmcbieaaW.PrintLast Go.Proofs.YtadjoaipmcbieaaW.PrintMore A
set_option linter.unusedSimpArgs false
set_option linter.unusedVariables false
section
variable (l : List S89) (A B : List Int) (ap : Bool)
def dAB : Int := if ap = true then 1000 else 0
def argAB (x : Nat) : List Nat := if x < A.length then argsL l A x else (argsL l B (x - A.length)).map (· + A.length)
def subAB (x : Nat) : List Int := if x < A.length then subL l A x else tgD (dAB ap) (subL l B (x - A.length))
def tmAB (x : Nat) : List Int := if x < A.length + B.length then subAB l A B ap x
  else if (x - (A.length + B.length)) % 2 = 0 then [-(((x - (A.length + B.length)) / 2 : Nat) : Int) - 1] else [-(((x - (A.length + B.length)) / 2 : Nat) : Int) - 1 - 1000]
def rootAB (x : Nat) : Nat := if x < A.length + B.length ∧ rd (A ++ B) x < 0 then A.length + B.length + 2 * (-rd (A ++ B) x - 1).toNat + (if ap = true ∧ A.length ≤ x then 1 else 0) else x
/-- What laid leaves of the places' arguments, of the classes' places. -/
structure LaidOk (args : List (List Int)) (rep : List Int) : Prop where
  al : args.length = A.length + B.length
  av : ∀ x, x < A.length + B.length → argR args x = toI (argAB l A B x)
  rl : rep.length = A.length + B.length + 200
  rv : ∀ x : Nat, x < A.length + B.length + 200 → rd rep x = if x < A.length + B.length ∧ 0 ≤ rd (A ++ B) x then (x : Int) else -1
end
section
variable {l : List S89} {A B : List Int} {ap : Bool} {args : List (List Int)} {rep : List Int}
theorem toI_toNat (xs : List Nat) : (toI xs).map Int.toNat = xs := by
  induction xs with
  | nil => rfl
  | cons x xs ih => simp only [toI, List.map_cons] at ih ⊢; rw [ih]; rfl
theorem LaidOk.at (h : LaidOk l A B args rep) {x : Nat} (hx : x < A.length + B.length) : (args.getD x []).map Int.toNat = argAB l A B x := by
  have := h.av x hx
  unfold argR at this
  rw [this, toI_toNat]
theorem rd_appl {x : Nat} (h : x < A.length) : rd (A ++ B) x = rd A x := by
  simp only [rd, Int.toNat_natCast, List.getD_eq_getElem?_getD]; rw [List.getElem?_append_left h]
theorem rd_appr {x : Nat} (h : A.length ≤ x) : rd (A ++ B) x = rd B ((x - A.length : Nat) : Int) := by
  simp only [rd, Int.toNat_natCast, List.getD_eq_getElem?_getD]; rw [List.getElem?_append_right h]
theorem placeAB (hl : GoodL l) (hA : Ter l A) (hB : Ter l B) {x : Nat} (hx : x < A.length + B.length) :
    IsT (an l) 1 (subAB l A B ap x) ∧ (argAB l A B x).length = an l (rd (A ++ B) x) ∧ (∀ z ∈ argAB l A B x, x < z ∧ z < A.length + B.length) ∧
    (0 ≤ rd (A ++ B) x → subAB l A B ap x = rd (A ++ B) x :: ((argAB l A B x).map (subAB l A B ap)).flatten) ∧
    (rd (A ++ B) x < 0 → subAB l A B ap x = [rd (A ++ B) x - (if x < A.length then 0 else dAB ap)]) := by
  have hd : 0 ≤ dAB ap := by unfold dAB; split <;> omega
  by_cases h : x < A.length
  · obtain ⟨e1, e2, e3⟩ := subL_sym hl hA h
    have es : subAB l A B ap x = subL l A x := if_pos h
    have ea : argAB l A B x = argsL l A x := if_pos h
    rw [rd_appl h, es, ea]
    refine ⟨e2, e3, fun z hz => ?_, fun _ => ?_, fun hv => ?_⟩
    · have := argsL_le hl hA h z hz; omega
    · rw [e1]
      congr 2
      refine (List.map_congr_left fun z hz => ?_)
      have := argsL_le hl hA h z hz
      exact (if_pos this.2).symm
    · rw [if_pos h, Int.sub_zero]; exact subL_var hl hA h hv
  · have h' : x - A.length < B.length := by omega
    obtain ⟨e1, e2, e3⟩ := subL_sym hl hB h'
    have es : subAB l A B ap x = tgD (dAB ap) (subL l B (x - A.length)) := if_neg h
    have ea : argAB l A B x = (argsL l B (x - A.length)).map (· + A.length) := if_neg h
    rw [rd_appr (by omega), es, ea]
    refine ⟨tgD_isT hd e2, by rw [List.length_map]; exact e3, fun z hz => ?_, fun hs => ?_, fun hv => ?_⟩
    · obtain ⟨y, hy, rfl⟩ := List.mem_map.1 hz
      have := argsL_le hl hB h' y hy
      omega
    · rw [e1, tgD_sym hs, tgD_flatten, List.map_map, List.map_map]
      congr 2
      refine (List.map_congr_left fun z hz => ?_)
      simp only [Function.comp_apply, subAB]
      rw [if_neg (by omega), Nat.add_sub_cancel]
    · rw [if_neg h, subL_var hl hB h' hv, tgD_var hv]
theorem tmAB_root {x : Nat} (hl : GoodL l) (hA : Ter l A) (hB : Ter l B) : tmAB l A B ap (rootAB A B ap x) = tmAB l A B ap x := by
  unfold rootAB
  split
  · rename_i h
    obtain ⟨_, _, _, _, hv⟩ := placeAB (ap := ap) hl hA hB h.1
    have e1 : tmAB l A B ap x = subAB l A B ap x := if_pos h.1
    rw [e1, hv h.2]
    obtain ⟨m, hm⟩ : ∃ m : Nat, m = (-rd (A ++ B) x - 1).toNat := ⟨_, rfl⟩
    rw [← hm]
    have hn : rd (A ++ B) x = -(m : Int) - 1 := by omega
    rw [hn]
    unfold tmAB
    rw [if_neg (by omega)]
    by_cases hap : ap = true ∧ A.length ≤ x
    · rw [if_pos hap, if_neg (show ¬ x < A.length by omega)]
      rw [show A.length + B.length + 2 * m + 1 - (A.length + B.length) = 2 * m + 1 by omega, if_neg (by omega), show (2 * m + 1) / 2 = m by omega]
      rw [show dAB ap = 1000 from if_pos hap.1]
    · rw [if_neg hap]
      rw [show A.length + B.length + 2 * m + 0 - (A.length + B.length) = 2 * m by omega, if_pos (by omega), show 2 * m / 2 = m by omega]
      by_cases hx : x < A.length
      · rw [if_pos hx, Int.sub_zero]
      · rw [if_neg hx, show dAB ap = 0 from if_neg (fun e => hap ⟨e, by omega⟩), Int.sub_zero]
  · rfl
theorem uniAB (hl : GoodL l) (hA : Ter l A) (hB : Ter l B) (hm : ∀ x : Nat, x < A.length + B.length → -99 ≤ rd (A ++ B) x) (h : LaidOk l A B args rep) :
    Uni (an l) (netR (A.length + B.length + 200) (A ++ B) args (tmAB l A B ap)) 0 A.length (rootAB A B ap) (repL rep) [(0, A.length)] := by
  have hpa : 0 < A.length := hA.pos
  have hpb : 0 < B.length := hB.pos
  have hsym : ∀ x, (netR (A.length + B.length + 200) (A ++ B) args (tmAB l A B ap)).sym x = if x < A.length + B.length then rd (A ++ B) x else -1 := fun x => by simp only [netR, List.length_append]
  have hsy : ∀ x, 0 ≤ (netR (A.length + B.length + 200) (A ++ B) args (tmAB l A B ap)).sym x → x < A.length + B.length ∧ 0 ≤ rd (A ++ B) x := fun x hx => by
    rw [hsym] at hx
    split at hx
    · exact ⟨by assumption, hx⟩
    · omega
  have hfix : ∀ x, x < A.length + B.length → 0 ≤ rd (A ++ B) x → rootAB A B ap x = x := fun x _ h2 => if_neg (by omega)
  have htm : ∀ x, x < A.length + B.length → tmAB l A B ap x = subAB l A B ap x := fun x hx => if_pos hx
  have hlt : ∀ x, x < A.length + B.length + 200 → rootAB A B ap x < A.length + B.length + 200 := fun x hx => by
    unfold rootAB
    split
    · rename_i h0; have := hm x h0.1; split <;> omega
    · exact hx
  have hvar : ∀ x, x < A.length + B.length → rd (A ++ B) x < 0 → A.length + B.length ≤ rootAB A B ap x := fun x h1 h2 => by
    unfold rootAB; rw [if_pos ⟨h1, h2⟩]; omega
  have hid : ∀ x, rootAB A B ap (rootAB A B ap x) = rootAB A B ap x := fun x => by
    by_cases h0 : x < A.length + B.length ∧ rd (A ++ B) x < 0
    · have := hvar x h0.1 h0.2
      exact if_neg (by omega)
    · have e : rootAB A B ap x = x := if_neg h0
      rw [e, e]
  have hrep : ∀ x : Nat, x < A.length + B.length + 200 → 0 ≤ repL rep x → repL rep x = x ∧ x < A.length + B.length ∧ 0 ≤ rd (A ++ B) x := fun x hx hp => by
    unfold repL at hp ⊢
    rw [h.rv x hx] at hp ⊢
    split at hp
    · rename_i h0; rw [if_pos h0]; exact ⟨rfl, h0.1, h0.2⟩
    · omega
  refine ⟨⟨fun n hn => an_neg hn, fun x hx hs => ?_, fun x hx => ?_, fun x hx hs => ?_, fun x hx hs => ?_⟩, hlt, fun x _ => hid x, fun x hx hs => ?_, fun c hc hr hp => ?_, fun p hp => ?_, fun x y hx hy sx sy e => ?_, fun s _ he => ⟨fun x _ => ?_, fun p hp => ?_⟩, fun g _ hp => ⟨hp (0, A.length) (by simp), fun x y hx hy sx sy e => ?_⟩⟩
  · obtain ⟨h1, h2⟩ := hsy x hs
    obtain ⟨_, e2, e3, _, _⟩ := placeAB (ap := ap) hl hA hB h1
    rw [hsym, if_pos h1]
    show ((args.getD x []).map Int.toNat).length = _ ∧ ∀ a ∈ (args.getD x []).map Int.toNat, _
    rw [h.at h1]
    exact ⟨e2, fun a ha => by have := e3 a ha; show a < A.length + B.length + 200; omega⟩
  · show IsT (an l) 1 (tmAB l A B ap x)
    by_cases h1 : x < A.length + B.length
    · rw [htm x h1]; exact (placeAB hl hA hB h1).1
    · unfold tmAB; rw [if_neg h1]
      split <;> exact .cons (by rw [an_neg (by omega)]; exact .nil)
  · obtain ⟨h1, h2⟩ := hsy x hs
    obtain ⟨_, _, e3, e4, _⟩ := placeAB (ap := ap) hl hA hB h1
    rw [hsym, if_pos h1]
    show tmAB l A B ap x = rd (A ++ B) x :: (((args.getD x []).map Int.toNat).map (tmAB l A B ap)).flatten
    rw [htm x h1, e4 h2, h.at h1]
    congr 2
    exact List.map_congr_left fun z hz => (htm z (e3 z hz).2).symm
  · show ∃ v, v < 0 ∧ tmAB l A B ap x = [v]
    by_cases h1 : x < A.length + B.length
    · rw [hsym, if_pos h1] at hs
      rw [htm x h1, (placeAB hl hA hB h1).2.2.2.2 hs]
      refine ⟨_, ?_, rfl⟩
      unfold dAB
      split
      · omega
      · split <;> omega
    · unfold tmAB; rw [if_neg h1]
      split <;> exact ⟨_, by omega, rfl⟩
  · obtain ⟨h1, h2⟩ := hsy x hs
    rw [hfix x h1 h2]
    unfold repL
    rw [h.rv x hx, if_pos ⟨h1, h2⟩]; omega
  · obtain ⟨e1, h1, h2⟩ := hrep c hc hp
    rw [e1, Int.toNat_natCast]
    refine ⟨hc, by rw [hsym, if_pos h1]; exact h2, hr⟩
  · obtain rfl : p = (0, A.length) := by simpa using hp
    exact ⟨by show 0 < A.length + B.length + 200; omega, by show A.length < A.length + B.length + 200; omega⟩
  · have e' : tmAB l A B ap (rootAB A B ap x) = tmAB l A B ap (rootAB A B ap y) := by rw [tmAB_root hl hA hB, tmAB_root hl hA hB]; exact e
    have key : ∀ z, (netR (A.length + B.length + 200) (A ++ B) args (tmAB l A B ap)).sym z < 0 → A.length + B.length ≤ rootAB A B ap z := fun z hz => by
      by_cases h1 : z < A.length + B.length
      · rw [hsym, if_pos h1] at hz; exact hvar z h1 hz
      · have e : rootAB A B ap z = z := if_neg (by omega)
        rw [e]; omega
    have k1 := key x sx
    have k2 := key y sy
    have l1 := hlt x hx
    have l2 := hlt y hy
    generalize rootAB A B ap x = u at *
    generalize rootAB A B ap y = v at *
    have htv : ∀ z, A.length + B.length ≤ z → tmAB l A B ap z = if (z - (A.length + B.length)) % 2 = 0 then [-(((z - (A.length + B.length)) / 2 : Nat) : Int) - 1] else [-(((z - (A.length + B.length)) / 2 : Nat) : Int) - 1 - 1000] := fun z hz => if_neg (by omega)
    rw [htv u k1, htv v k2] at e'
    split at e' <;> split at e' <;> simp only [List.cons.injEq, and_true] at e' <;> omega
  · show sb s (tmAB l A B ap (rootAB A B ap x)) = _
    rw [tmAB_root hl hA hB]; rfl
  · obtain rfl : p = (0, A.length) := by simpa using hp
    exact he
  · obtain ⟨x1, x2⟩ := hsy x sx
    obtain ⟨y1, y2⟩ := hsy y sy
    rw [hfix x x1 x2, hfix y y1 y2] at e
    subst e; exact ⟨rfl, rfl⟩
theorem LaidOk.small (h : LaidOk l A B args rep) (hl : GoodL l) (hA : Ter l A) (hB : Ter l B) (x : Nat) : (argR args x).length ≤ 6 ∧ ∀ a ∈ argR args x, 0 ≤ a ∧ a < (A.length + B.length + 200 : Nat) := by
  by_cases hx : x < A.length + B.length
  · obtain ⟨_, e2, e3, _⟩ := placeAB (ap := false) hl hA hB hx
    rw [h.av x hx]
    have := ar_bd hl (rd (A ++ B) x)
    have := an_ar hl (rd (A ++ B) x)
    refine ⟨by rw [toI_length]; omega, fun a ha => ?_⟩
    obtain ⟨z, hz, rfl⟩ := List.mem_map.1 ha
    have := e3 z hz
    exact ⟨Int.natCast_nonneg z, by show (z : Int) < _; omega⟩
  · have e : argR args x = [] := by unfold argR; rw [List.getD_eq_getElem?_getD, List.getElem?_eq_none (by rw [h.al]; omega)]; rfl
    rw [e]; simp
theorem rootsAB (hm : ∀ x : Nat, x < A.length + B.length → -99 ≤ rd (A ++ B) x) {up : List Int} (hl : up.length = A.length + B.length + 200) (hv : ∀ x : Nat, x < A.length + B.length + 200 → rd up x = (rootAB A B ap x : Int)) : RootOk up (rootAB A B ap) := by
  have hlt : ∀ x, x < A.length + B.length + 200 → rootAB A B ap x < A.length + B.length + 200 := fun x hx => by
    unfold rootAB
    split
    · rename_i h0; have := hm x h0.1; split <;> omega
    · exact hx
  have hid : ∀ x, rootAB A B ap (rootAB A B ap x) = rootAB A B ap x := fun x => by
    by_cases h0 : x < A.length + B.length ∧ rd (A ++ B) x < 0
    · have : A.length + B.length ≤ rootAB A B ap x := by unfold rootAB; rw [if_pos h0]; omega
      exact if_neg (by omega)
    · have e : rootAB A B ap x = x := if_neg h0
      rw [e, e]
  intro x hx
  rw [hl] at hx ⊢
  have h1 := hlt x hx
  have e1 := hv x hx
  have e2 := hv _ h1
  rw [hid] at e2
  refine ⟨by omega, by omega, ?_⟩
  have f1 : toF up x = rootAB A B ap x := by unfold toF; omega
  have f2 : toF up (rootAB A B ap x) = rootAB A B ap x := by unfold toF; omega
  by_cases h : rootAB A B ap x = x
  · exact ⟨0, by rw [h]; exact .here (by rw [f1, h])⟩
  · exact ⟨1, .step (by rw [f1]; exact h) (by rw [f1]; exact .here f2)⟩
theorem tmAB_ends (hl : GoodL l) (hA : Ter l A) (hB : Ter l B) : tmAB l A B ap 0 = A ∧ tmAB l A B ap A.length = tg ap B := by
  have hpa : 0 < A.length := hA.pos
  have hpb : 0 < B.length := hB.pos
  constructor
  · unfold tmAB subAB; rw [if_pos (by omega), if_pos hpa]; exact subL_whole hl hA
  · unfold tmAB subAB; rw [if_pos (by omega), if_neg (by omega), Nat.sub_self, subL_whole hl hB, tg_tgD]; rfl
end
end Go.Proofs.Ytadjoaipmcbieaa

/-! Y7 -/
namespace Go.Proofs.Ytadjoaipmcbieaa
open Go.RowKit Go.Proofs.YtadjoaipmcbieaaW.PrintWords Go.Proofs.YtadjoaipmcbieaaW.PrintLast Go.Proofs.YtadjoaipmcbieaaW.PrintMore A
set_option linter.unusedSimpArgs false
set_option linter.unusedVariables false
/-- Two rows' own blocks are not one. -/
def TwoV (u v : Value) : Prop := ∀ k, u.ownBlock = some k → v.ownBlock ≠ some k
theorem TwoV.symm {u v : Value} (h : TwoV u v) : TwoV v u := fun k h1 h2 => h k h2 h1
theorem TwoV.nil (v : Value) : TwoV (.slice none 0 0) v := fun k h => by simp [Value.ownBlock] at h
section
variable {W w1 : World} {base : Nat} {u v u1 : Value} {xs ys : List Int}
theorem row_beside (h : Kd.R (Kd.int .i64) 3 W base (fun _ => True) v xs) (hg : W.grownBy w1 u.ownBlock) (hne : TwoV u v) : Kd.R (Kd.int .i64) 3 w1 base (fun _ => True) v xs :=
  Kd.R_mono (Kd.R_grown (ok := fun k => v.ownBlock = some k) ⟨fun k hk => hk, h.2⟩ hg (fun k hk e => hne k e.symm hk)) (fun _ _ => trivial)
theorem TwoV.after (h : TwoV u v) (hv : Kd.R (Kd.int .i64) 3 W base (fun _ => True) v xs) (hat : u1.ownBlock = u.ownBlock ∨ ∃ b, u1.ownBlock = some b ∧ W.heap.size ≤ b) : TwoV u1 v := fun k h1 h2 => by
  rcases hat with hat | ⟨b, hb, hle⟩
  · exact h k (by rw [← hat]; exact h1) h2
  · rw [hb] at h1; cases h1; have := Kd.R_lt hv k h2; omega
end
/-- Where laid stands: the net's box at g, the rows. -/
structure LdSt (W : World) (base g : Nat) (vl vt va vu vr : Value) (ts : List Int) (args : List (List Int)) (up rep : List Int) : Prop where
  blk : W.heap[g]? = some (.cells #[vl, vt, va, vu, vr] 139 (0, 0))
  hb : base ≤ g
  t : Kd.R (Kd.int .i64) 3 W base (fun _ => True) vt ts
  a : Kd.R (Kd.slice 3 (Kd.int .i64)) 24 W base (fun k => (some k ≠ vu.ownBlock ∧ some k ≠ vr.ownBlock) ∧ some k ≠ vt.ownBlock) va args
  u : Kd.R (Kd.int .i64) 3 W base (fun _ => True) vu up
  r : Kd.R (Kd.int .i64) 3 W base (fun _ => True) vr rep
  tu : TwoV vt vu
  tr : TwoV vt vr
  ur : TwoV vu vr
section
variable {W W' w1 : World} {base g : Nat} {vl vt va vu vr v1 : Value} {ts ts' : List Int} {args args' : List (List Int)} {up up' rep rep' : List Int}
theorem LdSt.below (h : LdSt W base g vl vt va vu vr ts args up rep) (hb : Below W.heap.size W W') : LdSt W' base g vl vt va vu vr ts args up rep :=
  ⟨(hb.block _ (blk_lt h.blk)).trans h.blk, h.hb, Kd.R_below h.t hb, Kd.R_below h.a hb, Kd.R_below h.u hb, Kd.R_below h.r hb, h.tu, h.tr, h.ur⟩
theorem LdSt.cells (h : LdSt W base g vl vt va vu vr ts args up rep) : W.cell? ⟨g, 0, none⟩ = some vl ∧ W.cell? ⟨g, 1, none⟩ = some vt ∧ W.cell? ⟨g, 2, none⟩ = some va ∧ W.cell? ⟨g, 3, none⟩ = some vu ∧ W.cell? ⟨g, 4, none⟩ = some vr := by
  have c0 := cell_of_row W g 0 _ _ _ h.blk
  have c1 := cell_of_row W g 1 _ _ _ h.blk
  have c2 := cell_of_row W g 2 _ _ _ h.blk
  have c3 := cell_of_row W g 3 _ _ _ h.blk
  have c4 := cell_of_row W g 4 _ _ _ h.blk
  exact ⟨c0, c1, c2, c3, c4⟩
/-- n.t = append(n.t, ..). -/
theorem LdSt.appT (h : LdSt W base g vl vt va vu vr ts args up rep) (ht : Kd.R (Kd.int .i64) 3 w1 base (fun _ => True) v1 ts') (hg : W.grownBy w1 vt.ownBlock) (hat : v1.ownBlock = vt.ownBlock ∨ ∃ b, v1.ownBlock = some b ∧ W.heap.size ≤ b) : LdSt (w1.setCell ⟨g, 1, none⟩ v1) base g vl v1 va vu vr ts' args up rep := by
  have hblk := blk_grown h.blk hg (Kd.R_ne h.t h.blk (by decide))
  exact ⟨by simpa using blk_set hblk 1 v1, h.hb, Kd.R_set ht hblk (by decide) 1 _, Kd.R_set (Kd.R_after h.a hg hat) hblk (by decide) 1 _, Kd.R_set (row_beside h.u hg h.tu) hblk (by decide) 1 _, Kd.R_set (row_beside h.r hg h.tr) hblk (by decide) 1 _, h.tu.after h.u hat, h.tr.after h.r hat, h.ur⟩
/-- n.args = append(n.args, ..). -/
theorem LdSt.appA (h : LdSt W base g vl vt va vu vr ts args up rep) (ha : Kd.R (Kd.slice 3 (Kd.int .i64)) 24 w1 base (fun k => (some k ≠ vu.ownBlock ∧ some k ≠ vr.ownBlock) ∧ some k ≠ vt.ownBlock) v1 args') (hg : W.grownBy w1 va.ownBlock) : LdSt (w1.setCell ⟨g, 2, none⟩ v1) base g vl vt v1 vu vr ts args' up rep := by
  have hblk := blk_grown h.blk hg (Kd.R_ne h.a h.blk (by decide))
  exact ⟨by simpa using blk_set hblk 2 v1, h.hb, Kd.R_set (Kd.R_over h.t h.a (by decide) hg) hblk (by decide) 2 _, Kd.R_set ha hblk (by decide) 2 _, Kd.R_set (Kd.R_over h.u h.a (by decide) hg) hblk (by decide) 2 _, Kd.R_set (Kd.R_over h.r h.a (by decide) hg) hblk (by decide) 2 _, h.tu, h.tr, h.ur⟩
/-- n.up = append(n.up, ..). -/
theorem LdSt.appU (h : LdSt W base g vl vt va vu vr ts args up rep) (hu : Kd.R (Kd.int .i64) 3 w1 base (fun _ => True) v1 up') (hg : W.grownBy w1 vu.ownBlock) (hat : v1.ownBlock = vu.ownBlock ∨ ∃ b, v1.ownBlock = some b ∧ W.heap.size ≤ b) : LdSt (w1.setCell ⟨g, 3, none⟩ v1) base g vl vt va v1 vr ts args up' rep := by
  have hblk := blk_grown h.blk hg (Kd.R_ne h.u h.blk (by decide))
  have ha : Kd.R (Kd.slice 3 (Kd.int .i64)) 24 W base (fun k => (some k ≠ vt.ownBlock ∧ some k ≠ vr.ownBlock) ∧ some k ≠ vu.ownBlock) va args := Kd.R_mono h.a (fun k hk => ⟨⟨hk.2, hk.1.2⟩, hk.1.1⟩)
  exact ⟨by simpa using blk_set hblk 3 v1, h.hb, Kd.R_set (row_beside h.t hg h.tu.symm) hblk (by decide) 3 _, Kd.R_set (Kd.R_mono (Kd.R_after ha hg hat) (fun k hk => ⟨⟨hk.2, hk.1.2⟩, hk.1.1⟩)) hblk (by decide) 3 _, Kd.R_set hu hblk (by decide) 3 _, Kd.R_set (row_beside h.r hg h.ur) hblk (by decide) 3 _, (h.tu.symm.after h.t hat).symm, h.tr, h.ur.after h.r hat⟩
/-- n.rep = append(n.rep, ..). -/
theorem LdSt.appR (h : LdSt W base g vl vt va vu vr ts args up rep) (hr : Kd.R (Kd.int .i64) 3 w1 base (fun _ => True) v1 rep') (hg : W.grownBy w1 vr.ownBlock) (hat : v1.ownBlock = vr.ownBlock ∨ ∃ b, v1.ownBlock = some b ∧ W.heap.size ≤ b) : LdSt (w1.setCell ⟨g, 4, none⟩ v1) base g vl vt va vu v1 ts args up rep' := by
  have hblk := blk_grown h.blk hg (Kd.R_ne h.r h.blk (by decide))
  have ha : Kd.R (Kd.slice 3 (Kd.int .i64)) 24 W base (fun k => (some k ≠ vt.ownBlock ∧ some k ≠ vu.ownBlock) ∧ some k ≠ vr.ownBlock) va args := Kd.R_mono h.a (fun k hk => ⟨⟨hk.2, hk.1.1⟩, hk.1.2⟩)
  exact ⟨by simpa using blk_set hblk 4 v1, h.hb, Kd.R_set (row_beside h.t hg h.tr.symm) hblk (by decide) 4 _, Kd.R_set (Kd.R_mono (Kd.R_after ha hg hat) (fun k hk => ⟨⟨hk.1.2, hk.2⟩, hk.1.1⟩)) hblk (by decide) 4 _, Kd.R_set (row_beside h.u hg h.ur.symm) hblk (by decide) 4 _, Kd.R_set hr hblk (by decide) 4 _, h.tu, (h.tr.symm.after h.t hat).symm, (h.ur.symm.after h.u hat).symm⟩
/-- A row of arguments, made since. -/
theorem LdSt.fresh (h : LdSt W base g vl vt va vu vr ts args up rep) : ∀ k, W.heap.size ≤ k → ((some k ≠ vu.ownBlock ∧ some k ≠ vr.ownBlock) ∧ some k ≠ vt.ownBlock) ∧ some k ≠ va.ownBlock := fun k hk =>
  ⟨⟨⟨fun e => by have := Kd.R_lt h.u k e.symm; omega, fun e => by have := Kd.R_lt h.r k e.symm; omega⟩, fun e => by have := Kd.R_lt h.t k e.symm; omega⟩, fun e => by have := Kd.R_lt h.a k e.symm; omega⟩
/-- up[i] is put. -/
theorem LdSt.putU {gu N cu : Nat} (h : LdSt W base g vl vt va (.slice (some ⟨gu, 0, none⟩) N cu) vr ts args up rep) (i : Nat) (x : Int) : LdSt (W.setCell ⟨gu, i, none⟩ (.int .i64 x)) base g vl vt va (.slice (some ⟨gu, 0, none⟩) N cu) vr ts args (up.set i x) rep := by
  obtain ⟨c1, h1⟩ := Kd.R_typed h.u gu rfl
  have hne := blk_ne h.blk h1 (by decide)
  have far : ∀ {v : Value} {xs : List Int}, Kd.R (Kd.int .i64) 3 W base (fun _ => True) v xs → v.ownBlock ≠ some gu → Kd.R (Kd.int .i64) 3 (W.setCell ⟨gu, i, none⟩ (.int .i64 x)) base (fun _ => True) v xs := fun hv hn =>
    Kd.R_mono (Kd.R_far (ok := fun k => _ = some k) ⟨fun k hk => hk, hv.2⟩ (p := ⟨gu, i, none⟩) (fun k hk e => hn (by rw [hk]; simp at e; rw [e])) _) (fun _ _ => trivial)
  exact ⟨blk_far h.blk (p := ⟨gu, i, none⟩) hne _, h.hb, far h.t (fun e => h.tu _ e rfl), Kd.R_far h.a (p := ⟨gu, i, none⟩) (fun k hk e => hk.1.1 (by simp at e; rw [e]; rfl)) _, (Kd.R_putg h.u (i : Int) x).1, far h.r (fun e => h.ur gu rfl e), h.tu, h.tr, h.ur⟩
end
end Go.Proofs.Ytadjoaipmcbieaa
