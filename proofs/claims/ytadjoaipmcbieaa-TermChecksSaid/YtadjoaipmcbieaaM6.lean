/- Made: the walk. -/
import Derived.Test.YtadjoaipmcbieaaM5
namespace Go.Proofs.Ytadjoaipmcbieaa
open Go.RowKit Go.Proofs.YtadjoaipmcbieaaW.PrintWords Go.Proofs.YtadjoaipmcbieaaW.PrintLast Go.Proofs.YtadjoaipmcbieaaW.PrintMore A
set_option linter.unusedSimpArgs false

theorem madeL_snoc (L : List S89) (p : Nat) (hp : p < L.length) : madeL (L.take (p + 1)) = addL (madeL (L.take p)) (rd_T89 L p) := by
  unfold madeL
  rw [List.take_succ_eq_append_getElem hp, List.foldl_append]
  simp [rd_T89, List.getD_eq_getElem?_getD, List.getElem?_eq_getElem hp]
theorem two_start (w : World) : Two (((w.alloc (.map #[] 0)).alloc (.cells #[.slice none 0 0, .map (some w.heap.size)] 126)).alloc (.cells #[.slice none 0 0] 93)) w.heap.size (w.heap.size + 1) w.heap.size (w.heap.size + 1 + 1) (.slice none 0 0) (.slice none 0 0) [] [] := by
  have h0 := World.ownsMap_made w Try.prog 9 (plainElem (H := Unit) Try.prog 3)
  refine ⟨⟨?_, by omega, by omega, Kd.R_nil _ _ _ _ _, ⟨_, (h0.alloc _).alloc _, fun k => rfl⟩, ⟨by simp, by simp⟩⟩, ⟨?_, by omega, Kd.R_nil _ _ _ _ _⟩, fun k hk => by simp [Value.ownBlock] at hk⟩
  · rw [Below.heap_alloc _ _ _ (by simp)]
    have := heap_alloc_new (w.alloc (.map #[] 0)) (.cells #[.slice none 0 0, .map (some w.heap.size)] 126)
    simpa using this
  · have := heap_alloc_new ((w.alloc (.map #[] 0)).alloc (.cells #[.slice none 0 0, .map (some w.heap.size)] 126)) (.cells #[.slice none 0 0] 93)
    simpa using this
/-- A made signature, as the readers take it. -/
theorem SigW.sigC {w : World} {base g m : Nat} {v : Value} {l : List S89} (h : SigW w base g m v l) : SigC w g l := by
  obtain ⟨A, c, rfl, hl, hC⟩ := Kd.R_reads h.row
  exact ⟨A, c, cell_of_row w g 0 _ _ _ h.blk, hl, hC⟩

set_option maxRecDepth 100000 in
set_option maxHeartbeats 2000000 in
theorem made_any (A : Option Addr) (c : Nat) (L : List S89) (w : World) (hL : Kd.C k89 w A L.length L) (hn : ∀ x ∈ L, x.f0.size ≤ maxLen) :
    Calls Try.prog 26 #[.slice A L.length c] w fun e w' => ∃ (g : Nat) (v : Value), e = .returned (.tuple #[.pointer (some ⟨g, 0, none⟩), v]) ∧
      SigC w' g (madeL L) ∧ Kd.R k89 89 w' w.heap.size (fun _ => True) v (madeL L) ∧ Below w.heap.size w w' := by
  have hm := hL.2.1
  have HL := Aside0.mk hL
  have HN := Aside0.mk hn
  clear hL hn
  have hts := two_start w
  go_enter Try.func26, Try.ntmps26
  go_wp2_with (go_at_call 72; refine (new_any w).mono ?_; rintro e w1 ⟨rfl, rfl⟩)
  have hb0 : Below w.heap.size w (((w.alloc (.map #[] 0)).alloc (.cells #[.slice none 0 0, .map (some w.heap.size)] 126)).alloc (.cells #[.slice none 0 0] 93)) := below_alloc (below_alloc (below_alloc (Below.refl _ _) _) _) _
  generalize (((w.alloc (.map #[] 0)).alloc (.cells #[.slice none 0 0, .map (some w.heap.size)] 126)).alloc (.cells #[.slice none 0 0] 93)) = w2 at *
  generalize hG : w.heap.size + 1 = G at *
  have HTS := Aside0.mk hts
  have HB0 := Aside0.mk hb0
  clear hts hb0 hG
  go_loopw [6, 7, 8, 9, 10] (fun i _ _ _ _ wr => ∃ (p : Nat) (v v2 : Value), i = .int .i64 p ∧ p ≤ L.length ∧ Aside0 (Two wr w.heap.size G w.heap.size (G + 1) v v2 (madeL (L.take p)) (madeL (L.take p))) ∧ Aside0 (Below w.heap.size w wr)) (fun i _ _ _ _ _ => L.length - (intOf i).toNat)
  case atStart => exact ⟨0, _, _, rfl, by omega, HTS, HB0⟩
  case round =>
    clear HTS HB0
    obtain ⟨p, v, v2, rfl, hp, HT, HB⟩ := hrel
    by_cases hlt : p < L.length
    · obtain ⟨ad, e, hc0, hc1, hc2⟩ := at_T89 HL.out p (by omega) (by omega)
      cases e
      have hsn := madeL_snoc L p hlt
      have hx : (rd_T89 L p).f0.size ≤ maxLen := by
        refine HN.out _ ?_
        simp [rd_T89, List.getD_eq_getElem?_getD, List.getElem?_eq_getElem hlt]
      generalize rd_T89 L p = x at *
      rw [Int.toNat_natCast] at hc0 hc1 hc2
      have HC : Aside0 (∀ W, Below w.heap.size w W → W.cell? (ad.add (p * 3)) = some (.string x.f0) ∧ W.cell? ⟨(ad.add (p * 3)).block, (ad.add (p * 3)).off + 1, none⟩ = some (.int .i64 x.f1) ∧ W.cell? ⟨(ad.add (p * 3)).block, (ad.add (p * 3)).off + 2, none⟩ = some (.bool x.f2)) := ⟨fun W hW => ⟨pw_cell_below hW hc0, pw_cell_below hW hc1, pw_cell_below hW hc2⟩⟩
      clear hc0 hc1 hc2
      obtain ⟨k0, k1, k2⟩ := HC.out _ HB.out
      have HS := Aside0.mk hsn
      have HG := Aside0.mk (made_good (L.take p))
      clear hsn
      have hbs := HB.out.size
      generalize madeL (L.take p) = l at *
      have hee : (addE l x != addE l x) = false := by simp
      go_wp2_with (first
        | (go_at_call 73; refine (sigadd _ _ _ _ v v2 _ _ x _ HT.out hbs hx).mono ?_; rintro e w3 ⟨n, v3, rfl, ht3, hb3⟩; have HT3 := Aside0.mk ht3; have HB3 := Aside0.mk (Below.trans HB.out hb3); clear ht3 hb3 k0 k1 k2; obtain ⟨k0, k1, k2⟩ := HC.out _ HB3.out)
        | (go_at_call 74; refine (refadd _ _ _ _ v3 v2 _ _ x _ HT3.out HB3.out.size HG.out).mono ?_; rintro e w4 ⟨n2, v4, rfl, ht4, hb4⟩))
      go_roundw
      case rel => exact ⟨p + 1, v3, v4, by go_num, by omega, ⟨by rw [HS.out]; exact ht4⟩, ⟨Below.trans HB3.out hb4⟩⟩
      case measure => simp [intOf]; omega
    · have hT := HT.out
      rw [List.take_of_length_le (by omega)] at hT
      have c0 := cell_of_row wr G 0 _ _ _ hT.sig.blk
      have c1 := cell_of_row wr (G + 1) 0 _ _ _ hT.ref.blk
      obtain ⟨A2, c2, rfl⟩ := Kd.R_slice hT.ref.row
      simp at c0 c1
      have HT2 := Aside0.mk hT
      clear HT hT
      go_wp2
      go_quiet (fail)
      go_wp2
      go_ret2
      have hbn : Below wr.heap.size wr (wr.drewN nq) := pw_below_drewN (Below.refl _ _) _
      have hT := HT2.out.below hbn
      exact ⟨G, _, rfl, hT.sig.sigC, hT.ref.row, pw_below_drewN HB.out _⟩
end Go.Proofs.Ytadjoaipmcbieaa
