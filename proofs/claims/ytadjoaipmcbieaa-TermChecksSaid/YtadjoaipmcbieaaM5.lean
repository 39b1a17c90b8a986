/- Made: the program's signature and the document's, of the same symbols. -/
import Derived.Test.YtadjoaipmcbieaaM2
import Derived.Test.YtadjoaipmcbieaaM3
import Derived.Test.YtadjoaipmcbieaaM4
namespace Go.Proofs.Ytadjoaipmcbieaa
open Go.RowKit Go.Proofs.YtadjoaipmcbieaaW.PrintWords Go.Proofs.YtadjoaipmcbieaaW.PrintLast Go.Proofs.YtadjoaipmcbieaaW.PrintMore A

/-- The program's signature while it is made. -/
structure SigW (w : World) (base g m : Nat) (v : Value) (l : List S89) : Prop where
  blk : w.heap[g]? = some (.cells #[v, .map (some m)] 126 (0, 0))
  bg : base ≤ g
  bm : base ≤ m
  row : Kd.R k89 89 w base (fun _ => True) v l
  idx : IdxM w m (l.map (·.f0))
  good : GoodL l
/-- The document's. -/
structure RefW (w : World) (base g : Nat) (v : Value) (l : List S89) : Prop where
  blk : w.heap[g]? = some (.cells #[v] 93 (0, 0))
  bg : base ≤ g
  row : Kd.R k89 89 w base (fun _ => True) v l
/-- Both, apart. -/
structure Two (w : World) (base g m g2 : Nat) (v v2 : Value) (l l2 : List S89) : Prop where
  sig : SigW w base g m v l
  ref : RefW w base g2 v2 l2
  ne : ∀ k, v.ownBlock = some k → v2.ownBlock ≠ some k

theorem Two.m_ne {w : World} {base g m g2 : Nat} {v v2 : Value} {l l2 : List S89} (h : Two w base g m g2 v v2 l l2) : m ≠ g ∧ m ≠ g2 ∧ g ≠ g2 := by
  obtain ⟨_, ⟨es, clock, hb, _⟩, _⟩ := h.sig.idx
  refine ⟨fun e => ?_, fun e => ?_, blk_ne h.sig.blk h.ref.blk (by decide)⟩
  · subst e; rw [h.sig.blk] at hb; cases hb
  · subst e; rw [h.ref.blk] at hb; cases hb
/-- What keeps both: new memory alone. -/
theorem Two.below {w w' : World} {base g m g2 : Nat} {v v2 : Value} {l l2 : List S89} (h : Two w base g m g2 v v2 l l2) (hb : Below w.heap.size w w') : Two w' base g m g2 v v2 l l2 :=
  ⟨⟨(hb.block _ (blk_lt h.sig.blk)).trans h.sig.blk, h.sig.bg, h.sig.bm, Kd.R_below h.sig.row hb, h.sig.idx.below hb, h.sig.good⟩,
   ⟨(hb.block _ (blk_lt h.ref.blk)).trans h.ref.blk, h.ref.bg, Kd.R_below h.ref.row hb⟩, h.ne⟩
theorem row_lt {w : World} {base : Nat} {v : Value} {l : List S89} (h : Kd.R k89 89 w base (fun _ => True) v l) : ∀ k, v.ownBlock = some k → k < w.heap.size := by
  obtain ⟨inner, hown⟩ := Kd.R_own h
  exact own_lt hown

/-- Which blocks a list of symbols may lie in: the row alone. -/
theorem reok {w : World} {base : Nat} {ok ok' : Nat → Prop} {v : Value} {l : List S89} (h : Kd.R k89 89 w base ok v l) (h' : ∀ k, v.ownBlock = some k → ok' k) : Kd.R k89 89 w base ok' v l := ⟨h', h.2⟩

theorem sigadd (base g m g2 : Nat) (v v2 : Value) (l l2 : List S89) (x : S89) (w : World) (h : Two w base g m g2 v v2 l l2) (hbw : base ≤ w.heap.size) (hsz : x.f0.size ≤ maxLen) :
    Calls Try.prog 73 #[.pointer (some ⟨g, 0, none⟩), xV x] w fun e w' => ∃ (n : Int) (v' : Value), e = .returned (.tuple #[.int .i64 n, .int .i64 (addE l x)]) ∧ Two w' base g m g2 v' v2 (addL l x) l2 ∧ Below base w w' := by
  by_cases he : addE l x = 0
  · have ha : addL l x = l ++ [x] := if_pos he
    have hg := addL_good (x := x) h.sig.good
    rw [ha] at hg ⊢
    rw [he]
    have hh := he
    unfold addE at hh
    split at hh
    · omega
    · rename_i h1
      split at hh
      · omega
      · rename_i h2
        split at hh
        · omega
        · rename_i h3
          split at hh
          · omega
          · rename_i h4
            refine (add_ok base g m 20 v l x w h.sig.blk h.sig.bg h.sig.bm h.sig.row h.sig.idx hsz (by rw [sig_isName]; simpa using h1) (by omega) (by omega) (by simpa using h3) (by omega)).mono ?_
            rintro e w' ⟨v', rfl, hb', hr', hi', hbel, hk, hat⟩
            obtain ⟨n1, n2, n3⟩ := h.m_ne
            refine ⟨_, v', rfl, ⟨⟨hb', h.sig.bg, h.sig.bm, hr', hi', hg⟩, ⟨?_, h.ref.bg, ?_⟩, ?_⟩, hbel⟩
            · refine (hk.2 _ (blk_lt h.ref.blk) ?_).trans h.ref.blk
              rintro (e | e | e)
              · exact n3 e.symm
              · exact n2 e.symm
              · exact (Kd.R_ne h.sig.row h.ref.blk (by decide)) e.symm
            · refine reok (Kd.R_kept (reok (ok' := fun k => ¬ (k = g ∨ k = m ∨ v.ownBlock = some k)) h.ref.row ?_) hk (fun k hk => hk)) (fun _ _ => trivial)
              rintro k hkk (e | e | e)
              · subst e; exact (Kd.R_ne h.ref.row h.sig.blk (by decide)) hkk.symm
              · subst e; exact (ne_of_idx h.ref.row h.sig.idx).1 k hkk rfl
              · exact h.ne k e hkk
            · intro k hk' hk2
              rcases hat with e | ⟨b, e, hle⟩
              · exact h.ne k (e ▸ hk') hk2
              · rw [e] at hk'
                injection hk' with hk'
                have := row_lt h.ref.row k hk2
                omega
  · have ha : addL l x = l := if_neg he
    rw [ha]
    obtain ⟨A, c, rfl⟩ := Kd.R_slice h.sig.row
    refine (add_bad g m 20 A c l x (addE l x) w h.sig.blk h.sig.idx hsz (isNm x.f0) (sig_isName _) ?_).mono ?_
    · unfold addE at he ⊢
      split
      · rename_i h1; exact .inl ⟨h1, rfl⟩
      · rename_i h1
        simp only [Bool.not_eq_false] at h1
        split
        · rename_i h2; exact .inr (.inl ⟨h1, h2, rfl⟩)
        · rename_i h2
          split
          · rename_i h3; exact .inr (.inr (.inl ⟨h1, by omega, by omega, h3, rfl⟩))
          · rename_i h3
            split
            · rename_i h4; exact .inr (.inr (.inr ⟨h1, by omega, by omega, by simpa using h3, by have := h.sig.good.len; omega, rfl⟩))
            · rename_i h4; rw [if_neg (by simp [h1]), if_neg h2, if_neg h3, if_neg h4] at he; exact absurd rfl he
    · rintro e w' ⟨rfl, hb⟩
      exact ⟨0, _, rfl, h.below hb, hb.mono hbw⟩

theorem refadd (base g m g2 : Nat) (v v2 : Value) (l l2 : List S89) (x : S89) (w : World) (h : Two w base g m g2 v v2 l l2) (hbw : base ≤ w.heap.size) (hl2 : GoodL l2) :
    Calls Try.prog 74 #[.pointer (some ⟨g2, 0, none⟩), xV x] w fun e w' => ∃ (n : Int) (v' : Value), e = .returned (.tuple #[.int .i64 n, .int .i64 (addE l2 x)]) ∧ Two w' base g m g2 v v' l (addL l2 x) ∧ Below base w w' := by
  obtain ⟨fd, hfd, hfd2⟩ := ref_find l2 x.f0 hl2.len
  obtain ⟨n1, n2, n3⟩ := h.m_ne
  by_cases he : addE l2 x = 0
  · have ha : addL l2 x = l2 ++ [x] := if_pos he
    rw [ha]
    rw [he]
    have hh := he
    unfold addE at hh
    split at hh
    · omega
    · rename_i h1
      split at hh
      · omega
      · rename_i h2
        split at hh
        · omega
        · rename_i h3
          split at hh
          · omega
          · rename_i h4
            refine (radd_ok base g2 20 66 v2 l2 x w h.ref.blk h.ref.bg h.ref.row (by rw [ref_isName]; simpa using h1) (by omega) (by omega) fd hfd (by rw [← hfd2] at h3; omega) (by omega)).mono ?_
            rintro e w' ⟨v', rfl, hb', hr', hbel, hk, hat⟩
            obtain ⟨D, hD, hh2⟩ := h.sig.idx
            have hne2 : ∀ k, v2.ownBlock = some k → k ≠ m := (ne_of_idx h.ref.row h.sig.idx).1
            refine ⟨_, v', rfl, ⟨⟨?_, h.sig.bg, h.sig.bm, ?_, ?_, h.sig.good⟩, ⟨hb', h.ref.bg, hr'⟩, ?_⟩, hbel⟩
            · refine (hk.2 _ (blk_lt h.sig.blk) ?_).trans h.sig.blk
              rintro (e | e)
              · exact n3 e
              · exact (Kd.R_ne h.ref.row h.sig.blk (by decide)) e.symm
            · refine reok (Kd.R_kept (reok (ok' := fun k => ¬ (k = g2 ∨ v2.ownBlock = some k)) h.sig.row ?_) hk (fun k hk => hk)) (fun _ _ => trivial)
              rintro k hkk (e | e)
              · subst e; exact (Kd.R_ne h.sig.row h.ref.blk (by decide)) hkk.symm
              · exact h.ne k hkk e
            · obtain ⟨es, clock, hb, r⟩ := hD
              refine ⟨D, ⟨es, clock, (hk.2 m (Array.getElem?_eq_some_iff.1 hb).1 ?_).trans hb, r⟩, hh2⟩
              rintro (e | e)
              · exact n2 e
              · exact hne2 m e rfl
            · intro k hk' hk2
              rcases hat with e | ⟨b, e, hle⟩
              · exact h.ne k hk' (e ▸ hk2)
              · rw [e] at hk2
                injection hk2 with hk2
                have := row_lt h.sig.row k hk'
                omega
  · have ha : addL l2 x = l2 := if_neg he
    rw [ha]
    obtain ⟨A, c, rfl, hlc, hC⟩ := Kd.R_reads h.ref.row
    refine (radd_bad g2 20 66 A c l2 x (addE l2 x) w h.ref.blk hlc hC (isNm x.f0) (ref_isName _) fd hfd ?_).mono ?_
    · unfold addE at he ⊢
      split
      · rename_i h1; exact .inl ⟨h1, rfl⟩
      · rename_i h1
        simp only [Bool.not_eq_false] at h1
        split
        · rename_i h2; exact .inr (.inl ⟨h1, h2, rfl⟩)
        · rename_i h2
          split
          · rename_i h3; exact .inr (.inr (.inl ⟨h1, by omega, by omega, hfd2.2 h3, rfl⟩))
          · rename_i h3
            split
            · rename_i h4; exact .inr (.inr (.inr ⟨h1, by omega, by omega, by rw [← hfd2] at h3; omega, h4, rfl⟩))
            · rename_i h4; rw [if_neg (by simp [h1]), if_neg h2, if_neg h3, if_neg h4] at he; exact absurd rfl he
    · rintro e w' ⟨rfl, hb⟩
      exact ⟨0, _, rfl, h.below hb, hb.mono hbw⟩
end Go.Proofs.Ytadjoaipmcbieaa
