/- PLAIN: a term with another subterm at a place is a term; its subterm there, and the path to there. -/
import Derived.Test.YtadjoaipmcbieaaQ5
import Derived.Test.YtadjoaipmcbieaaS6
namespace Go.Proofs.Ytadjoaipmcbieaa
open Go.RowKit Go.Proofs.YtadjoaipmcbieaaW.PrintWords Go.Proofs.YtadjoaipmcbieaaW.PrintLast Go.Proofs.YtadjoaipmcbieaaW.PrintMore A

theorem bads_iff {L z : Int} (hz : z = 0) : ∀ {t : List Int}, bads L t z = 0 ↔ ∀ n ∈ t, badN L n = 0
  | [] => by simp [bads, hz]
  | n :: r => by
    simp only [bads, List.mem_cons, forall_eq_or_imp]
    by_cases h : badN L n = 0
    · rw [if_pos h, bads_iff hz]; exact ⟨fun x => ⟨h, x⟩, fun x => x.2⟩
    · rw [if_neg h]; exact ⟨fun x => absurd x h, fun x => absurd x.1 h⟩
theorem bads_end_ {L z : Int} : ∀ {t : List Int}, bads L t z = 0 → z = 0
  | [], h => h
  | n :: r, h => by
    simp only [bads] at h
    by_cases hb : badN L n = 0
    · rw [if_pos hb] at h; exact bads_end_ h
    · rw [if_neg hb] at h; exact absurd h hb
theorem shape_ter {l : List S89} (hl : GoodL l) {t : List Int} (h : Ter l t) : shape l t = 0 := by
  have h1 := fin_isT (an_ar hl) h [] 0
  have h2 := h.pos
  unfold shape
  rw [if_neg (by omega), if_pos (by simpa using h1)]
theorem chk_iff {l : List S89} (hl : GoodL l) {t : List Int} : chk l t = 0 ↔ t.length ≤ 2000 ∧ Ter l t ∧ ∀ n ∈ t, badN l.length n = 0 := by
  constructor
  · intro h
    have h2 := chk_len h
    refine ⟨h2, chk_ter hl h, ?_⟩
    unfold chk at h
    rw [if_neg (by omega)] at h
    exact (bads_iff (bads_end_ h)).1 h
  · rintro ⟨h1, h2, h3⟩
    unfold chk
    rw [if_neg (by omega)]
    exact (bads_iff (shape_ter hl h2)).2 h3

theorem IsT.put {b : Int → Nat} {s u r : List Int} (hs : IsT b 1 s) (hu : IsT b 1 u) : ∀ {a : List Int} {k : Nat}, IsT b k (a ++ (s ++ r)) → IsT b k (a ++ (u ++ r))
  | [], k, h => by
    have h0 := hs.pos
    have hk : 1 ≤ k := by
      rcases Nat.eq_zero_or_pos k with rfl | hk
      · have h1 := congrArg List.length h.zero; rw [List.nil_append, List.length_append, List.length_nil] at h1; omega
      · exact hk
    obtain ⟨m, rfl⟩ : ∃ m, k = 1 + m := ⟨k - 1, by omega⟩
    obtain ⟨xs, ys, e, h1, h2⟩ := h.split
    simp only [List.nil_append] at e ⊢
    have he := hs.prefix_eq h1 e
    subst he
    rw [List.append_cancel_left e]
    exact hu.append h2
  | x :: a, k, h => by
    obtain ⟨m, rfl, h2⟩ := IsT.uncons (r := a ++ (s ++ r)) h
    exact .cons (IsT.put hs hu h2)

section
variable {l : List S89} {t u : List Int} {p : Nat}
theorem put_self (he : endN l t p ≤ t.length) (hpe : p ≤ endN l t p) : putL l t p (subL l t p) = t := by
  unfold putL subL
  have h1 : (t.take (endN l t p)).drop p ++ t.drop (endN l t p) = t.drop p := by
    have : t.drop p = (t.take (endN l t p) ++ t.drop (endN l t p)).drop p := by rw [List.take_append_drop]
    rw [this, List.drop_append_of_le_length (by simp; omega)]
  rw [h1, List.take_append_drop]
theorem sub_ter (hl : GoodL l) (hT : Ter l t) (hp : p < t.length) : Ter l (subL l t p) := by
  obtain ⟨s, r, e, hs⟩ := hT.at_ hp
  rw [subL_of hl e hs]; exact hs
theorem sub_chk (hl : GoodL l) (hk : chk l t = 0) (hp : p < t.length) : chk l (subL l t p) = 0 := by
  obtain ⟨h1, h2, h3⟩ := (chk_iff hl).1 hk
  refine (chk_iff hl).2 ⟨by simp [subL]; omega, sub_ter hl h2 hp, fun n hn => h3 n ?_⟩
  exact List.mem_of_mem_take (List.mem_of_mem_drop hn)
theorem put_ter (hl : GoodL l) (hT : Ter l t) (hU : Ter l u) (hp : p < t.length) : Ter l (putL l t p u) := by
  obtain ⟨s, r, e, hs⟩ := hT.at_ hp
  have he := endN_of hl e hs
  have hr : t.drop (endN l t p) = r := by rw [he, ← List.drop_drop, e]; simp
  unfold putL
  rw [hr]
  have h1 : IsT (an l) 1 (t.take p ++ (s ++ r)) := by rw [← e, List.take_append_drop]; exact hT
  exact IsT.put hs hU h1
theorem put_len (hl : GoodL l) (hT : Ter l t) (hp : p < t.length) : (putL l t p u).length + (subL l t p).length = t.length + u.length := by
  have he := endN_le hl hT hp
  simp [putL, subL]; omega
theorem put_chk (hl : GoodL l) (hk : chk l t = 0) (hu : chk l u = 0) (hp : p < t.length) (hlen : (putL l t p u).length ≤ 2000) : chk l (putL l t p u) = 0 := by
  obtain ⟨h1, h2, h3⟩ := (chk_iff hl).1 hk
  obtain ⟨g1, g2, g3⟩ := (chk_iff hl).1 hu
  refine (chk_iff hl).2 ⟨hlen, put_ter hl h2 g2 hp, fun n hn => ?_⟩
  simp only [putL, List.mem_append] at hn
  rcases hn with hn | hn | hn
  · exact h3 n (List.mem_of_mem_take hn)
  · exact g3 n hn
  · exact h3 n (List.mem_of_mem_drop hn)
theorem put_drop (hp : p ≤ t.length) : (putL l t p u).drop p = u ++ t.drop (endN l t p) := by
  unfold putL
  rw [List.drop_append_of_le_length (by simp; omega), List.drop_eq_nil_of_le (by simp; omega)]; rfl
theorem put_take (hp : p ≤ t.length) : (putL l t p u).take p = t.take p := by
  unfold putL
  rw [List.take_append_of_le_length (by simp; omega), List.take_of_length_le (by simp; omega)]
theorem put_sub (hl : GoodL l) (hU : Ter l u) (hp : p ≤ t.length) : subL l (putL l t p u) p = u := subL_of hl (put_drop hp) hU
end

section
variable {l : List S89} {t t' : List Int} {p : Nat}
/-- Two terms that are the same up to p: a subterm that ends there ends in both alike. -/
theorem end_alike (hl : GoodL l) (hT : Ter l t) (hpt : p ≤ t.length) (hpt' : p ≤ t'.length) (e : t'.take p = t.take p) {h : Nat} (hh : h < t.length) (he : endN l t h ≤ p) : endN l t' h = endN l t h := by
  obtain ⟨s, r, es, hs⟩ := hT.at_ hh
  have hE := endN_of hl es hs
  rw [hE] at he ⊢
  have h1 : t.drop h = (t.take p).drop h ++ t.drop p := by
    rw [← List.drop_append_of_le_length (by simp; omega), List.take_append_drop]
  have h2 : t'.drop h = (t.take p).drop h ++ t'.drop p := by
    rw [← e, ← List.drop_append_of_le_length (by simp; omega), List.take_append_drop]
  have h3 : ∃ r', (t.take p).drop h = s ++ r' := by
    have h4 : s <+: (t.take p).drop h := by
      refine List.prefix_of_prefix_length_le (l₃ := t.drop h) ⟨r, es.symm⟩ ⟨t.drop p, h1.symm⟩ (by simp; omega)
    obtain ⟨r', hr⟩ := h4
    exact ⟨r', hr.symm⟩
  obtain ⟨r', hr⟩ := h3
  exact endN_of hl (t := t') (s := s) (r := r' ++ t'.drop p) (by rw [h2, hr, List.append_assoc]) hs
theorem argsF_alike (hl : GoodL l) (hT : Ter l t) (hpt : p ≤ t.length) (hpt' : p ≤ t'.length) (e : t'.take p = t.take p) : ∀ (n nx j : Nat), j < n → (∀ i, i < j → endN l t ((argsF l t n nx).getD i 0) ≤ p ∧ (argsF l t n nx).getD i 0 < t.length) → (argsF l t' n nx).getD j 0 = (argsF l t n nx).getD j 0
  | n + 1, nx, 0, _, _ => rfl
  | n + 1, nx, j + 1, hj, hi => by
    have h0 := hi 0 (by omega)
    simp only [argsF, List.getD_cons_zero] at h0
    simp only [argsF, List.getD_cons_succ]
    rw [end_alike hl hT hpt hpt' e h0.2 h0.1]
    exact argsF_alike hl hT hpt hpt' e n _ j (by omega) (fun i hij => by have := hi (i + 1) (by omega); simpa only [argsF, List.getD_cons_succ] using this)
theorem path_alike (hl : GoodL l) (hT : Ter l t) (hT' : Ter l t') (hpt : p < t.length) (hpt' : p < t'.length) (e : t'.take p = t.take p) {h : Nat} {r : List Nat} (hr : PathR l t p h r) : h ≤ p → p < endN l t h → PathR l t' p h r := by
  induction hr with
  | refl => intro _ _; exact .refl
  | @step h r hne hr ih =>
    intro h1 h2
    have hA := arg_holds hl hT (show h < p by omega) h2 hpt
    have ht' : p < endN l t' h := by
      rcases Nat.lt_or_ge p (endN l t' h) with h5 | h5
      · exact h5
      · have := end_alike (t := t') (t' := t) hl hT' (Nat.le_of_lt hpt') (Nat.le_of_lt hpt) e.symm (show h < t'.length by omega) h5
        omega
    have hB := arg_holds hl hT' (show h < p by omega) ht' hpt'
    have hrd : rd t' h = rd t h := by
      have hx : ∀ (x : List Int), h < x.length → rd x h = (x.take p).getD h 0 := fun x hx => by
        simp [rd, List.getD_eq_getElem?_getD, show h < p by omega]
      rw [hx t' (by omega), hx t (by omega), e]
    have hal : ∀ j, j < (argsL l t h).length → (∀ i, i < j → endN l t ((argsL l t h).getD i 0) ≤ p) → (argsL l t' h).getD j 0 = (argsL l t h).getD j 0 := by
      intro j hj hi
      have hn : (ar l (rd t h)).toNat = (argsL l t h).length := by unfold argsL; rw [argsF_length]
      unfold argsL
      rw [hrd]
      refine argsF_alike hl hT (Nat.le_of_lt hpt) (Nat.le_of_lt hpt') e _ _ j (by omega) (fun i hij => ⟨hi i hij, (argsL_le hl hT (show h < t.length by omega) _ (getD_mem (show i < (argsL l t h).length by omega))).2⟩)
    have hlen : (argsL l t' h).length = (argsL l t h).length := by unfold argsL; rw [argsF_length, argsF_length, hrd]
    have hK : (argsL l t' h).getD (kL p (argsL l t h)) 0 = (argsL l t h).getD (kL p (argsL l t h)) 0 := hal _ hA.1 (fun i hi => Nat.le_trans (args_tile hl hT (show h < t.length by omega) hi hA.1) hA.2.2.1)
    have hkk : kL p (argsL l t' h) = kL p (argsL l t h) := by
      rcases Nat.lt_trichotomy (kL p (argsL l t' h)) (kL p (argsL l t h)) with hlt | heq | hgt
      · have := args_tile hl hT' (show h < t'.length by omega) hlt (by omega)
        omega
      · exact heq
      · have h3 := args_tile hl hT' (show h < t'.length by omega) hgt hB.1
        rw [hK] at h3
        have h4 := end_alike (t := t') (t' := t) hl hT' (Nat.le_of_lt hpt') (Nat.le_of_lt hpt) e.symm (show (argsL l t h).getD (kL p (argsL l t h)) 0 < t'.length by omega) (by omega)
        omega
    have := PathR.step (l := l) (t := t') (p := p) (h := h) (r := r) hne (by rw [hkk, hK]; exact ih hA.2.2.1 hA.2.2.2)
    rw [hkk] at this
    exact this
/-- The path leads back. -/
theorem from_path (hl : GoodL l) (hT : Ter l t) (hpt : p < t.length) {h : Nat} {r : List Nat} (hr : PathR l t p h r) : h ≤ p → p < endN l t h → fromL l t (toI r) h = some p := by
  induction hr with
  | refl => intro _ _; rfl
  | @step h r hne hr ih =>
    intro h1 h2
    have hA := arg_holds hl hT (show h < p by omega) h2 hpt
    show fromL l t ((kL p (argsL l t h) : Int) :: toI r) h = some p
    simp only [fromL]
    rw [if_neg (by omega), if_neg (by omega), Int.toNat_natCast]
    exact ih hA.2.2.1 hA.2.2.2
theorem end0 (hl : GoodL l) (hT : Ter l t) : endN l t 0 = t.length := by
  have := endN_of hl (t := t) (s := t) (r := []) (p := 0) (by simp) hT
  omega
end
end Go.Proofs.Ytadjoaipmcbieaa
