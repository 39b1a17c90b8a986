/- PLAIN: the arguments tile a term: each place but the root is the argument of just one place. -/
import Derived.Test.YtadjoaipmcbieaaQ5
namespace Go.Proofs.Ytadjoaipmcbieaa
open Go.RowKit Go.Proofs.YtadjoaipmcbieaaW.PrintWords Go.Proofs.YtadjoaipmcbieaaW.PrintLast Go.Proofs.YtadjoaipmcbieaaW.PrintMore A

/-- The place behind k subterms that stand one behind the other from nx on. -/
def posF (l : List S89) (t : List Int) : Nat → Nat → Nat
  | 0, nx => nx
  | k + 1, nx => posF l t k (endN l t nx)
section
variable {l : List S89} {t : List Int}
theorem posF_succ : ∀ (k nx : Nat), posF l t (k + 1) nx = endN l t (posF l t k nx)
  | 0, _ => rfl
  | k + 1, nx => posF_succ k (endN l t nx)
theorem argsF_pos : ∀ (n nx k : Nat), k < n → (argsF l t n nx).getD k 0 = posF l t k nx
  | n + 1, nx, 0, _ => rfl
  | n + 1, nx, k + 1, h => by
    simp only [argsF, List.getD_cons_succ, posF]
    exact argsF_pos n (endN l t nx) k (by omega)
theorem posF_parts (hl : GoodL l) : ∀ {ss : List (List Int)} {q : Nat} {r : List Int}, (∀ s ∈ ss, Ter l s) → t.drop q = ss.flatten ++ r → posF l t ss.length q = q + ss.flatten.length
  | [], q, _, _, _ => by simp [posF]
  | s :: ss, q, r, hs, e => by
    rw [List.flatten_cons, List.append_assoc] at e
    have he := endN_of hl e (hs s (by simp))
    simp only [List.length_cons, posF]
    rw [he, posF_parts hl (r := r) (fun x hx => hs x (by simp [hx])) (by rw [← List.drop_drop, e]; simp), List.flatten_cons, List.length_append]
    omega
/-- The end of a place with arguments: the end of its last. -/
theorem pos_end (hl : GoodL l) (hT : Ter l t) {h : Nat} (hh : h < t.length) : posF l t (argsL l t h).length (h + 1) = endN l t h ∧ ∀ x ∈ argsL l t h, x < endN l t h := by
  obtain ⟨ss, r, e, hn, hs, hter⟩ := hT.args_at hh
  have hE : endN l t h = h + 1 + ss.flatten.length := by
    rw [endN_of hl (s := rd t h :: ss.flatten) (r := r) (by rw [drop_rd t h (by omega), e]; rfl) hter]
    simp only [List.length_cons]; omega
  have h3 : (argsL l t h).length = ss.length := by unfold argsL; rw [argsF_length]; exact hn.symm
  refine ⟨by rw [h3, posF_parts hl hs e, hE], fun x hx => ?_⟩
  rw [argsL_at hl e hn hs] at hx
  rw [hE]
  exact (starts_le (fun s h => (hs s h).ne) hx).2
theorem nest (hl : GoodL l) (hT : Ter l t) {a b : Nat} (ha : a < t.length) (hab : a ≤ b) (hb : b < endN l t a) : endN l t b ≤ endN l t a := by
  obtain ⟨s, r, e, hs⟩ := hT.at_ ha
  have he := endN_of hl e hs
  rw [he] at hb ⊢
  obtain ⟨s', r', e', hs'⟩ := hs.at_ (p := b - a) (by omega)
  have h1 : t.drop b = s' ++ (r' ++ r) := by
    rw [show b = a + (b - a) by omega, ← List.drop_drop, e, List.drop_append_of_le_length (by omega), e', List.append_assoc]
  have h2 := endN_of hl h1 hs'
  have h3 := congrArg List.length e'
  simp only [List.length_drop, List.length_append] at h3
  omega
theorem mem_at {xs : List Nat} {x : Nat} (h : x ∈ xs) : ∃ i, i < xs.length ∧ xs.getD i 0 = x := by
  obtain ⟨i, hi, he⟩ := List.getElem_of_mem h
  exact ⟨i, hi, by rw [List.getD_eq_getElem?_getD, List.getElem?_eq_getElem hi, he]; rfl⟩
theorem parent_lt (hl : GoodL l) (hT : Ter l t) {j j' x : Nat} (hj : j < t.length) (hj' : j' < t.length) (h : x ∈ argsL l t j) (h' : x ∈ argsL l t j') : ¬ j < j' := by
  intro hlt
  have hx := argsL_le hl hT hj x h
  have hx' := argsL_le hl hT hj' x h'
  have he := (pos_end hl hT hj).2 x h
  have he' := (pos_end hl hT hj').2 x h'
  have hA := arg_holds hl hT hlt (show j' < endN l t j by omega) hj'
  obtain ⟨m, hm, hmx⟩ := mem_at h
  have hK := argsL_le hl hT hj _ (getD_mem hA.1)
  rcases Nat.lt_trichotomy m (kL j' (argsL l t j)) with h1 | h1 | h1
  · have := args_tile hl hT hj h1 hA.1
    have h2 := endN_le hl hT (show (argsL l t j).getD m 0 < t.length by omega)
    omega
  · subst h1; omega
  · have := args_tile hl hT hj h1 hm
    have h2 := nest hl hT hK.2 hA.2.2.1 hA.2.2.2
    omega
theorem parent_one (hl : GoodL l) (hT : Ter l t) {j j' x : Nat} (hj : j < t.length) (hj' : j' < t.length) (h : x ∈ argsL l t j) (h' : x ∈ argsL l t j') : j = j' := by
  have h1 := parent_lt hl hT hj hj' h h'
  have h2 := parent_lt hl hT hj' hj h' h
  omega
theorem parent_at (hl : GoodL l) (hT : Ter l t) {x : Nat} (hx : x < t.length) : ∀ (N h : Nat), x - h ≤ N → h < x → x < endN l t h → ∃ j, j < t.length ∧ x ∈ argsL l t j
  | N, h, hN, h1, h2 => by
    have hA := arg_holds hl hT h1 h2 hx
    by_cases e : (argsL l t h).getD (kL x (argsL l t h)) 0 = x
    · exact ⟨h, by omega, by rw [← e]; rw [e]; exact e ▸ getD_mem hA.1⟩
    · cases N with
      | zero => omega
      | succ N => exact parent_at hl hT hx N _ (by omega) (by omega) hA.2.2.2

/-- How many of the first i places have x as an argument. -/
def cnt (l : List S89) (t : List Int) : Nat → Nat → Nat
  | 0, _ => 0
  | i + 1, x => cnt l t i x + (if x ∈ argsL l t i then 1 else 0)
theorem cnt_one (hl : GoodL l) (hT : Ter l t) {j x : Nat} (hj : j < t.length) (h : x ∈ argsL l t j) : ∀ i, i ≤ t.length → cnt l t i x = if j < i then 1 else 0
  | 0, _ => by simp [cnt]
  | i + 1, hi => by
    simp only [cnt]
    rw [cnt_one hl hT hj h i (by omega)]
    by_cases hx : x ∈ argsL l t i
    · obtain rfl := parent_one hl hT hj (by omega) h hx
      rw [if_pos hx, if_neg (by omega), if_pos (by omega)]
    · rw [if_neg hx]
      have : i ≠ j := fun e => hx (e ▸ h)
      by_cases hji : j < i
      · rw [if_pos hji, if_pos (by omega)]
      · rw [if_neg hji, if_neg (by omega)]
theorem cnt_all (hl : GoodL l) (hT : Ter l t) {x : Nat} (h0 : 0 < x) (hx : x < t.length) : cnt l t t.length x = 1 := by
  have he := endN_of hl (t := t) (s := t) (r := []) (p := 0) (by simp) hT
  obtain ⟨j, hj, h⟩ := parent_at hl hT hx x 0 (by omega) h0 (by omega)
  rw [cnt_one hl hT hj h _ (Nat.le_refl _), if_pos hj]
theorem cnt_root (hl : GoodL l) (hT : Ter l t) : ∀ i, i ≤ t.length → cnt l t i 0 = 0
  | 0, _ => rfl
  | i + 1, hi => by
    simp only [cnt]
    rw [cnt_root hl hT i (by omega), if_neg (fun h => by have := argsL_le hl hT (show i < t.length by omega) 0 h; omega)]
end
end Go.Proofs.Ytadjoaipmcbieaa
