/- PLAIN: lists that are terms in prefix order: what the loop of term.end tells of them; places, arguments. -/
import Derived.Test.YtadjoaipmcbieaaS4
namespace Go.Proofs.Ytadjoaipmcbieaa
open Go.RowKit Go.Proofs.YtadjoaipmcbieaaW.PrintWords Go.Proofs.YtadjoaipmcbieaaW.PrintLast Go.Proofs.YtadjoaipmcbieaaW.PrintMore A

/-- A list is just k terms, one behind the other. -/
inductive IsT (b : Int → Nat) : Nat → List Int → Prop
  | nil : IsT b 0 []
  | cons {k : Nat} {n : Int} {r : List Int} (h : IsT b (b n + k) r) : IsT b (k + 1) (n :: r)

section
variable {b : Int → Nat} {a : Int → Int}
theorem IsT.zero {xs : List Int} (h : IsT b 0 xs) : xs = [] := by cases h; rfl
theorem IsT.of_nil {k : Nat} (h : IsT b k []) : k = 0 := by cases h; rfl
theorem IsT.uncons {k : Nat} {n : Int} {r : List Int} (h : IsT b k (n :: r)) : ∃ m, k = m + 1 ∧ IsT b (b n + m) r := by
  cases h with | cons h => exact ⟨_, rfl, h⟩
theorem IsT.pos {k : Nat} {xs : List Int} (h : IsT b k xs) : k ≤ xs.length := by
  induction h with
  | nil => simp
  | cons _ ih => simp only [List.length_cons]; omega
theorem IsT.append {k m : Nat} {xs ys : List Int} (h : IsT b k xs) (h' : IsT b m ys) : IsT b (k + m) (xs ++ ys) := by
  induction h with
  | nil => simpa using h'
  | @cons k n r _ ih => rw [show k + 1 + m = (k + m) + 1 by omega]; exact IsT.cons (by rw [← Nat.add_assoc]; exact ih)
theorem IsT.split {k m : Nat} {zs : List Int} (h : IsT b (k + m) zs) : ∃ xs ys, zs = xs ++ ys ∧ IsT b k xs ∧ IsT b m ys := by
  generalize hN : k + m = N at h
  induction h generalizing k m with
  | nil => exact ⟨[], [], rfl, by rw [show k = 0 by omega]; exact .nil, by rw [show m = 0 by omega]; exact .nil⟩
  | @cons N n r _ ih =>
    rcases Nat.eq_zero_or_pos k with rfl | hk
    · exact ⟨[], n :: r, rfl, .nil, by rw [show m = N + 1 by omega]; exact .cons ‹_›⟩
    · obtain ⟨xs, ys, rfl, h1, h2⟩ := ih (k := b n + (k - 1)) (m := m) (by omega)
      exact ⟨n :: xs, ys, rfl, by rw [show k = (k - 1) + 1 by omega]; exact .cons h1, h2⟩
/-- What stands behind a place is some terms, too. -/
theorem IsT.suffix {k : Nat} {xs ys : List Int} (h : IsT b k (xs ++ ys)) : ∃ m, IsT b m ys := by
  induction xs generalizing k with
  | nil => exact ⟨k, h⟩
  | cons x xs ih => obtain ⟨m, _, h'⟩ := IsT.uncons h; exact ih h'
theorem IsT.prefix_eq {k : Nat} {xs ys r r' : List Int} (h : IsT b k xs) (h' : IsT b k ys) (e : xs ++ r = ys ++ r') : xs = ys := by
  induction h generalizing ys with
  | nil => exact h'.zero.symm
  | @cons k n xs _ ih =>
    cases ys with
    | nil => have := h'.of_nil; omega
    | cons y ys =>
      simp only [List.cons_append, List.cons.injEq] at e
      obtain ⟨rfl, e⟩ := e
      obtain ⟨m, hm, h2⟩ := IsT.uncons h'
      obtain rfl : m = k := by omega
      rw [ih h2 e]

theorem fin_isT (hb : ∀ n, a n = b n) {k : Nat} {xs : List Int} (h : IsT b k xs) (r : List Int) (p : Nat) : fin a (xs ++ r) k p = p + xs.length := by
  induction h generalizing p with
  | nil => rw [fin_stop (by omega)]; simp
  | @cons k n xs _ ih =>
    rw [List.cons_append, fin, if_pos (by omega), hb, show ((k + 1 : Nat) : Int) + ((b n : Int) - 1) = ((b n + k : Nat) : Int) by omega, ih]
    simp only [List.length_cons]; omega
theorem isT_fin (hb : ∀ n, a n = b n) : ∀ (t : List Int) (k p : Nat), fin a t k p ≤ p + t.length → ∃ xs r, t = xs ++ r ∧ IsT b k xs ∧ fin a t k p = p + xs.length
  | [], k, p, h => by
    rcases Nat.eq_zero_or_pos k with rfl | hk
    · exact ⟨[], [], rfl, .nil, by simp [fin]⟩
    · rw [fin, if_pos (by omega)] at h; simp at h; omega
  | n :: t, k, p, h => by
    rcases Nat.eq_zero_or_pos k with rfl | hk
    · exact ⟨[], n :: t, rfl, .nil, by simp [fin]⟩
    · obtain ⟨k, rfl⟩ : ∃ m, k = m + 1 := ⟨k - 1, by omega⟩
      have e : fin a (n :: t) ((k + 1 : Nat) : Int) p = fin a t ((b n + k : Nat) : Int) (p + 1) := by
        rw [fin, if_pos (by omega), hb, show ((k + 1 : Nat) : Int) + ((b n : Int) - 1) = ((b n + k : Nat) : Int) by omega]
      rw [e] at h ⊢
      simp only [List.length_cons] at h
      obtain ⟨xs, r, rfl, h1, h2⟩ := isT_fin hb t (b n + k) (p + 1) (by omega)
      exact ⟨n :: xs, r, rfl, .cons h1, by rw [h2]; simp only [List.length_cons]; omega⟩
end

/-- Arities as numbers from 0 on. -/
def an (l : List S89) (n : Int) : Nat := (ar l n).toNat
theorem an_ar {l : List S89} (hl : GoodL l) (n : Int) : ar l n = (an l n : Nat) := by have := ar_bd hl n; unfold an; omega

/-- t is a term over l. -/
abbrev Ter (l : List S89) (t : List Int) : Prop := IsT (an l) 1 t

theorem chk_ter {l : List S89} {t : List Int} (hl : GoodL l) (h : chk l t = 0) : Ter l t := by
  unfold chk at h
  split at h
  · omega
  · have key : ∀ (r : List Int) (z : Int), bads l.length r z = 0 → z = 0 := by
      intro r
      induction r with
      | nil => intro z hz; exact hz
      | cons n r ih =>
        intro z hz
        rw [bads] at hz
        split at hz
        · exact ih z hz
        · contradiction
    have h2 := key _ _ h
    unfold shape at h2
    split at h2
    · omega
    · split at h2
      · rename_i h3 h4
        obtain ⟨xs, r, e, h5, h6⟩ := isT_fin (an_ar hl) t 1 0 (by have h4' : fin (ar l) t ((1 : Nat) : Int) 0 = t.length := h4; omega)
        have h7 : xs.length = t.length := by have h4' : fin (ar l) t ((1 : Nat) : Int) 0 = t.length := h4; omega
        have h8 : r = [] := by
          have := congrArg List.length e
          rw [List.length_append] at this
          exact List.eq_nil_of_length_eq_zero (by omega)
        subst h8
        rw [List.append_nil] at e
        rw [e]; exact h5
      · omega

/-- At each place of a term a subterm stands. -/
theorem Ter.at_ {l : List S89} {t : List Int} (h : Ter l t) {p : Nat} (hp : p < t.length) : ∃ s r, t.drop p = s ++ r ∧ Ter l s := by
  have h1 : IsT (an l) 1 (t.take p ++ t.drop p) := by rw [List.take_append_drop]; exact h
  obtain ⟨m, hm⟩ := h1.suffix
  have hm1 : 1 ≤ m := by
    rcases Nat.eq_zero_or_pos m with rfl | h0
    · have := congrArg List.length hm.zero; simp at this; omega
    · exact h0
  obtain ⟨s, r, e, hs, _⟩ := IsT.split (k := 1) (m := m - 1) (by rw [show 1 + (m - 1) = m by omega]; exact hm)
  exact ⟨s, r, e, hs⟩
theorem endN_of {l : List S89} (hl : GoodL l) {t s r : List Int} {p : Nat} (e : t.drop p = s ++ r) (hs : Ter l s) : endN l t p = p + s.length := by
  have h := fin_isT (an_ar hl) hs r p
  unfold endN
  rw [e]
  have h' : fin (ar l) (s ++ r) 1 p = p + s.length := h
  rw [h']; omega
theorem endN_le {l : List S89} (hl : GoodL l) {t : List Int} (h : Ter l t) {p : Nat} (hp : p < t.length) : endN l t p ≤ t.length ∧ p < endN l t p := by
  obtain ⟨s, r, e, hs⟩ := h.at_ hp
  have hs1 := hs.pos
  rw [endN_of hl e hs]
  have := congrArg List.length e
  simp at this
  omega
theorem subL_of {l : List S89} (hl : GoodL l) {t s r : List Int} {p : Nat} (e : t.drop p = s ++ r) (hs : Ter l s) : subL l t p = s := by
  unfold subL
  rw [endN_of hl e hs, List.drop_take, e]
  simp

/-- The places at which lists stand that are laid one behind the other. -/
def starts : Nat → List (List Int) → List Nat
  | _, [] => []
  | p, s :: ss => p :: starts (p + s.length) ss
theorem IsT.parts {b : Int → Nat} : ∀ {k : Nat} {xs : List Int}, IsT b k xs → ∃ ss : List (List Int), ss.length = k ∧ (∀ s ∈ ss, IsT b 1 s) ∧ xs = ss.flatten
  | 0, xs, h => ⟨[], rfl, by simp, by rw [h.zero]; rfl⟩
  | k + 1, xs, h => by
    obtain ⟨s, r, rfl, h1, h2⟩ := IsT.split (k := 1) (m := k) (by rw [Nat.add_comm]; exact h)
    obtain ⟨ss, rfl, h3, rfl⟩ := h2.parts
    exact ⟨s :: ss, rfl, by simpa using ⟨h1, h3⟩, rfl⟩
theorem argsF_starts {l : List S89} (hl : GoodL l) {t : List Int} : ∀ {ss : List (List Int)} {nx : Nat} {r : List Int}, (∀ s ∈ ss, Ter l s) → t.drop nx = ss.flatten ++ r → argsF l t ss.length nx = starts nx ss
  | [], _, _, _, _ => rfl
  | s :: ss, nx, r, hs, e => by
    rw [List.flatten_cons, List.append_assoc] at e
    have he := endN_of hl e (hs s (by simp))
    simp only [List.length_cons, argsF, starts]
    rw [he, argsF_starts hl (r := r) (fun x hx => hs x (by simp [hx]))]
    rw [← List.drop_drop, e]; simp
theorem starts_le : ∀ {ss : List (List Int)} {p x : Nat}, (∀ s ∈ ss, s ≠ []) → x ∈ starts p ss → p ≤ x ∧ x < p + ss.flatten.length
  | [], _, _, _, h => by simp [starts] at h
  | s :: ss, p, x, hs, h => by
    have h0 : 0 < s.length := List.length_pos_iff.2 (hs s (by simp))
    simp only [starts, List.mem_cons] at h
    rw [List.flatten_cons, List.length_append]
    rcases h with rfl | h
    · omega
    · have := starts_le (fun x hx => hs x (by simp [hx])) h; omega
theorem Ter.ne {l : List S89} {s : List Int} (h : Ter l s) : s ≠ [] := by rintro rfl; have := h.of_nil; omega

/-- What stands behind a place of a term: its arguments, one behind the other. -/
theorem Ter.args_at {l : List S89} {t : List Int} (h : Ter l t) {p : Nat} (hp : p < t.length) :
    ∃ (ss : List (List Int)) (r : List Int), t.drop (p + 1) = ss.flatten ++ r ∧ ss.length = an l (rd t p) ∧ (∀ s ∈ ss, Ter l s) ∧ Ter l (rd t p :: ss.flatten) := by
  obtain ⟨s, r, e, hs⟩ := h.at_ hp
  rw [drop_rd t p hp] at e
  cases s with
  | nil => exact absurd rfl hs.ne
  | cons n s =>
    simp only [List.cons_append, List.cons.injEq] at e
    obtain ⟨rfl, e⟩ := e
    obtain ⟨m, hm, h1⟩ := hs.uncons
    obtain rfl : m = 0 := by omega
    obtain ⟨ss, h2, h3, rfl⟩ := h1.parts
    exact ⟨ss, r, e, by omega, h3, hs⟩
theorem argsL_at {l : List S89} (hl : GoodL l) {t : List Int} {p : Nat} {ss : List (List Int)} {r : List Int} (e : t.drop (p + 1) = ss.flatten ++ r) (hn : ss.length = an l (rd t p)) (hs : ∀ s ∈ ss, Ter l s) : argsL l t p = starts (p + 1) ss := by
  unfold argsL
  rw [← argsF_starts hl hs e, hn]; rfl
theorem argsL_le {l : List S89} (hl : GoodL l) {t : List Int} (h : Ter l t) {p : Nat} (hp : p < t.length) : ∀ x ∈ argsL l t p, p < x ∧ x < t.length := by
  obtain ⟨ss, r, e, hn, hs, _⟩ := h.args_at hp
  rw [argsL_at hl e hn hs]
  intro x hx
  have h1 := starts_le (fun s h => (hs s h).ne) hx
  have := congrArg List.length e
  simp at this
  rw [List.length_flatten] at h1
  omega
end Go.Proofs.Ytadjoaipmcbieaa
