/- The document's Depth, told as term's own answer. -/
import Derived.Test.YtadjoaipmcbieaaQ0
import Derived.Test.YtadjoaipmcbieaaS8
import Derived.Test.YtadjoaipmcbieaaGH
namespace Go.Proofs.Ytadjoaipmcbieaa
open Go.RowKit Go.Proofs.YtadjoaipmcbieaaW.PrintWords Go.Proofs.YtadjoaipmcbieaaW.PrintLast Go.Proofs.YtadjoaipmcbieaaW.PrintMore A

/-- The document's list of open symbols, its last one first. -/
def stk (S : List Nat) : List Int := toI S.reverse
theorem stk_len (S : List Nat) : (stk S).length = S.length := by simp [stk, toI]
theorem stk_cons (a : Nat) (R : List Nat) : stk (a :: R) = stk R ++ [(a : Int)] := by simp [stk, toI]
theorem stk_top (a : Nat) (R : List Nat) : rd (stk (a :: R)) (R.length : Int) = a := by
  rw [stk_cons]; simp [rd, List.getD_eq_getElem?_getD, ← stk_len R]
theorem stk_take (a : Nat) (R : List Nat) : (stk (a :: R)).take R.length = stk R := by
  rw [stk_cons, ← stk_len R]; simp
theorem stk_set (b c : Nat) (R : List Nat) : (stk (b :: R)).set R.length (c : Int) = stk (c :: R) := by
  rw [stk_cons, stk_cons, ← stk_len R]; simp
/-- A symbol whose arguments have come is taken away, and the one around it waits for one fewer. -/
def unw : Nat → List Nat → List Nat
  | a, [] => if a = 0 then [] else [a]
  | a, b :: R => if a = 0 then unw (b - 1) R else a :: b :: R
theorem unw_pos {a : Nat} (h : 0 < a) (R : List Nat) : unw a R = a :: R := by
  cases R <;> simp only [unw] <;> rw [if_neg (by omega)]

section
variable {l : List S89} {t : List Int} {res : Int} (f : Nat) (i : Nat) (m : Int)
theorem hlen1 (a : Nat) (R : List Nat) : (((a :: R).length : Nat) : Int) - 1 = R.length := by simp
theorem l1_pos (hi : i < 2000) {a : Nat} (ha : 0 < a) (R : List Nat) (hR : R.length ≤ 4000) : ropewalkref02_Depth.l1 (f + 2) l t m (stk (a :: R)) (i : Int) = ropewalkref02_Depth.l0 f l t m (stk (a :: R)) ((i + 1 : Nat) : Int) := by
  simp only [ropewalkref02_Depth.l1, ropewalkref02_Depth.j3, stk_len, hlen1]
  rw [if_pos (by first | omega | (simp; done) | (simp; omega)), wrap_id (by omega) (by omega), if_pos (by omega), if_pos (by first | omega | (simp; done) | (simp; omega)), stk_top, show ((a : Int) == 0) = false from beq_eq_false_iff_ne.2 (by omega), if_neg (by simp), wrap_id (by omega) (by omega)]
  rfl
theorem l1_nil (hi : i < 2000) : ropewalkref02_Depth.l1 (f + 2) l t m (stk []) (i : Int) = ropewalkref02_Depth.l0 f l t m (stk []) ((i + 1 : Nat) : Int) := by
  simp only [ropewalkref02_Depth.l1, ropewalkref02_Depth.j3, stk_len]
  rw [if_neg (by simp), if_neg (by simp), wrap_id (by omega) (by omega)]
  rfl
theorem l1_zero {b : Nat} (hb : 1 ≤ b) (hb2 : b ≤ 4000) (R : List Nat) (hR : R.length ≤ 4000) : ropewalkref02_Depth.l1 (f + 2) l t m (stk (0 :: b :: R)) (i : Int) = ropewalkref02_Depth.l1 f l t m (stk ((b - 1) :: R)) (i : Int) := by
  simp only [ropewalkref02_Depth.l1, ropewalkref02_Depth.j3, stk_len, hlen1]
  rw [if_pos (by first | omega | (simp; done) | (simp; omega)), wrap_id (by first | omega | (simp; done) | (simp; omega)) (by first | omega | (simp; done) | (simp; omega)), if_pos (by omega), if_pos (by first | omega | (simp; done) | (simp; omega)), stk_top, show (((0 : Nat) : Int) == 0) = true from rfl, if_pos rfl, if_pos (by omega), if_pos (by first | omega | (simp; done) | (simp; omega)), Int.toNat_natCast, stk_take, Option.bind_some, stk_len, hlen1,
    if_pos (by first | omega | (simp; done) | (simp; omega)), wrap_id (by omega) (by omega), if_pos (by omega), if_pos (by first | omega | (simp; done) | (simp; omega)), Int.toNat_natCast, stk_top, wrap_id (by omega) (by omega), show (b : Int) - 1 = ((b - 1 : Nat) : Int) by omega, stk_set]
theorem l1_zero_nil : ropewalkref02_Depth.l1 (f + 2) l t m (stk [0]) (i : Int) = ropewalkref02_Depth.l1 f l t m (stk []) (i : Int) := by
  simp only [ropewalkref02_Depth.l1, ropewalkref02_Depth.j3, stk_len, hlen1]
  rw [if_pos (by first | omega | (simp; done) | (simp; omega)), wrap_id (by simp) (by simp), if_pos (by first | omega | (simp; done) | (simp; omega)), if_pos (by first | omega | (simp; done) | (simp; omega)), stk_top 0 [], show (((0 : Nat) : Int) == 0) = true from rfl, if_pos rfl, if_pos (by first | omega | (simp; done) | (simp; omega)), if_pos (by first | omega | (simp; done) | (simp; omega)), Int.toNat_natCast, stk_take 0 [], Option.bind_some, stk_len, if_neg (by simp)]

theorem rdep_l1 (hi : i < 2000) : ∀ (R : List Nat) (a : Nat), (∀ x ∈ R, 1 ≤ x ∧ x ≤ 4000) → R.length ≤ 4000 → (∃ f, ropewalkref02_Depth.l0 f l t m (stk (unw a R)) ((i + 1 : Nat) : Int) = some res) → ∃ f, ropewalkref02_Depth.l1 f l t m (stk (a :: R)) (i : Int) = some res
  | [], 0, _, _, ⟨f, hf⟩ => ⟨f + 2 + 2, by rw [l1_zero_nil, l1_nil f i m hi]; exact hf⟩
  | R, a + 1, _, hl, ⟨f, hf⟩ => ⟨f + 2, by rw [l1_pos f i m hi (by omega) R hl]; rw [unw_pos (by omega)] at hf; exact hf⟩
  | b :: R, 0, hp, hl, hf => by
    obtain ⟨hb1, hb2⟩ := hp b (by simp)
    obtain ⟨f', hf'⟩ := rdep_l1 hi R (b - 1) (fun x hx => hp x (by simp [hx])) (by simp at hl; omega) (by simpa only [unw, if_true] using hf)
    exact ⟨f' + 2, by rw [l1_zero f' i m hb1 hb2 R (by simp at hl; omega)]; exact hf'⟩

theorem rdep_run (hl : GoodL l) (ht : t.length ≤ 2000) {k : Nat} {s : List Int} {D : Nat} (h : DepK (an l) k s D) : ∀ (O : List Nat) (i m : Nat) (r : List Int), t.drop i = s ++ r → (∀ x ∈ O, 1 ≤ x ∧ x ≤ 4000) → O.length ≤ i → O.length + 1 ≤ m → k ≤ 4000 → m ≤ 4000 →
    (∃ f, ropewalkref02_Depth.l0 f l t (max m (O.length + 1 + D) : Nat) (stk (unw 0 O)) ((i + s.length : Nat) : Int) = some res) → ∃ f, ropewalkref02_Depth.l0 f l t (m : Nat) (stk (unw k O)) (i : Int) = some res := by
  induction h with
  | nil =>
    intro O i m r e hO hOi hm _ _ hf
    rw [show max m (O.length + 1 + 0) = m by omega] at hf
    exact hf
  | @cons k n body rest d e hb hr ih ih' =>
    intro O i m r ed hO hOi hm hk hm4 hf
    have hlt : i < t.length := by
      rcases Nat.lt_or_ge i t.length with h | h
      · exact h
      · rw [List.drop_eq_nil_of_le h] at ed; simp at ed
    have e0 := ed
    rw [drop_rd t i hlt, List.cons_append, List.cons.injEq] at ed
    obtain ⟨hn, e2⟩ := ed
    rw [List.append_assoc] at e2
    have hbd := ar_bd hl n
    have hdb := hb.le
    have hlen := congrArg List.length e0
    simp only [List.length_drop, List.length_append, List.length_cons] at hlen hf
    have hb4 : an l n ≤ 6 := by unfold an; omega
    have e3 : t.drop (i + 1 + body.length) = rest ++ r := by
      rw [← List.drop_drop, e2]; simp
    obtain ⟨f, hf⟩ := ih' O (i + 1 + body.length) (max (max m (O.length + 2)) (O.length + 2 + d)) r e3 hO (by omega) (by omega) (by omega) (by omega) (by
      obtain ⟨f, hf⟩ := hf
      refine ⟨f, ?_⟩
      rw [show max (max (max m (O.length + 2)) (O.length + 2 + d)) (O.length + 1 + e) = max m (O.length + 1 + max (d + 1) e) by omega, show i + 1 + body.length + rest.length = i + (body.length + rest.length + 1) by omega]
      exact hf)
    have hO' : ∀ x ∈ (k + 1) :: O, 1 ≤ x ∧ x ≤ 4000 := by
      intro x hx
      rcases List.mem_cons.1 hx with rfl | hx
      · omega
      · exact hO x hx
    have h1 := ih ((k + 1) :: O) (i + 1) (max m (O.length + 2)) (rest ++ r) e2 hO' (by first | omega | (simp; done) | (simp; omega)) (by first | omega | (simp; done) | (simp; omega)) (by omega) (by omega) ⟨f, by
      rw [show ((k + 1) :: O).length + 1 + d = O.length + 2 + d by first | omega | (simp; done) | (simp; omega)]
      exact hf⟩
    obtain ⟨f, hf⟩ := rdep_l1 i _ (by omega) ((k + 1) :: O) (an l n) hO' (by first | omega | (simp; done) | (simp; omega)) h1
    refine ⟨f + 2, ?_⟩
    rw [unw_pos (by omega)]
    simp only [ropewalkref02_Depth.l0, ropewalkref02_Depth.j1, stk_len]
    rw [if_pos (by omega), wrap_id (by first | omega | (simp; done) | (simp; omega)) (by first | omega | (simp; done) | (simp; omega))]
    have key : ∀ M : Int, M = ((max m (O.length + 2) : Nat) : Int) → ((if (0 : Int) ≤ i then if (i : Int) < t.length then (ropewalkref02_arity.f l (rd t i)).bind fun t172 => if ((k + 1) :: O).length < 17592186044416 then ropewalkref02_Depth.l1 f l t M (stk ((k + 1) :: O) ++ [t172]) i else none else none else none) = some res) := by
      intro M hM
      rw [if_pos (by omega), if_pos (by omega), rarity hl, Option.bind_some, if_pos (by first | omega | (simp; done) | (simp; omega)), hn, an_ar hl, ← stk_cons, hM]
      exact hf
    by_cases hc : ((((k + 1) :: O).length : Nat) : Int) + 1 > m
    · rw [if_pos hc]; exact key _ (by simp at hc ⊢; omega)
    · rw [if_neg hc]; exact key _ (by simp at hc ⊢; omega)

theorem rdepth (hl : GoodL l) (ht : t.length ≤ 2000) {D : Nat} (h : DepK (an l) 1 t D) : ∃ f, ropewalkref02_Depth.f f l t = some (D : Int) := by
  generalize hk : (1 : Nat) = k at h
  cases h with
  | nil => omega
  | @cons k n body rest d e hb hr =>
    obtain rfl : k = 0 := by omega
    obtain rfl := hr.isT.zero
    cases hr
    rw [List.append_nil] at *
    have hb4 : an l n ≤ 6 := by have := ar_bd hl n; unfold an; omega
    simp only [List.length_cons] at ht
    obtain ⟨f, hf⟩ := rdep_l1 (l := l) (t := n :: body) (res := ((max 1 (0 + 1 + d) : Nat) : Int)) 0 ((1 : Nat) : Int) (by omega) [] (an l n) (by simp) (by simp)
      (rdep_run hl (by simpa using ht) hb [] 1 1 [] (by simp) (by simp) (by simp) (by simp) (by omega) (by omega) ⟨1, by
        simp only [ropewalkref02_Depth.l0]
        rw [if_neg (by first | omega | (simp; done) | (simp; omega))]; rfl⟩)
    refine ⟨f + 2, ?_⟩
    simp only [ropewalkref02_Depth.f, ropewalkref02_Depth.l0, ropewalkref02_Depth.j1]
    rw [if_pos (by first | omega | (simp; done) | (simp; omega)), if_pos (by simp [wrap64]), if_pos (by omega), if_pos (by first | omega | (simp; done) | (simp; omega)), show rd (n :: body) 0 = n from rfl, rarity hl, Option.bind_some, if_pos (by first | omega | (simp; done) | (simp; omega)), an_ar hl, show max (d + 1) 0 = max 1 (0 + 1 + d) by omega]
    have e1 : wrap64 ((([] : List Int).length : Int) + 1) = ((1 : Nat) : Int) := by simp [wrap64]
    rw [e1]
    exact hf
end

theorem refDepth_any (A : Option Addr) (c : Nat) (l : List S89) (B : Option Addr) (n d : Nat) (t : List Int) (w : World) (hr : Kd.C k89 w A l.length l) (hc : l.length ≤ c) (hl : GoodL l)
    (ht : Kd.C (Kd.int .i64) w B n t) (hd : n ≤ d) (hk : chk l t = 0) {D : Nat} (h : DepK (an l) 1 t D) :
    Calls Try.prog 40 #[.slice A l.length c, .slice B n d] w fun e w' => e = .returned (.int .i64 D) ∧ Below w.heap.size w w' := by
  obtain rfl : t.length = n := ht.1
  obtain ⟨f, hf⟩ := rdepth hl (chk_len hk) h
  exact ropewalkref02_Depth.calls f A c l B d t _ w hr hc ht hd hf
end Go.Proofs.Ytadjoaipmcbieaa
