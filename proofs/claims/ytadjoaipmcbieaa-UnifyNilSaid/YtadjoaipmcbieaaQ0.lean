/- What the document's functions of layer 2 answer, told as term's own answers: arity, Check, places, End; plain, no program. -/
import Derived.Test.YtadjoaipmcbieaaSS
import Derived.Test.YtadjoaipmcbieaaR0
import Derived.Test.YtadjoaipmcbieaaGB
import Derived.Test.YtadjoaipmcbieaaGC
namespace Go.Proofs.Ytadjoaipmcbieaa
open Go.RowKit Go.Proofs.YtadjoaipmcbieaaW.PrintWords Go.Proofs.YtadjoaipmcbieaaW.PrintLast Go.Proofs.YtadjoaipmcbieaaW.PrintMore A

theorem wrap_id {x : Int} (h1 : -9223372036854775808 ≤ x) (h2 : x ≤ 9223372036854775807) : wrap64 x = x := by unfold wrap64; omega

theorem rarity {l : List S89} (h : GoodL l) (n : Int) : ropewalkref02_arity.f l n = some (ar l n) := by
  have hb := ar_bd h n
  unfold ropewalkref02_arity.f ropewalkref01_Arity.f
  by_cases h0 : n < 0
  · rw [if_pos h0, ar_neg h0]; rfl
  · rw [if_neg h0]
    by_cases h1 : n ≥ (l.length : Int)
    · rw [if_pos h1, ar_out h1]; rfl
    · rw [if_neg h1, if_pos (by omega), if_pos (by omega)]
      have e : ar l n = (rd_T89 l n).f1 := by unfold ar; rw [if_neg h0]
      rw [e] at hb ⊢
      show (if (rd_T89 l n).f1 < 0 then some (0 : Int) else some (rd_T89 l n).f1) = _
      rw [if_neg (by omega)]

theorem rcheck_l1 {l : List S89} (hl : GoodL l) {t : List Int} (ht : t.length ≤ 2000) : ∀ (n p k : Nat) (o : Int), p + n = t.length → n < k → 0 ≤ o → o ≤ 6 * p + 1 →
    ropewalkref02_Check.l1 k l t o p = some (if fin (ar l) (t.drop p) o p = t.length then 0 else 23)
  | 0, p, k + 1, o, h, _, h0, h1 => by
    simp only [ropewalkref02_Check.l1]
    rw [if_neg (by omega), List.drop_eq_nil_of_le (by omega)]
    by_cases ho : o = 0
    · subst ho; simp [fin, show (p : Int) = t.length by omega]
    · rw [if_neg ho, show fin (ar l) [] o p = p + 1 from if_pos (show 0 < o by omega), if_neg (by omega)]
  | n + 1, p, k + 1, o, h, hk, h0, h1 => by
    simp only [ropewalkref02_Check.l1]
    rw [if_pos (by omega)]
    by_cases ho : o = 0
    · subst ho
      rw [if_pos rfl, fin_stop (by omega), if_neg (by omega)]
    · rw [if_neg ho, if_pos (by omega), rarity hl, Option.bind_some, fin_step (by omega) (by omega)]
      have hb := ar_bd hl (rd t p)
      rw [wrap_id (by unfold wrap64; omega) (by unfold wrap64; omega), wrap_id (by omega) (by omega), wrap_id (by omega) (by omega), show (p : Int) + 1 = ((p + 1 : Nat) : Int) by omega,
        rcheck_l1 hl ht n (p + 1) k (o - 1 + ar l (rd t p)) (by omega) (by omega) (by omega) (by omega), show o - 1 + ar l (rd t p) = o + (ar l (rd t p) - 1) by omega]

theorem rcheck_l0 {l : List S89} (hl : GoodL l) {t : List Int} (ht : t.length ≤ 2000) : ∀ (n p k : Nat), p + n = t.length → n + t.length + 1 < k →
    ropewalkref02_Check.l0 k l t p = some (bads l.length (t.drop p) (shape l t))
  | 0, p, k + 1, h, hk => by
    simp only [ropewalkref02_Check.l0]
    rw [if_neg (by omega), bads_end (by omega)]
    have := rcheck_l1 hl ht t.length 0 k 1 (by omega) (by omega) (by omega) (by omega)
    rw [List.drop_zero] at this
    rw [show ((0 : Nat) : Int) = 0 from rfl] at this
    rw [this]
    unfold shape
    by_cases h0 : t.length = 0
    · rw [if_pos h0, if_neg]
      rw [List.eq_nil_of_length_eq_zero h0]; simp [fin]
    · rw [if_neg h0]
  | n + 1, p, k + 1, h, hk => by
    simp only [ropewalkref02_Check.l0]
    rw [if_pos (by omega), if_pos (by omega), bads_step (by omega)]
    by_cases h1 : rd t p ≥ (l.length : Int)
    · rw [if_pos h1, badN_sym h1, if_neg (by omega)]
    · rw [if_neg h1]
      by_cases h2 : rd t p < -99
      · rw [if_pos h2, badN_var (by omega) h2, if_neg (by omega)]
      · rw [if_neg h2, badN_ok (by omega) h2, if_pos rfl, wrap_id (by omega) (by omega), show (p : Int) + 1 = ((p + 1 : Nat) : Int) by omega]
        exact rcheck_l0 hl ht n (p + 1) k (by omega) (by omega)

theorem rcheck {l : List S89} (hl : GoodL l) (t : List Int) {k : Nat} (hk : 2 * t.length + 1 < k) : ropewalkref02_Check.f k l t = some (chk l t) := by
  unfold ropewalkref02_Check.f chk
  by_cases h : 2000 < t.length
  · rw [if_pos (by omega), if_pos h]
  · rw [if_neg (by omega), if_neg h]
    exact rcheck_l0 hl (by omega) t.length 0 k (by omega) (by omega)

theorem rplaces {l : List S89} (hl : GoodL l) (t : List Int) (p : Int) {k : Nat} (hk : 2 * t.length + 1 < k) : ropewalklaw02_places.f k l t p = some (plc l t p) := by
  unfold ropewalklaw02_places.f plc
  rw [rcheck hl t hk, Option.bind_some]
  by_cases h : chk l t = 0
  · rw [if_pos h, if_pos h]
    by_cases h0 : p < 0
    · rw [if_pos h0, if_pos h0]
    · rw [if_neg h0, if_neg h0]
      by_cases h1 : (t.length : Int) ≤ p
      · rw [if_pos h1, if_pos h1]
      · rw [if_neg (by omega), if_neg h1, h]
  · rw [if_neg h, if_neg h]

theorem rend_l0 {l : List S89} (hl : GoodL l) {t : List Int} (ht : t.length ≤ 2000) : ∀ (n p k : Nat) (o : Int), p + n = t.length → n < k → 0 ≤ o → o ≤ 6 * p + 1 →
    ropewalkref02_End.l0 k l t o p = some (min (fin (ar l) (t.drop p) o p) t.length)
  | 0, p, k + 1, o, h, _, h0, h1 => by
    simp only [ropewalkref02_End.l0]
    rw [if_neg (by omega), List.drop_eq_nil_of_le (by omega)]
    simp only [fin]
    split <;> (congr 1; omega)
  | n + 1, p, k + 1, o, h, hk, h0, h1 => by
    simp only [ropewalkref02_End.l0]
    rw [if_pos (by omega)]
    by_cases ho : o > 0
    · rw [if_pos ho, if_pos (by omega), rarity hl, Option.bind_some, fin_step (by omega) (by omega)]
      have hb := ar_bd hl (rd t p)
      rw [wrap_id (by unfold wrap64; omega) (by unfold wrap64; omega), wrap_id (by omega) (by omega), wrap_id (by omega) (by omega), show (p : Int) + 1 = ((p + 1 : Nat) : Int) by omega,
        rend_l0 hl ht n (p + 1) k (o - 1 + ar l (rd t p)) (by omega) (by omega) (by omega) (by omega), show o - 1 + ar l (rd t p) = o + (ar l (rd t p) - 1) by omega]
    · rw [if_neg ho, fin_stop (by omega)]
      congr 1; omega
theorem rend {l : List S89} (hl : GoodL l) {t : List Int} (ht : t.length ≤ 2000) (p : Nat) (hp : p ≤ t.length) {k : Nat} (hk : t.length < k) : ropewalkref02_End.f k l t p = some ((min (endN l t p) t.length : Nat) : Int) := by
  unfold ropewalkref02_End.f
  rw [rend_l0 hl ht (t.length - p) p k 1 (by omega) (by omega) (by omega) (by omega), ← endN_cast]
  congr 1; omega
theorem rend_ok {l : List S89} (hl : GoodL l) {t : List Int} (ht : t.length ≤ 2000) (p : Nat) (hp : p ≤ t.length) (he : endN l t p ≤ t.length) {k : Nat} (hk : t.length < k) : ropewalkref02_End.f k l t p = some (endN l t p : Int) := by
  rw [rend hl ht p hp hk, Nat.min_eq_left he]
end Go.Proofs.Ytadjoaipmcbieaa
