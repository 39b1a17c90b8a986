/- PLAIN: the two tests of a name agree; Find tells whether a name is there. -/
import Derived.Test.YtadjoaipmcbieaaM1
namespace Go.Proofs.Ytadjoaipmcbieaa
open Go.RowKit Go.Proofs.YtadjoaipmcbieaaW.PrintWords Go.Proofs.YtadjoaipmcbieaaW.PrintLast Go.Proofs.YtadjoaipmcbieaaW.PrintMore A

def smB (c : Int) : Bool := if c ≥ 97 then decide (c ≤ 122) else false
def dgB (c : Int) : Bool := if c ≥ 48 then decide (c ≤ 57) else false
theorem sm1 (c : Int) : sig_small.f c = some (smB c) := by unfold sig_small.f smB; split <;> rfl
theorem dg1 (c : Int) : sig_digit.f c = some (dgB c) := by unfold sig_digit.f dgB; split <;> rfl
theorem sm2 (c : Int) : ropewalkref01_small.f c = some (smB c) := by unfold ropewalkref01_small.f smB; split <;> rfl
theorem dg2 (c : Int) : ropewalkref01_digit.f c = some (dgB c) := by unfold ropewalkref01_digit.f dgB; split <;> rfl
def allB (f : Nat → Bool) : Nat → Nat → Bool
  | 0, _ => true
  | n + 1, i => f i && allB f n (i + 1)
def okB (a : ByteArray) (i : Nat) : Bool := smB (bt a i) || dgB (bt a i)
/-- May a symbol be called so? -/
def isNm (a : ByteArray) : Bool := if a.size = 0 then false else if 12 < a.size then false else if smB (bt a 0) = true then allB (okB a) (a.size - 1) 1 else false

theorem wrap_succ (i : Nat) (h : i < 1000) : wrap64 ((i : Int) + 1) = ((i + 1 : Nat) : Int) := by unfold wrap64; omega

theorem sig_l0 (a : ByteArray) (h12 : a.size ≤ 12) : ∀ (n i k : Nat), i + n = a.size → n < k → sig_IsName.l0 k a (a.size : Int) i = some (allB (okB a) n i)
  | 0, i, k + 1, h, _ => by simp only [sig_IsName.l0]; rw [if_neg (by omega)]; rfl
  | n + 1, i, k + 1, h, hk => by
    simp only [sig_IsName.l0]
    rw [if_pos (by omega), if_pos (by omega), if_pos (by omega), sm1, dg1]
    simp only [Option.bind_some]
    rw [wrap_succ i (by omega)]
    have ih := sig_l0 a h12 n (i + 1) k (by omega) (by omega)
    simp only [allB, okB]
    by_cases h1 : smB (bt a i) = true
    · rw [if_pos h1, ih, h1]; simp
    · rw [if_neg h1]
      by_cases h2 : dgB (bt a i) = true
      · rw [if_pos h2, ih, h2]; simp
      · rw [if_neg h2]; simp [h1, h2]
theorem sig_isName (a : ByteArray) : sig_IsName.f 20 a = some (isNm a) := by
  unfold sig_IsName.f isNm
  by_cases h0 : a.size = 0
  · rw [if_pos (by omega), if_pos h0]; simp [sig_IsName.j0]
  · rw [if_neg (by omega), if_neg h0]
    by_cases h1 : 12 < a.size
    · rw [if_pos (by omega), if_pos h1]; simp [sig_IsName.j0]
    · rw [if_neg (by omega), if_neg h1, if_pos (by omega), sm1]
      simp only [Option.bind_some, sig_IsName.j0]
      have h2 := sig_l0 a (by omega) a.size 0 19 (by omega) (by omega)
      by_cases h3 : smB (bt a 0) = true
      · rw [h3]
        simp only [Bool.not_true, if_true]
        rw [if_neg (by simp)]
        refine h2.trans ?_
        obtain ⟨n, hn⟩ : ∃ n, a.size = n + 1 := ⟨a.size - 1, by omega⟩
        rw [hn, Nat.add_sub_cancel]
        have h4 : okB a 0 = true := by unfold okB; rw [show ((0 : Nat) : Int) = 0 from rfl, h3]; rfl
        simp [allB, h4]
      · simp [h3]
theorem ref_l0 (a : ByteArray) (h12 : a.size ≤ 12) : ∀ (n i k : Nat), 0 < i → i + n = a.size → n < k → ropewalkref01_IsName.l0 k a i = some (allB (okB a) n i)
  | 0, i, k + 1, _, h, _ => by simp only [ropewalkref01_IsName.l0]; rw [if_neg (by omega)]; rfl
  | n + 1, i, k + 1, h0, h, hk => by
    simp only [ropewalkref01_IsName.l0]
    rw [if_pos (by omega), if_pos (by omega), sm2, dg2]
    simp only [Option.bind_some]
    rw [wrap_succ i (by omega)]
    have ih := ref_l0 a h12 n (i + 1) k (by omega) (by omega) (by omega)
    simp only [allB, okB]
    by_cases h1 : smB (bt a i) = true
    · rw [if_pos h1, ih, h1]; simp
    · rw [if_neg h1, if_neg (by omega)]
      by_cases h2 : dgB (bt a i) = true
      · rw [if_pos h2, ih, h2]; simp
      · rw [if_neg h2]; simp [h1, h2]
theorem ref_l00 (a : ByteArray) (h0 : a.size ≠ 0) (h12 : a.size ≤ 12) (k : Nat) (hk : 13 ≤ k) : ropewalkref01_IsName.l0 (k + 1) a 0 = some (if smB (bt a 0) = true then allB (okB a) (a.size - 1) 1 else false) := by
  simp only [ropewalkref01_IsName.l0]
  rw [if_pos (by omega), if_pos (by omega), sm2, dg2]
  simp only [Option.bind_some]
  by_cases h3 : smB (bt a 0) = true
  · rw [if_pos h3, if_pos h3, show wrap64 (0 + 1) = ((1 : Nat) : Int) by unfold wrap64; omega]
    exact ref_l0 a (by omega) (a.size - 1) 1 k (by omega) (by omega) (by omega)
  · rw [if_neg h3, if_neg h3, if_pos trivial]
theorem ref_isName (a : ByteArray) : ropewalkref01_IsName.f 20 a = some (isNm a) := by
  unfold ropewalkref01_IsName.f isNm
  by_cases h0 : a.size = 0
  · rw [if_pos (by omega), if_pos h0]; simp [ropewalkref01_IsName.j0]
  · rw [if_neg (by omega), if_neg h0]
    simp only [ropewalkref01_IsName.j0]
    by_cases h1 : 12 < a.size
    · rw [if_pos h1, if_pos (by simp; omega)]
    · rw [if_neg h1, if_neg (by simp; omega)]
      exact ref_l00 a h0 (by omega) 18 (by omega)

theorem toList_inj {a b : ByteArray} : a.toList = b.toList ↔ a = b := by
  constructor
  · intro h
    rw [ByteArray.toList_eq, ByteArray.toList_eq] at h
    exact bytes_ext h
  · rintro rfl; rfl

theorem find_l0 (l : List S89) (a : ByteArray) (hl : l.length ≤ 64) : ∀ (n i k : Nat), i + n = l.length → n < k →
    ∃ r : Int, ropewalkref01_Find.l0 k l a i = some r ∧ (0 ≤ r ↔ ((l.drop i).map (·.f0)).any (fun y => decide (y = a)) = true)
  | 0, i, k + 1, h, _ => ⟨-1, by simp only [ropewalkref01_Find.l0]; rw [if_neg (by omega)], by rw [List.drop_eq_nil_of_le (by omega)]; simp⟩
  | n + 1, i, k + 1, h, hk => by
    have hi : i < l.length := by omega
    have e : (rd_T89 l i) = l[i] := by simp [rd_T89, List.getD_eq_getElem?_getD, List.getElem?_eq_getElem hi]
    rw [List.drop_eq_getElem_cons hi]
    simp only [ropewalkref01_Find.l0]
    rw [if_pos (by omega), if_pos (by omega), e, wrap_succ i (by omega)]
    by_cases h1 : l[i].f0 = a
    · exact ⟨i, by rw [if_pos (by rw [h1])], by rw [List.map_cons, List.any_cons, decide_eq_true h1, Bool.true_or]; exact ⟨fun _ => rfl, fun _ => by omega⟩⟩
    · obtain ⟨r, hr, hr2⟩ := find_l0 l a hl n (i + 1) k (by omega) (by omega)
      exact ⟨r, by rw [if_neg (fun h => h1 (toList_inj.1 h))]; exact hr, by rw [hr2, List.map_cons, List.any_cons, decide_eq_false h1, Bool.false_or]⟩
theorem ref_find (l : List S89) (a : ByteArray) (hl : l.length ≤ 64) : ∃ r : Int, ropewalkref01_Find.f 66 l a = some r ∧ (0 ≤ r ↔ (l.map (·.f0)).any (fun y => decide (y = a)) = true) := by
  obtain ⟨r, hr, h⟩ := find_l0 l a hl l.length 0 66 (by omega) (by omega)
  exact ⟨r, hr, by simpa using h⟩

/-- What is wrong with a symbol that is to be added. -/
def addE (l : List S89) (x : S89) : Int :=
  if isNm x.f0 = false then 10 else if x.f1 < 0 ∨ 6 < x.f1 then 11 else if (l.map (·.f0)).any (fun y => decide (y = x.f0)) = true then 12 else if 64 ≤ l.length then 13 else 0
/-- The symbols that are taken, one behind the other. -/
def addL (l : List S89) (x : S89) : List S89 := if addE l x = 0 then l ++ [x] else l
def madeL (L : List S89) : List S89 := L.foldl addL []
theorem addL_good {l : List S89} {x : S89} (h : GoodL l) : GoodL (addL l x) := by
  unfold addL
  split
  · rename_i he
    unfold addE at he
    split at he
    · omega
    · split at he
      · omega
      · rename_i h2
        split at he
        · omega
        · split at he
          · omega
          · refine ⟨by rw [List.length_append, List.length_singleton]; omega, fun y hy => ?_⟩
            rcases List.mem_append.1 hy with hy | hy
            · exact h.ar y hy
            · rw [List.mem_singleton.1 hy]; omega
  · exact h
theorem made_good (L : List S89) : GoodL (madeL L) := by
  have key : ∀ (L : List S89) (l : List S89), GoodL l → GoodL (L.foldl addL l) := by
    intro L
    induction L with
    | nil => intro l h; exact h
    | cons x L ih => intro l h; exact ih _ (addL_good h)
  exact key L [] ⟨by simp, by simp⟩
end Go.Proofs.Ytadjoaipmcbieaa
