/- A law's Case, opened: its symbols, its lists of numbers. -/
import Derived.Test.YtadjoaipmcbieaaC1
import Derived.Test.YtadjoaipmcbieaaK0
import Derived.WalkKit
import Derived.ProofKit
import Derived.OpenShut
import Derived.ChangeOld
import Derived.Carry
import Derived.SizedLaws
import Derived.Deep.Slices
import Derived.Deep.Fields
import Derived.ChangeSame
namespace Go.Proofs.Ytadjoaipmcbieaa
open Go.ChangeShapes Go.WideShapes Go.ChangeAt Go.Deep
open Go.RowKit Go.Proofs.YtadjoaipmcbieaaW.PrintWords Go.Proofs.YtadjoaipmcbieaaW.PrintLast Go.Proofs.YtadjoaipmcbieaaW.PrintMore A

section
variable {H : Type} {enc : TypeId × Value → H} {w : World} {base : Nat} {spare : Nat → Bool} {held : Bool}
theorem one89 : oneCellFields Try.prog #[{ name := "Name", type := 9, offset := 0, embedded := false, tag := "", pkgPath := "", byteOffset := 0 }, { name := "Arity", type := 3, offset := 1, embedded := false, tag := "", pkgPath := "", byteOffset := 16 }, { name := "Defined", type := 4, offset := 2, embedded := false, tag := "", pkgPath := "", byteOffset := 24 }] = true := by kernel_rfl
theorem cells89 : Try.prog.cellsOf 89 = 3 := by kernel_rfl
theorem cells3 : Try.prog.cellsOf 3 = 1 := by kernel_rfl
theorem bytes3 : Try.prog.bytesOf 3 = 8 := by kernel_rfl
theorem cells9 : Try.prog.cellsOf 9 = 1 := by kernel_rfl
theorem cells4 : Try.prog.cellsOf 4 = 1 := by kernel_rfl

theorem three_of {α : Type} : ∀ {l : List α}, l.length = 3 → ∃ a b c, l = [a, b, c]
  | [a, b, c], _ => ⟨a, b, c, rfl⟩
/-- One symbol, out of its three cells. -/
theorem open_sym {fuel : Nat} {cs : List Value} {x : DataW H × List MemPlace} (h : DataW.trod enc Try.prog w base spare held fuel 89 cs = some x) :
    ∃ s : S89, cs = [.string s.f0, .int .i64 s.f1, .bool s.f2] ∧ s.f0.size ≤ maxLen := by
  obtain ⟨ys, n, _, _, hlen, hyl, hf⟩ := DataW.trod_struct Try.underlying89 h
  rw [cells89] at hlen
  obtain ⟨a, b, c, rfl⟩ := three_of hlen
  obtain ⟨y0, y1, y2, rfl⟩ := three_of hyl
  have h0 : DataW.trod enc Try.prog w base spare held n 9 (List.take (Try.prog.cellsOf 9) [a, b, c]) = some y0 := hf 0 _ rfl
  have h1 : DataW.trod enc Try.prog w base spare held n 3 (List.take (Try.prog.cellsOf 3) [b, c]) = some y1 := hf 1 _ rfl
  have h2 : DataW.trod enc Try.prog w base spare held n 4 (List.take (Try.prog.cellsOf 4) [c]) = some y2 := hf 2 _ rfl
  rw [cells9] at h0
  rw [cells3] at h1
  rw [cells4] at h2
  obtain ⟨s, e0, _, hs⟩ := DataW.trod_string Try.underlying9 h0
  obtain ⟨m, e1, _, _⟩ := DataW.trod_int Try.underlying3 h1
  obtain ⟨b', e2, _⟩ := DataW.trod_bool Try.underlying4 h2
  obtain rfl := List.singleton_inj.1 (show [a] = [_] from e0)
  obtain rfl := List.singleton_inj.1 (show [b] = [_] from e1)
  obtain rfl := List.singleton_inj.1 (show [c] = [_] from e2)
  exact ⟨⟨s, m, b'⟩, rfl, hs⟩

theorem open_syms {fuel : Nat} {v : Value} {x : DataW H × List MemPlace} (h : DataW.trod enc Try.prog w base spare held fuel 23 [v] = some x) :
    ∃ (A : Option Addr) (c : Nat) (L : List S89), v = .slice A L.length c ∧ L.length ≤ c ∧ Kd.C k89 w A L.length L ∧ ∀ s ∈ L, s.f0.size ≤ maxLen := by
  rcases Go.Deep.open_slice Try.underlying23 h with ⟨h0, _⟩ | ⟨a, len, cap, m, n, D, Pl, hcs, hb, hl, hm, hmm, hx, hi⟩
  · obtain rfl := List.singleton_inj.1 h0
    exact ⟨none, 0, [], rfl, Nat.le_refl _, Kd.C_nil _ _, by simp⟩
  · obtain rfl := List.singleton_inj.1 hcs
    have hlm : len ≤ m := by rw [hmm]; split <;> omega
    have key : ∀ i, ∃ s : S89, i < len → ((∀ j u, [Value.string s.f0, .int .i64 s.f1, .bool s.f2][j]? = some u → w.cell? (a.add (i * 3 + j)) = some u) ∧ s.f0.size ≤ maxLen) := by
      intro i
      by_cases hil : i < len
      · obtain ⟨cs', hc, ht⟩ := hi i (by omega)
        obtain ⟨s, rfl, hs⟩ := open_sym ht
        obtain ⟨_, _, hat⟩ := World.cells?_some hc
        rw [cells89] at hat
        refine ⟨s, fun _ => ⟨fun j u hu => ?_, hs⟩⟩
        have hj : j < 3 := (List.getElem?_eq_some_iff.1 hu).1
        rw [← Go.Deep.add_add, hat j hj, hu]
      · exact ⟨z89, fun h => absurd h hil⟩
    let f : Nat → S89 := fun i => Classical.choose (key i)
    have hf : ∀ i, i < len → _ := fun i => Classical.choose_spec (key i)
    change ∀ i, i < len → ((∀ j u, [Value.string (f i).f0, .int .i64 (f i).f1, .bool (f i).f2][j]? = some u → w.cell? (a.add (i * 3 + j)) = some u) ∧ (f i).f0.size ≤ maxLen) at hf
    clear_value f
    refine ⟨some a, cap, (List.range len).map f, by simp, by simpa using hl, ⟨rfl, by unfold maxLen at hm; simp; omega, fun _ => ⟨a, rfl, fun j p hj => ?_⟩⟩, fun s hs => ?_⟩
    · have hjl : j < len := by have := (List.getElem?_eq_some_iff.1 hj).1; simpa using this
      obtain rfl : f j = p := by simpa [hjl] using hj
      exact ⟨[.string (f j).f0, .int .i64 (f j).f1, .bool (f j).f2], rfl, k89_mk _ _, fun i u hu => (hf j hjl).1 i u hu⟩
    · obtain ⟨i, hi2, rfl⟩ := List.mem_map.1 hs
      exact (hf i (List.mem_range.1 hi2)).2

theorem open_nums {t : TypeId} {fuel : Nat} {v : Value} {x : DataW H × List MemPlace} (ht : Try.prog.underlying t = some (.slice 3)) (h : DataW.trod enc Try.prog w base spare held fuel t [v] = some x)
    (hw : ∀ m ∈ x.1.weights Try.prog t, m ≤ reachBytes) :
    ∃ (A : Option Addr) (c : Nat) (T : List Int), v = .slice A T.length c ∧ T.length ≤ c ∧ T.length ≤ 17592186044415 ∧ Kd.C (Kd.int .i64) w A T.length T := by
  rcases open_ints ht Try.underlying3 cells3 h with ⟨h0, _⟩ | ⟨a, len, cap, zs, hcs, _, hl, hm, hz, hx, hcell, _⟩
  · obtain rfl := List.singleton_inj.1 h0
    exact ⟨none, 0, [], rfl, Nat.le_refl _, by simp, Kd.C_nil _ _⟩
  · obtain rfl := List.singleton_inj.1 hcs
    have hzl : len ≤ zs.length := by rw [hz]; split <;> omega
    have hT : (zs.take len).length = len := by simp [hzl]
    refine ⟨some a, cap, zs.take len, by rw [hT], by rw [hT]; exact hl, ?_, ?_⟩
    · subst hx
      have := hw _ (by simp only [DataW.weights, ht]; exact List.mem_cons_self)
      rw [bytes3] at this
      unfold reachBytes at this
      rw [hT]
      simp [lits] at this
      omega
    · rw [hT]
      refine ⟨hT, by unfold maxLen at hm; omega, fun _ => ⟨a, rfl, fun j p hj => ⟨[.int .i64 p], rfl, rfl, fun i u hu => ?_⟩⟩⟩
      have hjl : j < len := by have := (List.getElem?_eq_some_iff.1 hj).1; omega
      cases i with
      | zero =>
        simp at hu
        subst hu
        rw [show j * (Kd.int .i64).sz + 0 = j from by show j * 1 + 0 = j; omega, hcell j (by omega)]
        have : (zs.take len)[j]? = zs[j]? := by rw [List.getElem?_take, if_pos hjl]
        rw [this] at hj
        simp [List.getD_eq_getElem?_getD, hj]
      | succ i => simp at hu

theorem cells27 : Try.prog.cellsOf 27 = 5 := by kernel_rfl
theorem cells23 : Try.prog.cellsOf 23 = 1 := by kernel_rfl
theorem cells25 : Try.prog.cellsOf 25 = 1 := by kernel_rfl
theorem cells24 : Try.prog.cellsOf 24 = 1 := by kernel_rfl
theorem five_of {α : Type} : ∀ {l : List α}, l.length = 5 → ∃ a b c d e, l = [a, b, c, d, e]
  | [a, b, c, d, e], _ => ⟨a, b, c, d, e, rfl⟩

set_option maxRecDepth 100000 in
theorem open_case {r : Reach} {b0 : Nat} {v : Value} {d : DataW H} {p : List MemPlace} (hv : Value.okWide Try.prog w r b0 27 v) (h : DataW.Trod enc Try.prog w base spare held 27 v d p)
    (hw : ∀ m ∈ d.weights Try.prog 27, m ≤ reachBytes) :
    ∃ (A0 : Option Addr) (c0 : Nat) (L : List S89) (A1 : Option Addr) (c1 : Nat) (T : List Int) (p : Int) (A3 : Option Addr) (c3 : Nat) (U : List Int) (A4 : Option Addr) (c4 : Nat) (P : List Int),
      v = .agg #[.slice A0 L.length c0, .slice A1 T.length c1, .int .i64 p, .slice A3 U.length c3, .slice A4 P.length c4] ∧ CaseIn w A0 c0 L A1 c1 T p A3 c3 U A4 c4 P := by
  obtain ⟨cs, rfl, hz⟩ := okWide_struct Try.underlying27 hv
  obtain ⟨l⟩ := cs
  rw [cells27] at hz
  obtain ⟨x0, x1, x2, x3, x4, rfl⟩ := five_of (l := l) hz
  obtain ⟨fuel, hf⟩ := h
  obtain ⟨ys, n, _, hx, _, hlen, hg⟩ := DataW.trod_struct Try.underlying27 hf
  obtain ⟨y0, y1, y2, y3, y4, rfl⟩ := five_of (l := ys) hlen
  have h0 : DataW.trod enc Try.prog w base spare held n 23 (List.take (Try.prog.cellsOf 23) [x0, x1, x2, x3, x4]) = some y0 := hg 0 _ rfl
  have h1 : DataW.trod enc Try.prog w base spare held n 25 (List.take (Try.prog.cellsOf 25) [x1, x2, x3, x4]) = some y1 := hg 1 _ rfl
  have h2 : DataW.trod enc Try.prog w base spare held n 3 (List.take (Try.prog.cellsOf 3) [x2, x3, x4]) = some y2 := hg 2 _ rfl
  have h3 : DataW.trod enc Try.prog w base spare held n 25 (List.take (Try.prog.cellsOf 25) [x3, x4]) = some y3 := hg 3 _ rfl
  have h4 : DataW.trod enc Try.prog w base spare held n 24 (List.take (Try.prog.cellsOf 24) [x4]) = some y4 := hg 4 _ rfl
  rw [cells23] at h0
  rw [cells25] at h1 h3
  rw [cells3] at h2
  rw [cells24] at h4
  have hd : d = .agg [y0.1, y1.1, y2.1, y3.1, y4.1] := congrArg Prod.fst hx
  subst hd
  simp only [DataW.weights, Try.underlying27] at hw
  have hwj : ∀ (j : Nat) (t : TypeId) (e : DataW H), [23, 25, 3, 25, 24][j]? = some t → [y0.1, y1.1, y2.1, y3.1, y4.1][j]? = some e → ∀ m ∈ e.weights Try.prog t, m ≤ reachBytes := fun j t e ht he m hm => hw m (DataW.weights_mem_each (j := j) ht he m hm)
  obtain ⟨A0, c0, L, rfl, lc, hl, ln⟩ := open_syms h0
  obtain ⟨A1, c1, T, rfl, tc, tl, ht⟩ := open_nums Try.underlying25 h1 (hwj 1 _ _ rfl rfl)
  obtain ⟨q, e2, _, hq⟩ := DataW.trod_int Try.underlying3 h2
  obtain rfl := List.singleton_inj.1 (show [x2] = [_] from e2)
  obtain ⟨A3, c3, U, rfl, uc, ul, hu⟩ := open_nums Try.underlying25 h3 (hwj 3 _ _ rfl rfl)
  obtain ⟨A4, c4, P, rfl, qc, ql, hp⟩ := open_nums Try.underlying24 h4 (hwj 4 _ _ rfl rfl)
  have hb := bounds_i64 hq
  exact ⟨A0, c0, L, A1, c1, T, q, A3, c3, U, A4, c4, P, rfl, ⟨hl, lc, ln, ht, tc, tl, hb.1, hb.2, hu, uc, ul, hp, qc, ql⟩⟩
end
end Go.Proofs.Ytadjoaipmcbieaa
