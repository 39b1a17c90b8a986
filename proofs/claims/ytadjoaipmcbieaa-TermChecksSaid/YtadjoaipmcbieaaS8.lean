/- term.Depth: how deep a term is, told by a relation. -/
import Derived.Test.YtadjoaipmcbieaaSS
namespace Go.Proofs.Ytadjoaipmcbieaa
open Go.RowKit Go.Proofs.YtadjoaipmcbieaaW.PrintWords Go.Proofs.YtadjoaipmcbieaaW.PrintLast Go.Proofs.YtadjoaipmcbieaaW.PrintMore A
attribute [local go_sem] max2_int

/-- k terms, one behind the other: the deepest is d deep. -/
inductive DepK (b : Int → Nat) : Nat → List Int → Nat → Prop
  | nil : DepK b 0 [] 0
  | cons {k : Nat} {n : Int} {body rest : List Int} {d e : Nat} (h : DepK b (b n) body d) (h' : DepK b k rest e) : DepK b (k + 1) (n :: (body ++ rest)) (max (d + 1) e)
theorem DepK.isT {b : Int → Nat} {k : Nat} {s : List Int} {d : Nat} (h : DepK b k s d) : IsT b k s := by
  induction h with
  | nil => exact .nil
  | cons _ _ ih ih' => exact .cons (ih.append ih')
theorem DepK.exists_ {b : Int → Nat} : ∀ (N k : Nat) (s : List Int), s.length ≤ N → IsT b k s → ∃ d, DepK b k s d
  | N, 0, s, _, h => ⟨0, by rw [h.zero]; exact .nil⟩
  | 0, k + 1, s, hN, h => by have := h.pos; omega
  | N + 1, k + 1, s, hN, h => by
    cases h with
    | @cons _ n r h =>
      obtain ⟨body, rest, rfl, h1, h2⟩ := IsT.split h
      simp only [List.length_cons, List.length_append] at hN
      obtain ⟨d, hd⟩ := DepK.exists_ N (b n) body (by omega) h1
      obtain ⟨e, he⟩ := DepK.exists_ N k rest (by omega) h2
      exact ⟨_, .cons hd he⟩
theorem DepK.det {b : Int → Nat} {k : Nat} {s : List Int} {d e : Nat} (h : DepK b k s d) (h' : DepK b k s e) : d = e := by
  induction h generalizing e with
  | nil => cases h'; rfl
  | @cons k n body rest d1 e1 ha hb ih ih' =>
    generalize hs : n :: (body ++ rest) = s at h'
    cases h' with
    | @cons _ n' body' rest' d2 e2 ha' hb' =>
      simp only [List.cons.injEq] at hs
      obtain ⟨rfl, hs⟩ := hs
      have h1 := ha.isT.prefix_eq ha'.isT hs
      subst h1
      have h2 := List.append_cancel_left hs
      subst h2
      rw [ih ha', ih' hb']
theorem DepK.le {b : Int → Nat} {k : Nat} {s : List Int} {d : Nat} (h : DepK b k s d) : d ≤ s.length := by
  induction h with
  | nil => simp
  | cons _ _ ih ih' => simp only [List.length_cons, List.length_append]; omega

theorem ret2_int {a b c d : Int} (h : a = c) (h' : b = d) : Ending.returned (.tuple #[.int .i64 a, .int .i64 b]) = Ending.returned (.tuple #[.int .i64 c, .int .i64 d]) := by rw [h, h']

set_option maxRecDepth 100000 in
set_option maxHeartbeats 2000000 in
theorem depth_any (g : Nat) (l : List S89) (A : Option Addr) (c : Nat) (t : List Int) (hl : GoodL l) (h2 : t.length ≤ 2000) (N : Nat) :
    ∀ (p : Nat) (s r : List Int) (d : Nat) (w : World), s.length ≤ N → t.drop p = s ++ r → DepK (an l) 1 s d → SigC w g l → Kd.C (Kd.int .i64) w A t.length t →
    Calls Try.prog 81 #[.pointer (some ⟨g, 0, none⟩), .slice A t.length c, .int .i64 p] w fun e w' => e = .returned (.tuple #[.int .i64 d, .int .i64 (p + s.length : Nat)]) ∧ Below w.heap.size w w' := by
  induction N with
  | zero => intro p s r d w hN e hd; have := hd.isT.pos; omega
  | succ N ih =>
    intro p s r d w hN e hd hs ht
    have IH := Aside0.mk ih
    clear ih
    cases hd with
    | @cons _ n body rest d1 e1 hd1 he1 =>
      cases he1
      rw [List.append_nil] at hN e ⊢
      simp only [List.length_cons] at hN ⊢
      have hlen := congrArg List.length e
      simp only [List.length_drop, List.length_append, List.length_cons] at hlen
      have hp : p < t.length := by omega
      rw [drop_rd t p hp, List.cons_append, List.cons.injEq] at e
      obtain ⟨hn, e⟩ := e
      obtain ⟨ad, e0, hc⟩ := int_at ht p hp
      cases e0
      rw [hn] at hc
      have hA := ar_bd hl n
      have HK := Aside0.mk (an_ar hl n)
      have hK6 : an l n ≤ 6 := by rw [an_ar hl n] at hA; omega
      generalize an l n = K at HK hd1 hK6
      have HS := Aside0.mk hs
      have HT := Aside0.mk ht
      have HE := Aside0.mk e
      have HD1 := Aside0.mk hd1
      have hdl := hd1.le
      have hlen2 : p + (body.length + 1) ≤ t.length := by omega
      clear hs ht e hn hlen hA hd1
      go_enter Try.func81, Try.ntmps81
      go_wp2_with (go_at_call 104; refine (arity_any g l n _ HS.out).mono ?_; rintro e w1 ⟨rfl, hb⟩)
      rw [HK.out]
      go_loopw [8, 9, 10, 11, 20, 22] (fun m x _ _ i _ wr => ∃ (k nx mm ee : Nat) (rem : List Int), m = .int .i64 mm ∧ x = .int .i64 nx ∧ i = .int .i64 k ∧ k ≤ K ∧ Aside0 (t.drop nx = rem ++ r) ∧ Aside0 (DepK (an l) (K - k) rem ee) ∧ Aside0 (max mm ee = d1) ∧ Aside0 (nx + rem.length = p + (body.length + 1)) ∧ Aside0 (rem.length ≤ N) ∧ Aside0 (Below w.heap.size w wr)) (fun _ _ _ _ i _ _ => K - (intOf i).toNat)
      case atStart => exact ⟨0, p + 1, 0, d1, body, rfl, by go_num, rfl, by omega, HE, HD1, ⟨by omega⟩, ⟨by omega⟩, ⟨by omega⟩, ⟨hb⟩⟩
      case round =>
        clear HE HD1 HK
        obtain ⟨k, nx, mm, ee, rem, rfl, rfl, rfl, hk, HE, HD, HM, HX, HL, HB⟩ := hrel
        by_cases hlt : k < K
        · have hd := HD.out
          obtain ⟨m, hm⟩ : ∃ m, K - k = m + 1 := ⟨K - k - 1, by omega⟩
          rw [hm] at hd
          generalize hrem : rem = rem0 at hd
          cases hd with
          | @cons _ n1 body1 rest1 d2 e2 hd1 hd2 =>
            subst hrem
            have h1 : DepK (an l) 1 (n1 :: (body1 ++ [])) (max (d2 + 1) 0) := .cons hd1 .nil
            rw [List.append_nil, Nat.max_zero] at h1
            have HD1 := Aside0.mk h1
            have HD2 : Aside0 (DepK (an l) (K - (k + 1)) rest1 e2) := ⟨by rw [show K - (k + 1) = m by omega]; exact hd2⟩
            have hE := HE.out
            rw [List.cons_append, List.append_assoc, ← List.cons_append] at hE
            have HE1 := Aside0.mk hE
            have HE2 : Aside0 (t.drop (nx + (n1 :: body1).length) = rest1 ++ r) := ⟨by rw [← List.drop_drop, hE]; simp⟩
            have hX := HX.out
            have hL := HL.out
            have hle1 := h1.le
            have hM := HM.out
            simp only [List.length_cons, List.length_append] at hX hL hle1
            clear hm hd1 hd2 h1 hE HE HD HM HX HL
            go_wp2_with (go_at_call 81; refine (IH.out nx (n1 :: body1) (rest1 ++ r) (d2 + 1) _ (by simp only [List.length_cons]; omega) HE1.out HD1.out (HS.out.below HB.out) (Kd.C_below HT.out HB.out)).mono ?_; rintro e w2 ⟨rfl, hb2⟩)
            go_roundw
            case rel => exact ⟨k + 1, nx + (body1.length + 1), max mm (d2 + 1), e2, rest1, by congr 1; split <;> omega, by go_num, by go_num, by omega, HE2, HD2, ⟨by omega⟩, ⟨by omega⟩, ⟨by omega⟩, ⟨below_then HB.out (by have := HB.out.size; omega) hb2⟩⟩
            case measure => simp [intOf]; omega
        · have hd := HD.out
          rw [show K - k = 0 by omega] at hd
          generalize hrem : rem = rem0 at hd
          cases hd
          subst hrem
          have hX := HX.out
          have hM := HM.out
          simp only [List.length_nil, Nat.add_zero, Nat.max_zero] at hX hM
          subst hM
          have HX2 := Aside0.mk hX
          clear HX HM HD HE hX
          go_wp2
          go_ret2
          exact ⟨ret2_int (by omega) (by rw [HX2.out]), HB.out⟩

theorem Depth_bad (g : Nat) (l : List S89) (A : Option Addr) (c : Nat) (t : List Int) (w : World) (hs : SigC w g l) (hl : GoodL l)
    (ht : Kd.C (Kd.int .i64) w A t.length t) (hp : chk l t ≠ 0) :
    Calls Try.prog 39 #[.pointer (some ⟨g, 0, none⟩), .slice A t.length c] w fun e w' => e = .returned (.tuple #[.int .i64 0, .int .i64 (chk l t)]) ∧ Below w.heap.size w w' := by
  have e1 : (chk l t != 0) = true := bne_iff_ne.2 hp
  clear hp
  go_enter Try.func39, Try.ntmps39
  go_wp2_with (go_at_call 38; refine (check_any g l A c t _ hs hl ht).mono ?_; rintro e w1 ⟨rfl, hb⟩)
  go_ret2
  exact ⟨rfl, hb⟩
theorem Depth_ok (g : Nat) (l : List S89) (A : Option Addr) (c : Nat) (t : List Int) (w : World) (hs : SigC w g l) (hl : GoodL l)
    (ht : Kd.C (Kd.int .i64) w A t.length t) (hp : chk l t = 0) :
    Calls Try.prog 39 #[.pointer (some ⟨g, 0, none⟩), .slice A t.length c] w fun e w' => ∃ d : Nat, e = .returned (.tuple #[.int .i64 d, .int .i64 0]) ∧ DepK (an l) 1 t d ∧ Below w.heap.size w w' := by
  have h2 := chk_len hp
  obtain ⟨d, hd⟩ := DepK.exists_ t.length 1 t (Nat.le_refl _) (chk_ter hl hp)
  have e1 : (chk l t != 0) = false := bne_eq_false_iff_eq.2 hp
  have HD := Aside0.mk hd
  clear hp hd
  go_enter Try.func39, Try.ntmps39
  go_wp2_with (first | (go_at_call 38; refine (check_any g l A c t _ hs hl ht).mono ?_; rintro e w1 ⟨rfl, hb⟩) | (go_at_call 81; refine (depth_any g l A c t hl h2 t.length 0 t [] d _ (Nat.le_refl _) (by simp) HD.out (hs.below hb) (Kd.C_below ht hb)).mono ?_; rintro e w2 ⟨rfl, hb2⟩))
  go_ret2
  exact ⟨d, rfl, HD.out, below_then hb hb.size hb2⟩
end Go.Proofs.Ytadjoaipmcbieaa
