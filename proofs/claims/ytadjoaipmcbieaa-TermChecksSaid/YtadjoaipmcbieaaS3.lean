/- term.args, Args, End: the places of the arguments. -/
import Derived.Test.YtadjoaipmcbieaaS2
namespace Go.Proofs.Ytadjoaipmcbieaa
open Go.RowKit Go.Proofs.YtadjoaipmcbieaaW.PrintWords Go.Proofs.YtadjoaipmcbieaaW.PrintLast Go.Proofs.YtadjoaipmcbieaaW.PrintMore A

/-- The place behind the subterm at p. -/
def endN (l : List S89) (t : List Int) (p : Nat) : Nat := (fin (ar l) (t.drop p) 1 p).toNat
theorem fin_ge {a : Int → Int} : ∀ (r : List Int) (k : Int) (p : Nat), (p : Int) ≤ fin a r k p ∧ fin a r k p ≤ p + r.length + 1
  | [], k, p => by simp only [fin, List.length_nil]; split <;> omega
  | n :: r, k, p => by
    simp only [fin, List.length_cons]
    split
    · have := fin_ge (a := a) r (k + (a n - 1)) (p + 1); omega
    · omega
theorem endN_cast {l : List S89} {t : List Int} {p : Nat} : ((endN l t p : Nat) : Int) = fin (ar l) (t.drop p) 1 p := by
  have := (fin_ge (a := ar l) (t.drop p) 1 p).1
  unfold endN; omega

/-- The places of k subterms, one behind the other, from nx on. -/
def argsF (l : List S89) (t : List Int) : Nat → Nat → List Nat
  | 0, _ => []
  | k + 1, nx => nx :: argsF l t k (endN l t nx)
theorem argsF_length (l : List S89) (t : List Int) : ∀ (k nx : Nat), (argsF l t k nx).length = k
  | 0, _ => rfl
  | k + 1, nx => by simp [argsF, argsF_length l t k]
def toI (xs : List Nat) : List Int := xs.map Int.ofNat
theorem toI_append (xs ys : List Nat) : toI (xs ++ ys) = toI xs ++ toI ys := by simp [toI]
theorem toI_length (xs : List Nat) : (toI xs).length = xs.length := by simp [toI]
def argsL (l : List S89) (t : List Int) (p : Nat) : List Nat := argsF l t (ar l (rd t p)).toNat (p + 1)

set_option maxHeartbeats 1000000 in
theorem args_any (g : Nat) (l : List S89) (A : Option Addr) (c : Nat) (t : List Int) (p : Nat) (w : World) (hs : SigC w g l) (hl : GoodL l)
    (ht : Kd.C (Kd.int .i64) w A t.length t) (h2 : t.length ≤ 2000) (hp : p < t.length) (hv : ∀ x ∈ argsL l t p, x ≤ t.length) :
    Calls Try.prog 78 #[.pointer (some ⟨g, 0, none⟩), .slice A t.length c, .int .i64 p] w fun e w' => ∃ v, e = .returned v ∧ Kd.R (Kd.int .i64) 3 w' w.heap.size (fun _ => True) v (toI (argsL l t p)) ∧ Below w.heap.size w w' := by
  have HS := Aside0.mk hs
  have HL := Aside0.mk hl
  have HT := Aside0.mk ht
  have HV := Aside0.mk hv
  obtain ⟨ad, e, hc⟩ := int_at ht p hp
  cases e
  have hA := ar_bd hl (rd t p)
  obtain ⟨K, hK⟩ := Int.eq_ofNat_of_zero_le hA.1
  have hK6 : K ≤ 6 := by omega
  have HG : Aside0 (argsL l t p = argsF l t K (p + 1)) := ⟨by unfold argsL; rw [hK]; rfl⟩
  have HK := Aside0.mk hK
  clear hs hl ht hv hK hA
  go_enter Try.func78, Try.ntmps78
  go_wp2_with (go_at_call 104; refine (arity_any g l (rd t p) _ HS.out).mono ?_; rintro e w1 ⟨rfl, hb⟩)
  rw [HK.out]
  go_loopw [7, 8, 17] (fun o x i wr => ∃ (k nx : Nat) (done : List Nat), x = .int .i64 nx ∧ i = .int .i64 k ∧ k ≤ K ∧ Aside0 (argsL l t p = done ++ argsF l t (K - k) nx) ∧ Aside0 (done.length = k) ∧ Aside0 (Kd.R (Kd.int .i64) 3 wr w.heap.size (fun _ => True) o (toI done)) ∧ Aside0 (Below w.heap.size w wr)) (fun _ _ i _ => K - (intOf i).toNat)
  case atStart => exact ⟨0, p + 1, [], by go_num, rfl, by omega, HG, ⟨rfl⟩, ⟨Kd.R_nil _ _ _ _ _⟩, ⟨hb⟩⟩
  case round =>
    clear HG
    obtain ⟨k, nx, done, rfl, rfl, hk, HG, HD, HO, HB⟩ := hrel
    by_cases hlt : k < K
    · obtain ⟨m, hm⟩ : ∃ m, K - k = m + 1 := ⟨K - k - 1, by omega⟩
      have hG2 := HG.out
      rw [hm, argsF] at hG2
      have hnx : nx ≤ t.length := HV.out nx (by rw [hG2]; simp)
      have hcast := endN_cast (l := l) (t := t) (p := nx)
      have HC := Aside0.mk hcast
      have HN := Aside0.mk (show argsL l t p = (done ++ [nx]) ++ argsF l t (K - (k + 1)) (endN l t nx) by rw [hG2, show K - (k + 1) = m by omega]; simp)
      clear hm hG2 hcast HG
      go_wp2_with (first
        | (at_builtin; refine Kd.R_append (Kd.int .i64) (w0 := w) w.heap.size rfl (.tmp 19) (.tmp 21) 24 3 (.int .i64 0) 8 rfl Try.underlying24 info3 rfl (by decide) (by omega) u7 (toI done) (nx : Int) [.int .i64 nx] (fun _ => True) (fun _ => False) rfl rfl rfl (fun _ hk => hk.elim) (fun _ _ => trivial) HO.out HB.out HB.out.size (by have := HD.out; rw [toI_length]; omega) ?_; intro v1 w2 ho hb2 hg hat)
        | (go_at_call 77; refine (end_any g l (some ad) c t nx _ (HS.out.below hb2) HL.out (Kd.C_below HT.out hb2) (by omega) hnx).mono ?_; rintro e w3 ⟨rfl, hb3⟩))
      go_roundw
      case rel => exact ⟨k + 1, endN l t nx, done ++ [nx], by rw [HC.out], by go_num, by omega, HN, ⟨by rw [List.length_append, HD.out]; rfl⟩, ⟨Kd.R_below (by rw [toI_append]; exact ho) hb3⟩, ⟨below_then hb2 hb2.size hb3⟩⟩
      case measure => simp [intOf]; omega
    · have hkk : k = K := by omega
      have hfin : toI (argsL l t p) = toI done := by rw [HG.out, show K - k = 0 by omega]; simp [argsF]
      have HF := Aside0.mk hfin
      clear hkk hfin
      go_wp2
      go_ret
      exact ⟨_, rfl, by rw [HF.out]; exact HO.out, HB.out⟩

theorem args_any0 (g : Nat) (l : List S89) (A : Option Addr) (c : Nat) (t : List Int) (p : Int) (w : World) (hs : SigC w g l) (hl : GoodL l)
    (ht : Kd.C (Kd.int .i64) w A t.length t) (h2 : t.length ≤ 2000) (h0 : 0 ≤ p) (hp : p < t.length) (hv : ∀ x ∈ argsL l t p.toNat, x ≤ t.length) :
    Calls Try.prog 78 #[.pointer (some ⟨g, 0, none⟩), .slice A t.length c, .int .i64 p] w fun e w' => ∃ v, e = .returned v ∧ Kd.R (Kd.int .i64) 3 w' w.heap.size (fun _ => True) v (toI (argsL l t p.toNat)) ∧ Below w.heap.size w w' := by
  obtain ⟨p, rfl⟩ := Int.eq_ofNat_of_zero_le h0
  exact args_any g l A c t p w hs hl ht h2 (by omega) hv
end Go.Proofs.Ytadjoaipmcbieaa
