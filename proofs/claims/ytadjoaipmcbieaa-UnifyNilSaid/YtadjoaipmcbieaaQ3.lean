/- The document's Args and From, told as term's own answers. -/
import Derived.Test.YtadjoaipmcbieaaQ0
import Derived.Test.YtadjoaipmcbieaaS5
import Derived.Test.YtadjoaipmcbieaaGC
namespace Go.Proofs.Ytadjoaipmcbieaa
open Go.RowKit Go.Proofs.YtadjoaipmcbieaaW.PrintWords Go.Proofs.YtadjoaipmcbieaaW.PrintLast Go.Proofs.YtadjoaipmcbieaaW.PrintMore A

theorem rargs_l0 {l : List S89} (hl : GoodL l) {t : List Int} (hT : Ter l t) (ht : t.length ≤ 2000) {p : Nat} (hp : p < t.length) : ∀ (n j k nx : Nat) (done : List Nat), (j : Int) + n = ar l (rd t p) → (∀ x ∈ argsF l t n nx, x < t.length) → n + t.length < k → done.length + n ≤ 100 →
    ropewalkref02_Args.l0 k l t p (toI done) nx j = some (toI (done ++ argsF l t n nx))
  | 0, j, k + 1, nx, done, h, _, _, _ => by
    simp only [ropewalkref02_Args.l0]
    rw [if_pos (by omega), if_pos (by omega), rarity hl, Option.bind_some, if_neg (by omega)]
    simp [argsF]
  | n + 1, j, k + 1, nx, done, h, hv, hk, hd => by
    have hb := ar_bd hl (rd t p)
    have hnx : nx < t.length := hv nx (by simp [argsF])
    have he := endN_le hl hT hnx
    simp only [ropewalkref02_Args.l0]
    rw [if_pos (by omega), if_pos (by omega), rarity hl, Option.bind_some, if_pos (by omega), if_pos (by rw [toI_length]; omega), rend_ok hl ht nx (by omega) he.1 (by omega), Option.bind_some,
      wrap_id (by omega) (by omega), show (j : Int) + 1 = ((j + 1 : Nat) : Int) by omega, show toI done ++ [(nx : Int)] = toI (done ++ [nx]) by rw [toI_append]; rfl]
    rw [rargs_l0 hl hT ht hp n (j + 1) k (endN l t nx) (done ++ [nx]) (by omega) (fun x hx => hv x (by simp [argsF, hx])) (by omega) (by simp; omega)]
    simp [argsF]
theorem rargs {l : List S89} (hl : GoodL l) {t : List Int} (hT : Ter l t) (ht : t.length ≤ 2000) {p : Nat} (hp : p < t.length) {k : Nat} (hk : t.length + 8 < k) :
    ropewalkref02_Args.f k l t p = some (toI (argsL l t p)) := by
  have hb := ar_bd hl (rd t p)
  unfold ropewalkref02_Args.f
  rw [if_neg (by omega), decide_eq_false (by omega)]
  obtain ⟨k, rfl⟩ : ∃ k', k = k' + 1 := ⟨k - 1, by omega⟩
  simp only [ropewalkref02_Args.j0]
  rw [if_neg (by simp), wrap_id (by omega) (by omega), show (p : Int) + 1 = ((p + 1 : Nat) : Int) by omega]
  have := rargs_l0 hl hT ht hp (ar l (rd t p)).toNat 0 k (p + 1) [] (by omega) (fun x hx => (argsL_le hl hT hp x hx).2) (by omega) (by simp; omega)
  simpa [argsL, toI] using this

def fromI : Option Nat → Int
  | none => -1
  | some q => q
theorem rfrom_l0 {l : List S89} (hl : GoodL l) {t : List Int} (hT : Ter l t) (ht : t.length ≤ 2000) {path : List Int} (hm : path.length ≤ 17592186044416) : ∀ (n i k p : Nat), i + n = path.length → n + t.length + 9 < k → p < t.length →
    ropewalkref02_From.l0 k l t p path i = some (fromI (fromL l t (path.drop i) p))
  | 0, i, k + 1, p, h, _, _ => by
    simp only [ropewalkref02_From.l0]
    rw [if_neg (by omega), fromL_end (by omega)]; rfl
  | n + 1, i, k + 1, p, h, hk, hp => by
    simp only [ropewalkref02_From.l0]
    rw [if_pos (by omega), rargs hl hT ht hp (by omega), Option.bind_some, if_pos (by omega), fromL_step (by omega), toI_length]
    by_cases h1 : rd path i < 0
    · rw [if_pos h1, if_pos h1]; rfl
    · rw [if_neg h1, if_neg h1]
      by_cases h2 : ((argsL l t p).length : Int) ≤ rd path i
      · rw [if_pos (by omega), if_pos h2]; rfl
      · rw [if_neg (by omega), if_neg h2, if_pos (by omega), if_pos (by omega), wrap_id (by omega) (by omega), show (i : Int) + 1 = ((i + 1 : Nat) : Int) by omega, rd_toI _ _ (by omega)]
        have hlt : (rd path i).toNat < (argsL l t p).length := by omega
        have hmem : (argsL l t p).getD (rd path i).toNat 0 ∈ argsL l t p := by
          rw [List.getD_eq_getElem?_getD, List.getElem?_eq_getElem hlt]; exact List.getElem_mem hlt
        exact rfrom_l0 hl hT ht hm n (i + 1) k _ (by omega) (by omega) (argsL_le hl hT hp _ hmem).2
theorem rfrom {l : List S89} (hl : GoodL l) {t : List Int} (hT : Ter l t) (ht : t.length ≤ 2000) {path : List Int} (hm : path.length ≤ 17592186044416) {k : Nat} (hk : path.length + t.length + 9 < k) :
    ropewalkref02_From.f k l t 0 path = some (fromI (fromL l t path 0)) := by
  unfold ropewalkref02_From.f
  exact rfrom_l0 hl hT ht hm path.length 0 k 0 (by omega) hk hT.pos

theorem refFrom_any (A : Option Addr) (c : Nat) (l : List S89) (B : Option Addr) (n d : Nat) (t : List Int) (C : Option Addr) (m e : Nat) (path : List Int) (w : World) (hr : Kd.C k89 w A l.length l) (hc : l.length ≤ c) (hl : GoodL l)
    (ht : Kd.C (Kd.int .i64) w B n t) (hd : n ≤ d) (hp : Kd.C (Kd.int .i64) w C m path) (he : m ≤ e) (hm : path.length ≤ 17592186044416) (hk : chk l t = 0) :
    Calls Try.prog 35 #[.slice A l.length c, .slice B n d, .int .i64 0, .slice C m e] w fun e w' => e = .returned (.int .i64 (fromI (fromL l t path 0))) ∧ Below w.heap.size w w' := by
  obtain rfl : t.length = n := ht.1
  obtain rfl : path.length = m := hp.1
  exact ropewalkref02_From.calls _ A c l B d t 0 C e path _ w hr hc ht hd hp he (rfrom hl (chk_ter hl hk) (chk_len hk) hm (Nat.lt_succ_self _))
end Go.Proofs.Ytadjoaipmcbieaa
