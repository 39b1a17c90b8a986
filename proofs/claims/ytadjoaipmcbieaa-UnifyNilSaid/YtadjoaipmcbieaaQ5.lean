/- The document's Sub and Path, and the contracts of its Args, Sub and Path, told as term's own answers. -/
import Derived.Test.YtadjoaipmcbieaaQ3
import Derived.Test.YtadjoaipmcbieaaS7
import Derived.Test.YtadjoaipmcbieaaGE
import Derived.Test.YtadjoaipmcbieaaGF
namespace Go.Proofs.Ytadjoaipmcbieaa
open Go.RowKit Go.Proofs.YtadjoaipmcbieaaW.PrintWords Go.Proofs.YtadjoaipmcbieaaW.PrintLast Go.Proofs.YtadjoaipmcbieaaW.PrintMore A

theorem starts_ge : ∀ {ss : List (List Int)} {p x : Nat}, x ∈ starts p ss → p ≤ x
  | [], _, _, h => by simp [starts] at h
  | s :: ss, p, x, h => by
    simp only [starts, List.mem_cons] at h
    rcases h with rfl | h
    · exact Nat.le_refl _
    · have := starts_ge h; omega
theorem getD_mem {xs : List Nat} {i : Nat} (h : i < xs.length) : xs.getD i 0 ∈ xs := by
  rw [List.getD_eq_getElem?_getD, List.getElem?_eq_getElem h]; exact List.getElem_mem h
/-- The arguments stand one behind the other. -/
theorem starts_tile {l : List S89} (hl : GoodL l) {t : List Int} : ∀ {ss : List (List Int)} {q : Nat} {r : List Int}, (∀ s ∈ ss, Ter l s) → t.drop q = ss.flatten ++ r → ∀ {j i : Nat}, j < i → i < (starts q ss).length → endN l t ((starts q ss).getD j 0) ≤ (starts q ss).getD i 0
  | [], _, _, _, _, _, _, _, h => by simp [starts] at h
  | s :: ss, q, r, hs, e, j, i, hji, hi => by
    rw [List.flatten_cons, List.append_assoc] at e
    have he := endN_of hl e (hs s (by simp))
    obtain ⟨i, rfl⟩ : ∃ i', i = i' + 1 := ⟨i - 1, by omega⟩
    simp only [starts, List.length_cons] at hi ⊢
    rw [List.getD_cons_succ]
    cases j with
    | zero =>
      rw [List.getD_cons_zero, he]
      exact starts_ge (getD_mem (by omega))
    | succ j =>
      rw [List.getD_cons_succ]
      exact starts_tile hl (r := r) (fun x hx => hs x (by simp [hx])) (by rw [← List.drop_drop, e]; simp) (by omega) (by omega)
theorem args_tile {l : List S89} (hl : GoodL l) {t : List Int} (hT : Ter l t) {h : Nat} (hh : h < t.length) {j i : Nat} (hji : j < i) (hi : i < (argsL l t h).length) : endN l t ((argsL l t h).getD j 0) ≤ (argsL l t h).getD i 0 := by
  obtain ⟨ss, r, e, hn, hs, _⟩ := hT.args_at hh
  rw [argsL_at hl e hn hs] at hi ⊢
  exact starts_tile hl hs e hji hi

theorem rsub {l : List S89} (hl : GoodL l) {t : List Int} (hT : Ter l t) (ht : t.length ≤ 2000) {p : Nat} (hp : p < t.length) {k : Nat} (hk : t.length < k) : ropewalkref02_Sub.f k l t p = some (subL l t p) := by
  have he := endN_le hl hT hp
  unfold ropewalkref02_Sub.f
  rw [if_neg (by omega), if_neg (by omega), Option.bind_some, rend_ok hl ht p (by omega) he.1 hk, Option.bind_some, if_pos (by omega), if_pos (by omega), if_pos (by omega), if_pos (by simp; omega)]
  simp [subL]

section
variable {l : List S89} {t : List Int} {p h : Nat} {res : List Int}
theorem rpath_B (hl : GoodL l) (hT : Ter l t) (hh : h < p) (hp : p < endN l t h) (hpt : p < t.length) (out : List Int) (hF : ∃ F, ∀ f, F ≤ f → ropewalkref02_Path.l0 f l t p out ((argsL l t h).getD (kL p (argsL l t h)) 0 : Nat) = some res) :
    ∀ (n j : Nat), j + n = (argsL l t h).length → kL p (argsL l t h) < j → ∃ F, ∀ f, F ≤ f → ropewalkref02_Path.l1 f l t p out h (toI (argsL l t h)) ((argsL l t h).getD (kL p (argsL l t h)) 0 : Nat) j = some res := by
  have hA := arg_holds hl hT hh hp hpt
  intro n
  induction n with
  | zero =>
    intro j hj hk
    obtain ⟨F, hF⟩ := hF
    refine ⟨F + 1, fun f hf => ?_⟩
    obtain ⟨f, rfl⟩ : ∃ f', f = f' + 1 := ⟨f - 1, by omega⟩
    simp only [ropewalkref02_Path.l1]
    rw [if_neg (by rw [toI_length]; omega), if_neg (by omega)]
    exact hF f (by omega)
  | succ n ih =>
    intro j hj hk
    obtain ⟨F, hF⟩ := ih (j + 1) (by omega) (by omega)
    refine ⟨F + 1, fun f hf => ?_⟩
    obtain ⟨f, rfl⟩ : ∃ f', f = f' + 1 := ⟨f - 1, by omega⟩
    have hb := ar_bd hl (rd t h)
    have hlen : (argsL l t h).length ≤ 6 := by unfold argsL; rw [argsF_length]; omega
    have htile := args_tile hl hT (show h < t.length by omega) hk (show j < (argsL l t h).length by omega)
    simp only [ropewalkref02_Path.l1]
    rw [if_pos (by rw [toI_length]; omega), if_pos (by omega), toI_at, if_neg (by omega), wrap_id (by omega) (by omega), show (j : Int) + 1 = ((j + 1 : Nat) : Int) by omega]
    exact hF f (by omega)
theorem rpath_A (hl : GoodL l) (hT : Ter l t) (ht : t.length ≤ 2000) (hh : h < p) (hp : p < endN l t h) (hpt : p < t.length) (out : List Int) (ho : out.length ≤ h) (hF : ∃ F, ∀ f, F ≤ f → ropewalkref02_Path.l0 f l t p (out ++ [(kL p (argsL l t h) : Int)]) ((argsL l t h).getD (kL p (argsL l t h)) 0 : Nat) = some res) :
    ∀ (n j : Nat), j + n = kL p (argsL l t h) → ∃ F, ∀ f, F ≤ f → ropewalkref02_Path.l1 f l t p out h (toI (argsL l t h)) h j = some res := by
  have hA := arg_holds hl hT hh hp hpt
  have hb := ar_bd hl (rd t h)
  have hlen : (argsL l t h).length ≤ 6 := by unfold argsL; rw [argsF_length]; omega
  intro n
  induction n with
  | zero =>
    intro j hj
    obtain rfl : j = kL p (argsL l t h) := by omega
    obtain ⟨F, hF⟩ := rpath_B hl hT hh hp hpt _ hF ((argsL l t h).length - (kL p (argsL l t h) + 1)) (kL p (argsL l t h) + 1) (by omega) (by omega)
    refine ⟨F + t.length + 2, fun f hf => ?_⟩
    obtain ⟨f, rfl⟩ : ∃ f', f = f' + 1 := ⟨f - 1, by omega⟩
    have hx := argsL_le hl hT (show h < t.length by omega) _ (getD_mem hA.1)
    have he := endN_le hl hT hx.2
    simp only [ropewalkref02_Path.l1]
    rw [if_pos (by rw [toI_length]; omega), if_pos (by omega), toI_at, if_pos (by omega), rend_ok hl ht _ (by omega) he.1 (by omega), Option.bind_some, if_pos (by omega), if_pos (by omega), wrap_id (by omega) (by omega), show (kL p (argsL l t h) : Int) + 1 = ((kL p (argsL l t h) + 1 : Nat) : Int) by omega]
    exact hF f (by omega)
  | succ n ih =>
    intro j hj
    obtain ⟨F, hF⟩ := ih (j + 1) (by omega)
    refine ⟨F + t.length + 2, fun f hf => ?_⟩
    obtain ⟨f, rfl⟩ : ∃ f', f = f' + 1 := ⟨f - 1, by omega⟩
    have hx := argsL_le hl hT (show h < t.length by omega) _ (getD_mem (show j < (argsL l t h).length by omega))
    have he := endN_le hl hT hx.2
    have htile := args_tile hl hT (show h < t.length by omega) (show j < kL p (argsL l t h) by omega) hA.1
    simp only [ropewalkref02_Path.l1]
    rw [if_pos (by rw [toI_length]; omega), if_pos (by omega), toI_at, if_pos (by omega), rend_ok hl ht _ (by omega) he.1 (by omega), Option.bind_some, if_neg (by omega), wrap_id (by omega) (by omega), show (j : Int) + 1 = ((j + 1 : Nat) : Int) by omega]
    exact hF f (by omega)
theorem rpath_run (hl : GoodL l) (hT : Ter l t) (ht : t.length ≤ 2000) (hpt : p < t.length) {r : List Nat} (hr : PathR l t p h r) : h ≤ p → p < endN l t h → ∀ (out : List Int), out.length ≤ h → ∃ F, ∀ f, F ≤ f → ropewalkref02_Path.l0 f l t p out h = some (out ++ toI r) := by
  induction hr with
  | refl =>
    intro _ _ out _
    refine ⟨1, fun f hf => ?_⟩
    obtain ⟨f, rfl⟩ : ∃ f', f = f' + 1 := ⟨f - 1, by omega⟩
    simp only [ropewalkref02_Path.l0]
    rw [if_neg (by omega)]; simp [toI]
  | @step h r hne hr ih =>
    intro h1 h2 out ho
    have hA := arg_holds hl hT (show h < p by omega) h2 hpt
    obtain ⟨F, hF⟩ := ih hA.2.2.1 hA.2.2.2 (out ++ [(kL p (argsL l t h) : Int)]) (by rw [List.length_append, List.length_singleton]; omega)
    obtain ⟨F, hF⟩ := rpath_A (res := out ++ toI (kL p (argsL l t h) :: r)) hl hT ht (show h < p by omega) h2 hpt out ho ⟨F, fun f hf => by rw [hF f hf]; simp [toI]⟩ (kL p (argsL l t h)) 0 (by omega)
    refine ⟨F + t.length + 10, fun f hf => ?_⟩
    obtain ⟨f, rfl⟩ : ∃ f', f = f' + 1 := ⟨f - 1, by omega⟩
    simp only [ropewalkref02_Path.l0]
    rw [if_pos (by omega), rargs hl hT ht (show h < t.length by omega) (by omega), Option.bind_some]
    exact hF f (by omega)
theorem path_len (hl : GoodL l) (hT : Ter l t) (hpt : p < t.length) {r : List Nat} (hr : PathR l t p h r) : h ≤ p → p < endN l t h → r.length + h ≤ p := by
  induction hr with
  | refl => intro _ _; simp
  | @step h r hne hr ih =>
    intro h1 h2
    have hA := arg_holds hl hT (show h < p by omega) h2 hpt
    have := ih hA.2.2.1 hA.2.2.2
    simp only [List.length_cons]; omega
theorem path_len0 (hl : GoodL l) (hT : Ter l t) (hpt : p < t.length) {r : List Nat} (hr : PathR l t p 0 r) : r.length ≤ p := by
  have hend := endN_of hl (t := t) (s := t) (r := []) (p := 0) (by simp) hT
  have := path_len hl hT hpt hr (Nat.zero_le _) (by omega)
  omega
theorem path_exists_ (hl : GoodL l) (hT : Ter l t) (hpt : p < t.length) : ∀ (N h : Nat), p - h ≤ N → h ≤ p → p < endN l t h → ∃ r, PathR l t p h r
  | N, h, hN, h1, h2 => by
    by_cases e : h = p
    · subst e; exact ⟨[], .refl⟩
    · have hA := arg_holds hl hT (show h < p by omega) h2 hpt
      cases N with
      | zero => omega
      | succ N =>
        obtain ⟨r, hr⟩ := path_exists_ hl hT hpt N _ (by omega) hA.2.2.1 hA.2.2.2
        exact ⟨_, .step e hr⟩
theorem path_exists (hl : GoodL l) (hT : Ter l t) (hpt : p < t.length) : ∃ r, PathR l t p 0 r := by
  have hend := endN_of hl (t := t) (s := t) (r := []) (p := 0) (by simp) hT
  exact path_exists_ hl hT hpt p 0 (by omega) (Nat.zero_le _) (by omega)
theorem rpath (hl : GoodL l) (hT : Ter l t) (ht : t.length ≤ 2000) (hpt : p < t.length) {r : List Nat} (hr : PathR l t p 0 r) : ∃ f, ropewalkref02_Path.f f l t p = some (toI r) := by
  have hend := endN_of hl (t := t) (s := t) (r := []) (p := 0) (by simp) hT
  obtain ⟨F, hF⟩ := rpath_run hl hT ht hpt hr (Nat.zero_le _) (by omega) [] (Nat.zero_le _)
  exact ⟨F, by unfold ropewalkref02_Path.f; exact hF F (Nat.le_refl _)⟩
end

theorem refArgs_ok (A : Option Addr) (c : Nat) (l : List S89) (B : Option Addr) (n d : Nat) (t : List Int) (p : Nat) (w : World) (hr : Kd.C k89 w A l.length l) (hc : l.length ≤ c) (hl : GoodL l)
    (ht : Kd.C (Kd.int .i64) w B n t) (hd : n ≤ d) (hk : plc l t p = 0) :
    Calls Try.prog 45 #[.slice A l.length c, .slice B n d, .int .i64 p] w fun e w' => ∃ v, e = .returned v ∧ Kd.R (Kd.int .i64) 3 w' w.heap.size (fun _ => True) v (toI (argsL l t p)) ∧ Below w.heap.size w w' := by
  obtain rfl : t.length = n := ht.1
  obtain ⟨h1, h2, h3⟩ := plc_ok hk
  exact ropewalkref02_Args.calls _ A c l B d t p _ w hr hc ht hd (rargs hl (chk_ter hl h1) (chk_len h1) (by omega) (Nat.lt_succ_self _))
theorem refSub_ok (A : Option Addr) (c : Nat) (l : List S89) (B : Option Addr) (n d : Nat) (t : List Int) (p : Nat) (w : World) (hr : Kd.C k89 w A l.length l) (hc : l.length ≤ c) (hl : GoodL l)
    (ht : Kd.C (Kd.int .i64) w B n t) (hd : n ≤ d) (hk : plc l t p = 0) :
    Calls Try.prog 46 #[.slice A l.length c, .slice B n d, .int .i64 p] w fun e w' => ∃ v, e = .returned v ∧ Kd.R (Kd.int .i64) 3 w' w.heap.size (fun _ => True) v (subL l t p) ∧ Below w.heap.size w w' := by
  obtain rfl : t.length = n := ht.1
  obtain ⟨h1, h2, h3⟩ := plc_ok hk
  exact ropewalkref02_Sub.calls _ A c l B d t p _ w hr hc ht hd (rsub hl (chk_ter hl h1) (chk_len h1) (by omega) (Nat.lt_succ_self _))
theorem refPath_ok (A : Option Addr) (c : Nat) (l : List S89) (B : Option Addr) (n d : Nat) (t : List Int) (p : Nat) (w : World) (hr : Kd.C k89 w A l.length l) (hc : l.length ≤ c) (hl : GoodL l)
    (ht : Kd.C (Kd.int .i64) w B n t) (hd : n ≤ d) (hk : plc l t p = 0) {r : List Nat} (hp : PathR l t p 0 r) :
    Calls Try.prog 47 #[.slice A l.length c, .slice B n d, .int .i64 p] w fun e w' => ∃ v, e = .returned v ∧ Kd.R (Kd.int .i64) 3 w' w.heap.size (fun _ => True) v (toI r) ∧ Below w.heap.size w w' := by
  obtain rfl : t.length = n := ht.1
  obtain ⟨h1, h2, h3⟩ := plc_ok hk
  obtain ⟨f, hf⟩ := rpath hl (chk_ter hl h1) (chk_len h1) (show p < t.length by omega) hp
  exact ropewalkref02_Path.calls f A c l B d t p _ w hr hc ht hd hf

theorem End_okN (g : Nat) (l : List S89) (A : Option Addr) (c : Nat) (t : List Int) (p : Nat) (w : World) (hs : SigC w g l) (hl : GoodL l)
    (ht : Kd.C (Kd.int .i64) w A t.length t) (hp : plc l t p = 0) :
    Calls Try.prog 36 #[.pointer (some ⟨g, 0, none⟩), .slice A t.length c, .int .i64 p] w fun e w' => e = .returned (.tuple #[.int .i64 (endN l t p), .int .i64 0]) ∧ Below w.heap.size w w' := End_ok g l A c t p w hs hl ht hp
theorem Args_okN (g : Nat) (l : List S89) (A : Option Addr) (c : Nat) (t : List Int) (p : Nat) (w : World) (hs : SigC w g l) (hl : GoodL l)
    (ht : Kd.C (Kd.int .i64) w A t.length t) (hp : plc l t p = 0) :
    Calls Try.prog 37 #[.pointer (some ⟨g, 0, none⟩), .slice A t.length c, .int .i64 p] w fun e w' => ∃ v, e = .returned (.tuple #[v, .int .i64 0]) ∧ Kd.R (Kd.int .i64) 3 w' w.heap.size (fun _ => True) v (toI (argsL l t p)) ∧ Below w.heap.size w w' := by
  obtain ⟨h1, h2, h3⟩ := plc_ok hp
  exact Args_ok g l A c t p w hs hl ht hp (fun x hx => Nat.le_of_lt (argsL_le hl (chk_ter hl h1) (show p < t.length by omega) x hx).2)
theorem Sub_okN (g : Nat) (l : List S89) (A : Option Addr) (c : Nat) (t : List Int) (p : Nat) (w : World) (hs : SigC w g l) (hl : GoodL l)
    (ht : Kd.C (Kd.int .i64) w A t.length t) (hc : t.length ≤ c) (hp : plc l t p = 0) :
    Calls Try.prog 41 #[.pointer (some ⟨g, 0, none⟩), .slice A t.length c, .int .i64 p] w fun e w' => ∃ v, e = .returned (.tuple #[v, .int .i64 0]) ∧ Kd.R (Kd.int .i64) 3 w' w.heap.size (fun _ => True) v (subL l t p) ∧ Below w.heap.size w w' := by
  obtain ⟨h1, h2, h3⟩ := plc_ok hp
  exact Sub_ok g l A c t p w hs hl ht hc hp (endN_le hl (chk_ter hl h1) (show p < t.length by omega)).1
end Go.Proofs.Ytadjoaipmcbieaa
