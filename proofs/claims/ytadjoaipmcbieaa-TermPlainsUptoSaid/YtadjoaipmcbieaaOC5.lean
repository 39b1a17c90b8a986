/- The texts UV, UW, P2, Y4, Y5, U8, Y6, Y7, Y8, UZ, Y9, Z0, P5, P6, P7, P8, P9, joined by wip/slim.py: what the claim's theorem needs of them. (Those named W.. and G.. were printed by the kit's print.py for this seat.) -/
import Derived.Test.YtadjoaipmcbieaaOC4
import Derived.Maps.OwnOps
import Derived.Maps.OwnSet

/-! UV -/
namespace Go.Proofs.Ytadjoaipmcbieaa
end Go.Proofs.Ytadjoaipmcbieaa

/-! UW -/
namespace Go.Proofs.Ytadjoaipmcbieaa
open Go.RowKit Go.Proofs.YtadjoaipmcbieaaW.PrintWords A
section
variable {l : List S89} {t : List Int} {d : Int} {i : Nat} {parts : List Pt} {tos pl V : List Int} {tms : List (List Int)}
end
end Go.Proofs.Ytadjoaipmcbieaa
namespace Go.Proofs.Ytadjoaipmcbieaa
open Go.RowKit Go.Proofs.YtadjoaipmcbieaaW.PrintWords Go.Proofs.YtadjoaipmcbieaaW.PrintLast Go.Proofs.YtadjoaipmcbieaaW.PrintMore A
section
variable {W W' w1 : World} {base g vb gp v2 : Nat} {vp vt vp1 vt1 : Value} {N c : Nat} {parts parts' : List Pt} {tos tos' pl V : List Int} {cs2 : Array Value}
theorem nums_set (V : List Int) (v : Nat) (x : Int) : ((nums .i64 V).toArray.setIfInBounds v (.int .i64 x)) = (nums .i64 (V.set v x)).toArray := by simp [nums, List.map_set]
end
end Go.Proofs.Ytadjoaipmcbieaa

/-! P2 -/
namespace Go.Proofs.Ytadjoaipmcbieaa
open Go.RowKit Go.Proofs.YtadjoaipmcbieaaW.PrintWords Go.Proofs.YtadjoaipmcbieaaW.PrintLast Go.Proofs.YtadjoaipmcbieaaW.PrintMore A
set_option linter.unusedSimpArgs false
set_option linter.unusedVariables false
/-- With enough rounds it answers so. -/
def Ev1 {α : Type} (g : Nat → Option α) (r : α) : Prop := ∃ F, ∀ k, F ≤ k → g k = some r
theorem Ev1.out {α : Type} {g : Nat → Option α} {r : α} (h : Ev1 g r) : ∃ k, g k = some r := let ⟨F, hF⟩ := h; ⟨F, hF F (Nat.le_refl _)⟩
theorem Ev1.succ {α : Type} {g : Nat → Option α} {r : α} (h : Ev1 (fun k => g (k + 1)) r) : Ev1 g r := by
  obtain ⟨F, hF⟩ := h
  refine ⟨F + 1, fun k hk => ?_⟩
  obtain ⟨m, rfl⟩ : ∃ m, k = m + 1 := ⟨k - 1, by omega⟩
  exact hF m (by omega)
theorem Ev1.of {α : Type} {g : Nat → Option α} {r : α} (h : ∀ k, g k = some r) : Ev1 g r := ⟨0, fun k _ => h k⟩
theorem Ev1.eq {α : Type} {g g' : Nat → Option α} {r : α} (h : Ev1 g r) (e : ∀ k, g' k = g k) : Ev1 g' r := let ⟨F, hF⟩ := h; ⟨F, fun k hk => (e k).trans (hF k hk)⟩
theorem take_rd' (xs : List Int) {i : Nat} (h : i < xs.length) : xs.take (i + 1) = xs.take i ++ [rd xs i] := by
  rw [List.take_add_one, List.getElem?_eq_getElem h]
  simp [rd, List.getD_eq_getElem?_getD, h]
theorem wsuc {i : Nat} (h : i < 9223372036854775807) : wrap64 ((i : Int) + 1) = ((i + 1 : Nat) : Int) := by rw [wrap_id (by omega) (by omega)]; rfl
theorem in_l0 (xs : List Int) (x : Int) (hx : xs.length ≤ 17592186044416) : ∀ (d i : Nat), i + d = xs.length → Ev1 (fun k => ropewalkref02_In.l0 k xs x i) (decide (x ∈ xs.drop i)) := by
  intro d
  induction d with
  | zero =>
    intro i hi
    refine Ev1.succ (Ev1.of fun k => ?_)
    simp only [ropewalkref02_In.l0]
    rw [if_neg (by omega), List.drop_of_length_le (by omega)]; simp
  | succ d ih =>
    intro i hi
    have hil : i < xs.length := by omega
    refine Ev1.succ ((ih (i + 1) (by omega)).imp fun F hF k hk => ?_)
    have h := hF k hk
    simp only at h
    simp only [ropewalkref02_In.l0]
    rw [if_pos (by omega), if_pos (by omega), wsuc (by omega), drop_rd xs i hil]
    by_cases e : rd xs i = x
    · rw [if_pos e, ← e]; simp
    · rw [if_neg e, h]
      have e2 : ¬ x = rd xs i := fun h => e h.symm
      simp [e2]
theorem in_f (xs : List Int) (x : Int) (hx : xs.length ≤ 17592186044416) : Ev1 (fun k => ropewalkref02_In.f k xs x) (decide (x ∈ xs)) := by
  have h := in_l0 xs x hx xs.length 0 (by omega)
  rw [List.drop_zero] at h
  exact h.eq fun k => rfl
theorem isv_f (n : Int) : ropewalkref02_IsVariable.f n = some (decide (n < 0 ∧ -99 ≤ n)) := by
  unfold ropewalkref02_IsVariable.f
  by_cases h : n < 0
  · rw [if_pos h]; simp [h]
  · rw [if_neg h]; simp [h]
theorem vars_l0 (t : List Int) (ht : t.length ≤ 17592186044416) : ∀ (d i : Nat) (acc : List Int), i + d = t.length → acc.Nodup → VarL acc → Ev1 (fun k => ropewalkref02_Variables.l0 k t acc i) (vd acc (t.drop i)) := by
  intro d
  induction d with
  | zero =>
    intro i acc hi hd hv
    refine Ev1.succ (Ev1.of fun k => ?_)
    simp only [ropewalkref02_Variables.l0]
    rw [if_neg (by omega), List.drop_of_length_le (by omega)]; rfl
  | succ d ih =>
    intro i acc hi hd hv
    have hil : i < t.length := by omega
    have hl := nodup_le 99 acc hd hv
    rw [drop_rd t i hil]
    by_cases h : rd t i < 0 ∧ -99 ≤ rd t i
    · have hw : wrap64 (-(rd t i)) = -(rd t i) := wrap_id (by omega) (by omega)
      obtain ⟨F, hF⟩ := in_f acc (-(rd t i)) (by omega)
      dsimp only at hF
      by_cases hm : -(rd t i) ∈ acc
      · obtain ⟨G, hG⟩ := ih (i + 1) acc (by omega) hd hv
        refine ⟨F + G + 1, fun k hk => ?_⟩
        obtain ⟨m, rfl⟩ : ∃ m, k = m + 1 := ⟨k - 1, by omega⟩
        simp only [ropewalkref02_Variables.l0, vd]
        rw [if_pos (by omega), if_pos (by omega), isv_f, Option.bind_some, decide_eq_true h, if_pos rfl, hw, wsuc (by omega), hF m (by omega), Option.bind_some, decide_eq_true hm, if_pos rfl, if_neg (fun h2 => h2.2 hm)]
        exact hG m (by omega)
      · have hd' : (acc ++ [-(rd t i)]).Nodup := by
          rw [List.nodup_append]; exact ⟨hd, by simp, fun a ha b hb => by rw [List.mem_singleton.1 hb]; exact fun e => hm (e ▸ ha)⟩
        have hv' : VarL (acc ++ [-(rd t i)]) := fun x hx => by
          rcases List.mem_append.1 hx with hx | hx
          · exact hv x hx
          · rw [List.mem_singleton.1 hx]; omega
        obtain ⟨G, hG⟩ := ih (i + 1) _ (by omega) hd' hv'
        dsimp only at hG
        refine ⟨F + G + 1, fun k hk => ?_⟩
        obtain ⟨m, rfl⟩ : ∃ m, k = m + 1 := ⟨k - 1, by omega⟩
        simp only [ropewalkref02_Variables.l0, vd]
        rw [if_pos (by omega), if_pos (by omega), isv_f, Option.bind_some, decide_eq_true h, if_pos rfl, hw, wsuc (by omega), hF m (by omega), Option.bind_some, decide_eq_false hm, if_neg (by decide), if_pos (by omega), if_pos ⟨h, hm⟩]
        exact hG m (by omega)
    · obtain ⟨G, hG⟩ := ih (i + 1) acc (by omega) hd hv
      refine ⟨G + 1, fun k hk => ?_⟩
      obtain ⟨m, rfl⟩ : ∃ m, k = m + 1 := ⟨k - 1, by omega⟩
      simp only [ropewalkref02_Variables.l0, vd]
      rw [if_pos (by omega), if_pos (by omega), isv_f, Option.bind_some, decide_eq_false h, if_neg (by decide), wsuc (by omega), if_neg (fun h2 => h h2.1)]
      exact hG m (by omega)
theorem vars_f (t : List Int) (ht : t.length ≤ 17592186044416) : Ev1 (fun k => ropewalkref02_Variables.f k t) (vd [] t) := by
  have h := vars_l0 t ht t.length 0 [] (by omega) List.nodup_nil (fun x hx => by simp at hx)
  rw [List.drop_zero] at h
  exact h
/-- The order of all lists' variables, as it is gathered. -/
def gat (ls : List (List Int)) : List Int := (ls.map fun t => (vd [] t).map (- ·)).flatten
theorem gat_vd (ls : List (List Int)) (acc : List Int) : vd acc (gat ls) = vd acc ls.flatten := by
  induction ls generalizing acc with
  | nil => rfl
  | cons t ls ih =>
    simp only [gat, List.map_cons, List.flatten_cons] at ih ⊢
    rw [vd_append, vd_append, vd_vd t [] acc (fun x hx => by simp at hx), ih]
theorem vd_short (t : List Int) : (vd [] t).length ≤ 99 := vd_len List.nodup_nil (fun x hx => by simp at hx)
theorem gat_len (ls : List (List Int)) : (gat ls).length ≤ 99 * ls.length := by
  induction ls with
  | nil => simp [gat]
  | cons t ls ih =>
    simp only [gat, List.map_cons, List.flatten_cons, List.length_append, List.length_map, List.length_cons] at ih ⊢
    have := vd_short t
    omega
theorem gat_append (ls ms : List (List Int)) : gat (ls ++ ms) = gat ls ++ gat ms := by simp [gat]
theorem plain_l1' (ls : List (List Int)) (hls : 99 * ls.length ≤ 17592186044415) (x3 : List Int) (x4 : Nat) (h4 : x4 < ls.length) (v : List Int) (hv : VarL v) (hx : x3.length + v.length ≤ 17592186044415) {r : List (List Int)} (hr : Ev1 (fun k => ropewalkref02_Plain.l0 k ls (x3 ++ v.map (- ·)) ((x4 + 1 : Nat) : Int)) r) :
    ∀ (d j : Nat), j + d = v.length → Ev1 (fun k => ropewalkref02_Plain.l1 k ls (x3 ++ (v.take j).map (- ·)) x4 v j) r := by
  intro d
  induction d with
  | zero =>
    intro j hj
    obtain ⟨F, hF⟩ := hr
    dsimp only at hF
    refine ⟨F + 1, fun k hk => ?_⟩
    obtain ⟨m, rfl⟩ : ∃ m, k = m + 1 := ⟨k - 1, by omega⟩
    simp only [ropewalkref02_Plain.l1]
    rw [if_neg (by omega), List.take_of_length_le (by omega), wsuc (by omega)]
    exact hF m (by omega)
  | succ d ih =>
    intro j hj
    obtain ⟨F, hF⟩ := ih (j + 1) (by omega)
    dsimp only at hF
    have hjl : j < v.length := by omega
    have hm := hv _ (rd_mem hjl)
    refine ⟨F + 1, fun k hk => ?_⟩
    obtain ⟨m, rfl⟩ : ∃ m, k = m + 1 := ⟨k - 1, by omega⟩
    have h := hF m (by omega)
    simp only [ropewalkref02_Plain.l1]
    rw [if_pos (by omega), if_pos (by omega), if_pos (by simp only [List.length_append, List.length_map, List.length_take]; omega), wrap_id (x := -(rd v j)) (by omega) (by omega), wsuc (by omega), List.append_assoc]
    have e : (v.take (j + 1)).map (- ·) = (v.take j).map (- ·) ++ [-(rd v j)] := by
      rw [take_rd' v hjl, List.map_append]; rfl
    rw [e] at h
    exact h
theorem plain_l0' (ls : List (List Int)) (hls : 99 * ls.length ≤ 17592186044415) (hl : ∀ t ∈ ls, t.length ≤ 17592186044415) {r : List (List Int)} (hr : Ev1 (fun k => ropewalkref02_Plain.l2 k ls (vd [] ls.flatten) [] 0) r) : ∀ (d i : Nat), i + d = ls.length → Ev1 (fun k => ropewalkref02_Plain.l0 k ls (gat (ls.take i)) i) r := by
  intro d
  induction d with
  | zero =>
    intro i hi
    obtain ⟨F, hF⟩ := hr
    dsimp only at hF
    obtain ⟨G, hG⟩ := vars_f (gat ls) (by have := gat_len ls; omega)
    dsimp only at hG
    refine ⟨F + G + 1, fun k hk => ?_⟩
    obtain ⟨m, rfl⟩ : ∃ m, k = m + 1 := ⟨k - 1, by omega⟩
    simp only [ropewalkref02_Plain.l0]
    rw [if_neg (by omega), List.take_of_length_le (by omega), hG m (by omega), Option.bind_some, gat_vd]
    exact hF m (by omega)
  | succ d ih =>
    intro i hi
    have hil : i < ls.length := by omega
    have hmem : rd_L4 ls i ∈ ls := by
      unfold rd_L4
      rw [Int.toNat_natCast, List.getD_eq_getElem?_getD, List.getElem?_eq_getElem hil]; exact List.getElem_mem hil
    have et : ls.take (i + 1) = ls.take i ++ [rd_L4 ls i] := by
      rw [List.take_add_one, List.getElem?_eq_getElem hil]
      simp [rd_L4, List.getD_eq_getElem?_getD, hil]
    have hgl := gat_len (ls.take i)
    rw [List.length_take] at hgl
    have hvl := vd_short (rd_L4 ls i)
    have hih := ih (i + 1) (by omega)
    rw [et, gat_append] at hih
    have e1 : gat [rd_L4 ls i] = (vd [] (rd_L4 ls i)).map (- ·) := by simp [gat]
    rw [e1] at hih
    obtain ⟨F, hF⟩ := plain_l1' ls hls (gat (ls.take i)) i hil (vd [] (rd_L4 ls i)) (vd_var _ _ (fun x hx => by simp at hx)) (by omega) hih (vd [] (rd_L4 ls i)).length 0 (by omega)
    dsimp only at hF
    obtain ⟨G, hG⟩ := vars_f (rd_L4 ls i) (by have := hl _ hmem; omega)
    dsimp only at hG
    refine ⟨F + G + 1, fun k hk => ?_⟩
    obtain ⟨m, rfl⟩ : ∃ m, k = m + 1 := ⟨k - 1, by omega⟩
    simp only [ropewalkref02_Plain.l0]
    rw [if_pos (by omega), if_pos (by omega), hG m (by omega), Option.bind_some]
    have h := hF m (by omega)
    simp only [List.take_zero, List.map_nil, List.append_nil] at h
    exact h
theorem idx_take' {xs : List Int} (hd : xs.Nodup) {j : Nat} (h : j < xs.length) : xs.idxOf (rd xs j) = j := by
  have e : xs = xs.take j ++ rd xs j :: xs.drop (j + 1) := by conv => lhs; rw [← List.take_append_drop j xs, drop_rd xs j h]
  have hn : rd xs j ∉ xs.take j := by
    rw [e, List.nodup_append] at hd
    intro hm
    exact hd.2.2 _ hm _ (by simp) rfl
  obtain ⟨x, hx⟩ : ∃ x, x = rd xs j := ⟨_, rfl⟩
  rw [← hx] at hn e ⊢
  rw [e, idx_out hn]
  simp; omega
/-- A number, as far as the order has been looked through. -/
def cw (o : List Int) (j : Nat) (v : Int) : Int := if (v < 0 ∧ -99 ≤ v) ∧ -v ∈ o.take j then -(o.idxOf (-v) : Int) - 1 else v
theorem plain_l4' (ls : List (List Int)) (o : List Int) (hd : o.Nodup) (hv : VarL o) (x8 : List (List Int)) (x9 : Nat) (h9 : x9 < ls.length) (p : Nat) (hp : p < (rd_L4 ls x9).length) (b0 : List Int) (hb : p < b0.length) {r : List (List Int)}
    (hr : Ev1 (fun k => ropewalkref02_Plain.l3 k ls o x8 x9 (b0.set p (nw o (rd (rd_L4 ls x9) p))) ((p + 1 : Nat) : Int)) r) (hpl : p < 17592186044415) :
    ∀ (d j : Nat), j + d = o.length → Ev1 (fun k => ropewalkref02_Plain.l4 k ls o x8 x9 (b0.set p (cw o j (rd (rd_L4 ls x9) p))) p j) r := by
  have hol := nodup_le 99 o hd hv
  generalize hvv : rd (rd_L4 ls x9) p = v at *
  intro d
  induction d with
  | zero =>
    intro j hj
    obtain ⟨F, hF⟩ := hr
    dsimp only at hF
    refine ⟨F + 1, fun k hk => ?_⟩
    obtain ⟨m, rfl⟩ : ∃ m, k = m + 1 := ⟨k - 1, by omega⟩
    have e : cw o j v = nw o v := by unfold cw nw; rw [List.take_of_length_le (by omega)]
    simp only [ropewalkref02_Plain.l4]
    rw [if_neg (by omega), e, wsuc (by omega)]
    exact hF m (by omega)
  | succ d ih =>
    intro j hj
    obtain ⟨F, hF⟩ := ih (j + 1) (by omega)
    dsimp only at hF
    have hjl : j < o.length := by omega
    have hm := hv _ (rd_mem hjl)
    have ht := take_rd' o hjl
    refine ⟨F + 1, fun k hk => ?_⟩
    obtain ⟨m, rfl⟩ : ∃ m, k = m + 1 := ⟨k - 1, by omega⟩
    have h := hF m (by omega)
    simp only [ropewalkref02_Plain.l4]
    rw [if_pos (by omega), if_pos (by omega), if_pos (by omega), if_pos (by omega), if_pos (by omega), if_pos (by omega), hvv, wrap_id (x := -(rd o j)) (by omega) (by omega)]
    by_cases he : v = -(rd o j)
    · rw [if_pos he, if_pos (by rw [List.length_set]; omega), wsuc (by omega), wrap_id (x := -(((j + 1 : Nat) : Int))) (by omega) (by omega), Int.toNat_natCast, List.set_set]
      have e : cw o (j + 1) v = -(((j + 1 : Nat) : Int)) := by
        unfold cw
        rw [if_pos ⟨by omega, by rw [ht, he]; simp⟩, he, Int.neg_neg, idx_take' hd hjl]; omega
      rw [e] at h
      exact h
    · rw [if_neg he, wsuc (by omega)]
      have e : cw o (j + 1) v = cw o j v := by
        unfold cw
        have e2 : -v ∈ o.take (j + 1) ↔ -v ∈ o.take j := by
          rw [ht]
          simp only [List.mem_append, List.mem_singleton]
          exact ⟨fun h => h.elim id (fun h => absurd (by omega) he), Or.inl⟩
        simp only [e2]
      rw [e] at h
      exact h
theorem set_mid (t : List Int) (f : Int → Int) {p : Nat} (hp : p < t.length) : ((t.take p).map f ++ t.drop p).set p (f (rd t p)) = (t.take (p + 1)).map f ++ t.drop (p + 1) := by
  rw [take_rd' t hp, List.set_append_right _ _ (by simp; omega), drop_rd t p hp]
  have e : p - ((t.take p).map f).length = 0 := by simp; omega
  rw [e, List.set_cons_zero]; simp
theorem plain_l3' (ls : List (List Int)) (hls : 99 * ls.length ≤ 17592186044415) (o : List Int) (hd : o.Nodup) (hv : VarL o) (x8 : List (List Int)) (x9 : Nat) (h9 : x9 < ls.length) (h8 : x8.length = x9) {r : List (List Int)}
    (hr : Ev1 (fun k => ropewalkref02_Plain.l2 k ls o (x8 ++ [(rd_L4 ls x9).map (nw o)]) ((x9 + 1 : Nat) : Int)) r) (ht : (rd_L4 ls x9).length ≤ 17592186044415) :
    ∀ (d p : Nat), p + d = (rd_L4 ls x9).length → Ev1 (fun k => ropewalkref02_Plain.l3 k ls o x8 x9 (((rd_L4 ls x9).take p).map (nw o) ++ (rd_L4 ls x9).drop p) p) r := by
  intro d
  induction d with
  | zero =>
    intro p hp
    obtain ⟨F, hF⟩ := hr
    dsimp only at hF
    refine ⟨F + 1, fun k hk => ?_⟩
    obtain ⟨m, rfl⟩ : ∃ m, k = m + 1 := ⟨k - 1, by omega⟩
    simp only [ropewalkref02_Plain.l3]
    rw [if_neg (by simp; omega), if_pos (by omega), List.take_of_length_le (by omega), List.drop_of_length_le (by omega), List.append_nil, wsuc (by omega)]
    exact hF m (by omega)
  | succ d ih =>
    intro p hp
    have hpl : p < (rd_L4 ls x9).length := by omega
    have h3 := ih (p + 1) (by omega)
    rw [← set_mid (rd_L4 ls x9) (nw o) hpl] at h3
    obtain ⟨F, hF⟩ := plain_l4' ls o hd hv x8 x9 h9 p hpl (((rd_L4 ls x9).take p).map (nw o) ++ (rd_L4 ls x9).drop p) (by simp; omega) h3 (by omega) o.length 0 (by omega)
    dsimp only at hF
    have e0 : cw o 0 (rd (rd_L4 ls x9) p) = rd (rd_L4 ls x9) p := by unfold cw; rw [if_neg (fun h => by simpa using h.2)]
    have e1 : (((rd_L4 ls x9).take p).map (nw o) ++ (rd_L4 ls x9).drop p).set p (rd (rd_L4 ls x9) p) = ((rd_L4 ls x9).take p).map (nw o) ++ (rd_L4 ls x9).drop p := by
      rw [List.set_append_right _ _ (by simp; omega), drop_rd _ p hpl]
      have e : p - (((rd_L4 ls x9).take p).map (nw o)).length = 0 := by simp; omega
      rw [e, List.set_cons_zero]
    rw [e0, e1] at hF
    refine ⟨F + 1, fun k hk => ?_⟩
    obtain ⟨m, rfl⟩ : ∃ m, k = m + 1 := ⟨k - 1, by omega⟩
    simp only [ropewalkref02_Plain.l3]
    rw [if_pos (by simp; omega)]
    exact hF m (by omega)
theorem plain_l2' (ls : List (List Int)) (hls : 99 * ls.length ≤ 17592186044415) (hl : ∀ t ∈ ls, t.length ≤ 17592186044415) (o : List Int) (hd : o.Nodup) (hv : VarL o) : ∀ (d i : Nat), i + d = ls.length → Ev1 (fun k => ropewalkref02_Plain.l2 k ls o ((ls.take i).map (fun t => t.map (nw o))) i) (ls.map fun t => t.map (nw o)) := by
  intro d
  induction d with
  | zero =>
    intro i hi
    refine ⟨1, fun k hk => ?_⟩
    obtain ⟨m, rfl⟩ : ∃ m, k = m + 1 := ⟨k - 1, by omega⟩
    simp only [ropewalkref02_Plain.l2]
    rw [if_neg (by omega), List.take_of_length_le (by omega)]
  | succ d ih =>
    intro i hi
    have hil : i < ls.length := by omega
    have hmem : rd_L4 ls i ∈ ls := by
      unfold rd_L4
      rw [Int.toNat_natCast, List.getD_eq_getElem?_getD, List.getElem?_eq_getElem hil]; exact List.getElem_mem hil
    have et : ls.take (i + 1) = ls.take i ++ [rd_L4 ls i] := by
      rw [List.take_add_one, List.getElem?_eq_getElem hil]
      simp [rd_L4, List.getD_eq_getElem?_getD, hil]
    have h2 := ih (i + 1) (by omega)
    rw [et, List.map_append] at h2
    have hlm := hl _ hmem
    obtain ⟨F, hF⟩ := plain_l3' ls hls o hd hv ((ls.take i).map (fun t => t.map (nw o))) i hil (by simp; omega) h2 hlm (rd_L4 ls i).length 0 (by omega)
    dsimp only at hF
    refine ⟨F + 1, fun k hk => ?_⟩
    obtain ⟨m, rfl⟩ : ∃ m, k = m + 1 := ⟨k - 1, by omega⟩
    have h := hF m (by omega)
    simp only [ropewalkref02_Plain.l2]
    rw [if_pos (by omega), Option.bind_some, if_pos (by omega), if_pos (by simp; omega)]
    simpa using h
/-- The document's Plain, in numbers. -/
theorem plain2_f (ls : List (List Int)) (hls : 99 * ls.length ≤ 17592186044415) (hl : ∀ t ∈ ls, t.length ≤ 17592186044415) : Ev1 (fun k => ropewalkref02_Plain.f k ls) (ls.map fun t => t.map (nw (vd [] ls.flatten))) := by
  have hd : (vd [] ls.flatten).Nodup := vd_nodup _ _ List.nodup_nil
  have hv : VarL (vd [] ls.flatten) := vd_var _ _ (fun x hx => by simp at hx)
  have h2 := plain_l2' ls hls hl _ hd hv ls.length 0 (by omega)
  have h0 := plain_l0' ls hls hl (r := ls.map fun t => t.map (nw (vd [] ls.flatten))) (by simpa using h2) ls.length 0 (by omega)
  refine h0.eq fun k => ?_
  unfold ropewalkref02_Plain.f
  simp [gat]
end Go.Proofs.Ytadjoaipmcbieaa

/-! Y4 -/
namespace Go.Proofs.Ytadjoaipmcbieaa
end Go.Proofs.Ytadjoaipmcbieaa

/-! Y5 -/
namespace Go.Proofs.Ytadjoaipmcbieaa
end Go.Proofs.Ytadjoaipmcbieaa

/-! U8 -/
namespace Go.Proofs.Ytadjoaipmcbieaa
end Go.Proofs.Ytadjoaipmcbieaa

/-! Y6 -/
namespace Go.Proofs.Ytadjoaipmcbieaa
end Go.Proofs.Ytadjoaipmcbieaa

/-! Y7 -/
namespace Go.Proofs.Ytadjoaipmcbieaa
end Go.Proofs.Ytadjoaipmcbieaa

/-! Y8 -/
namespace Go.Proofs.Ytadjoaipmcbieaa
end Go.Proofs.Ytadjoaipmcbieaa

/-! UZ -/
namespace Go.Proofs.Ytadjoaipmcbieaa
end Go.Proofs.Ytadjoaipmcbieaa

/-! Y9 -/
namespace Go.Proofs.Ytadjoaipmcbieaa
open Go.RowKit Go.Proofs.YtadjoaipmcbieaaW.PrintWords Go.Proofs.YtadjoaipmcbieaaW.PrintLast Go.Proofs.YtadjoaipmcbieaaW.PrintMore A
set_option linter.unusedSimpArgs false
set_option linter.unusedVariables false
theorem i0 : ((0 : Nat) : Int) = 0 := rfl
end Go.Proofs.Ytadjoaipmcbieaa

/-! Z0 -/
namespace Go.Proofs.Ytadjoaipmcbieaa
open Go.RowKit Go.Proofs.YtadjoaipmcbieaaW.PrintWords Go.Proofs.YtadjoaipmcbieaaW.PrintLast Go.Proofs.YtadjoaipmcbieaaW.PrintMore A
set_option linter.unusedSimpArgs false
set_option linter.unusedVariables false
theorem take_rd (xs : List Int) {i : Nat} (h : i < xs.length) : xs.take (i + 1) = xs.take i ++ [rd xs i] := by
  rw [List.take_add_one, List.getElem?_eq_getElem h]
  simp [rd, List.getD_eq_getElem?_getD, h]
end Go.Proofs.Ytadjoaipmcbieaa

/-! P5 -/
namespace Go.Proofs.Ytadjoaipmcbieaa
open Go.RowKit Go.Proofs.YtadjoaipmcbieaaW.PrintWords Go.Proofs.YtadjoaipmcbieaaW.PrintLast Go.Proofs.YtadjoaipmcbieaaW.PrintMore A
set_option linter.unusedSimpArgs false
set_option linter.unusedVariables false
theorem nw_step {xs ys a : List Int} : ∀ m ∈ xs, nw (vd (vd a xs) ys) m = nw (vd a xs) m := fun m hm => by
  by_cases h : m < 0 ∧ -99 ≤ m
  · exact nw_vd (vd_mem hm h.1 h.2)
  · unfold nw; rw [if_neg (fun h2 => h h2.1), if_neg (fun h2 => h h2.1)]
theorem map_nw_step {xs ys a : List Int} : xs.map (nw (vd (vd a xs) ys)) = xs.map (nw (vd a xs)) := List.map_congr_left fun m hm => nw_step m hm
/-- A term, its first k numbers anew. -/
def pz (t : List Int) (k : Nat) (o : List Int) : List Int := (t.take k).map (nw o) ++ t.drop k
theorem pz_zero (t o : List Int) : pz t 0 o = t := by simp [pz]
theorem pz_all (t o : List Int) : pz t t.length o = t.map (nw o) := by simp [pz]
theorem pz_len (t : List Int) (k : Nat) (o : List Int) : (pz t k o).length = t.length := by simp [pz]; omega
theorem pz_next {t a : List Int} {k : Nat} (h : k < t.length) : (pz t k (vd a (t.take k))).set k (nw (vd a (t.take (k + 1))) (rd t k)) = pz t (k + 1) (vd a (t.take (k + 1))) := by
  have e : (t.take k).map (nw (vd a (t.take k))) = (t.take k).map (nw (vd a (t.take (k + 1)))) := by
    rw [take_rd t h, vd_append, map_nw_step]
  unfold pz
  rw [e, List.set_append_right _ _ (by simp; omega), drop_rd t k h]
  have e0 : k - ((t.take k).map (nw (vd a (t.take (k + 1))))).length = 0 := by simp; omega
  rw [e0, List.set_cons_zero]
  conv => rhs; rw [take_rd t h]
  simp [take_rd t h]
theorem pz_same {t a : List Int} {k : Nat} (h : k < t.length) (hv : ¬ (rd t k < 0 ∧ -99 ≤ rd t k)) : pz t (k + 1) (vd a (t.take (k + 1))) = pz t k (vd a (t.take k)) ∧ vd a (t.take (k + 1)) = vd a (t.take k) := by
  have e : vd a (t.take (k + 1)) = vd a (t.take k) := by
    rw [take_rd t h, vd_append]
    simp only [vd]
    rw [if_neg (fun h2 => hv h2.1)]
  refine ⟨?_, e⟩
  rw [e]
  unfold pz
  rw [take_rd t h, drop_rd t k h]
  have e2 : nw (vd a (t.take k)) (rd t k) = rd t k := if_neg (fun h2 => hv h2.1)
  simp [e2]
theorem vd_next {t a : List Int} {k : Nat} (h : k < t.length) (hv : rd t k < 0 ∧ -99 ≤ rd t k) : vd a (t.take (k + 1)) = if -(rd t k) ∈ vd a (t.take k) then vd a (t.take k) else vd a (t.take k) ++ [-(rd t k)] := by
  rw [take_rd t h, vd_append]
  simp only [vd]
  by_cases hm : -(rd t k) ∈ vd a (t.take k)
  · rw [if_neg (fun h2 => h2.2 hm), if_pos hm]
  · rw [if_pos ⟨hv, hm⟩, if_neg hm]
/-- The table of an order: each variable's new number, 0: none yet. -/
structure VOk (V o : List Int) : Prop where
  len : V.length = 100
  d : o.Nodup
  v : VarL o
  at_ : ∀ v : Nat, 1 ≤ v → v ≤ 99 → rd V v = if (v : Int) ∈ o then (o.idxOf (v : Int) : Int) + 1 else 0
theorem VOk.nil : VOk (List.replicate 100 0) [] := by
  refine ⟨by simp, List.nodup_nil, fun x hx => by simp at hx, fun v h1 h2 => ?_⟩
  rw [if_neg (by simp)]
  simp only [rd, Int.toNat_natCast, List.getD_eq_getElem?_getD, List.getElem?_replicate]; split <;> rfl
theorem VOk.cnt {V o : List Int} (h : VOk V o) : o.length ≤ 99 := nodup_le 99 o h.d h.v
theorem VOk.push {V o : List Int} (h : VOk V o) {v : Nat} (h1 : 1 ≤ v) (h2 : v ≤ 99) (hn : (v : Int) ∉ o) : VOk (V.set v ((o.length : Int) + 1)) (o ++ [(v : Int)]) := by
  refine ⟨by rw [List.length_set]; exact h.len, ?_, fun x hx => ?_, fun u h3 h4 => ?_⟩
  · rw [List.nodup_append]; exact ⟨h.d, by simp, fun a ha b hb => by rw [List.mem_singleton.1 hb]; exact fun e => hn (e ▸ ha)⟩
  · rcases List.mem_append.1 hx with hx | hx
    · exact h.v x hx
    · rw [List.mem_singleton.1 hx]; omega
  · rw [rd_set _ _ _ _ (by rw [h.len]; omega)]
    by_cases e : v = u
    · subst e
      rw [if_pos rfl, if_pos (by simp), idx_out hn]; simp
    · rw [if_neg e, h.at_ u h3 h4]
      by_cases hu : (u : Int) ∈ o
      · rw [if_pos hu, if_pos (by simp [hu]), idx_in hu]
      · rw [if_neg hu, if_neg (by simp [hu]; omega)]
theorem VOk.new {V o : List Int} (h : VOk V o) {v : Nat} (h1 : 1 ≤ v) (h2 : v ≤ 99) (hm : (v : Int) ∈ o) : -(rd V v) = nw o (-(v : Int)) := by
  unfold nw
  rw [if_pos ⟨by omega, by rw [Int.neg_neg]; exact hm⟩, Int.neg_neg, h.at_ v h1 h2, if_pos hm]; omega
/-- A list of lists that the call makes: element j's row is of the time lo j .. lo (j + 1); those to come are nil. -/
structure PlSt (W : World) (base g n : Nat) (vs : List Value) (lo : Nat → Nat) (xs : List (List Int)) : Prop where
  blk : W.heap[g]? = some (.cells (vs ++ List.replicate (n - vs.length) (Value.slice none 0 0)).toArray 25 (0, 0))
  vl : vs.length = xs.length
  le : vs.length ≤ n
  b : base ≤ g
  gl : g < lo 0
  mono : ∀ j, j < vs.length → lo j ≤ lo (j + 1)
  row : ∀ j, j < vs.length → Rw W (lo j) (lo (j + 1)) (vs.getD j (Value.slice none 0 0)) (xs.getD j [])
  top : lo vs.length ≤ W.heap.size
section
variable {W W' : World} {base g n : Nat} {vs : List Value} {lo : Nat → Nat} {xs : List (List Int)}
theorem PlSt.below (h : PlSt W base g n vs lo xs) (hb : Below W.heap.size W W') : PlSt W' base g n vs lo xs :=
  ⟨(hb.block _ (blk_lt h.blk)).trans h.blk, h.vl, h.le, h.b, h.gl, h.mono, fun j hj => (h.row j hj).below hb, Nat.le_trans h.top hb.size⟩
theorem lo_mono {lo : Nat → Nat} {m : Nat} (h : ∀ j, j < m → lo j ≤ lo (j + 1)) : ∀ {i j : Nat}, i ≤ j → j ≤ m → lo i ≤ lo j := by
  intro i j hij hj
  induction j with
  | zero =>
    have e : i = 0 := by omega
    rw [e]; exact Nat.le_refl _
  | succ j ih =>
    rcases Nat.lt_or_ge i (j + 1) with h1 | h1
    · exact Nat.le_trans (ih (by omega) (by omega)) (h j (by omega))
    · have e : i = j + 1 := by omega
      rw [e]; exact Nat.le_refl _
theorem PlSt.low (h : PlSt W base g n vs lo xs) {j : Nat} (hj : j ≤ vs.length) : g < lo j := Nat.lt_of_lt_of_le h.gl (lo_mono h.mono (Nat.zero_le j) hj)
/-- A block elsewhere is written. -/
theorem PlSt.kept {S : Nat → Prop} (h : PlSt W base g n vs lo xs) (hk : Kept W W' S) (hg : ¬ S g) (hS : ∀ k, lo 0 ≤ k → k < lo vs.length → ¬ S k) : PlSt W' base g n vs lo xs :=
  ⟨blk_kept h.blk hk hg, h.vl, h.le, h.b, h.gl, h.mono, fun j hj => (h.row j hj).kept hk (fun k h1 h2 => hS k (Nat.le_trans (lo_mono h.mono (Nat.zero_le j) (by omega)) h1) (Nat.lt_of_lt_of_le h2 (lo_mono h.mono (by omega) (Nat.le_refl _)))), Nat.le_trans h.top hk.1⟩
theorem PlSt.cell (h : PlSt W base g n vs lo xs) {i : Nat} (hi : i < n) : W.cell? ⟨g, i, none⟩ = some ((vs ++ List.replicate (n - vs.length) (Value.slice none 0 0)).getD i (Value.slice none 0 0)) ∧ W.frozen? ⟨g, i, none⟩ = false := by
  have hl : i < (vs ++ List.replicate (n - vs.length) (Value.slice none 0 0)).length := by have := h.le; simp; omega
  have c := cell_of_row W g i _ _ _ h.blk
  refine ⟨?_, frozen_of_row h.blk i⟩
  rw [c]
  rw [List.getElem?_toArray, List.getD_eq_getElem?_getD, List.getElem?_eq_getElem hl]; rfl
/-- Element vs.length is put. -/
theorem PlSt.push (h : PlSt W base g n vs lo xs) (hn : vs.length < n) {v : Value} {x : List Int} {hi : Nat} (hr : Rw W (lo vs.length) hi v x) (hle : lo vs.length ≤ hi) (hhi : hi ≤ W.heap.size) :
    PlSt (W.setCell ⟨g, vs.length, none⟩ v) base g n (vs ++ [v]) (fun j => if j ≤ vs.length then lo j else hi) (xs ++ [x]) := by
  have hb := blk_set h.blk vs.length v
  have e : ((vs ++ List.replicate (n - vs.length) (Value.slice none 0 0)).toArray.setIfInBounds vs.length v) = ((vs ++ [v]) ++ List.replicate (n - (vs ++ [v]).length) (Value.slice none 0 0)).toArray := by
    have e1 : n - vs.length = (n - (vs ++ [v]).length) + 1 := by simp; omega
    rw [List.setIfInBounds_toArray, e1, List.replicate_succ, List.set_append_right _ _ (Nat.le_refl _), Nat.sub_self, List.set_cons_zero, List.append_assoc]; rfl
  rw [e] at hb
  have hfar : ∀ {j : Nat} {lo' hi' : Nat} {v' : Value} {x' : List Int}, g < lo' → Rw W lo' hi' v' x' → Rw (W.setCell ⟨g, vs.length, none⟩ v) lo' hi' v' x' := fun hg hr => Kd.R_far hr (p := ⟨g, vs.length, none⟩) (fun k hk e => by
    have e' : k = g := e
    omega) _
  refine ⟨hb, by simp [h.vl], by simp; omega, h.b, by simp [h.gl], fun j hj => ?_, fun j hj => ?_, ?_⟩
  · simp at hj
    by_cases hj2 : j < vs.length
    · rw [if_pos (by omega), if_pos (by omega)]; exact h.mono j hj2
    · obtain rfl : j = vs.length := by omega
      rw [if_pos (Nat.le_refl _), if_neg (by omega)]; exact hle
  · simp at hj
    by_cases hj2 : j < vs.length
    · rw [if_pos (by omega), if_pos (by omega)]
      have e1 : (vs ++ [v]).getD j (Value.slice none 0 0) = vs.getD j (Value.slice none 0 0) := by simp [List.getD_eq_getElem?_getD, List.getElem?_append_left hj2]
      have e2 : (xs ++ [x]).getD j [] = xs.getD j [] := by simp [List.getD_eq_getElem?_getD, List.getElem?_append_left (show j < xs.length by have := h.vl; omega)]
      rw [e1, e2]
      exact hfar (j := j) (h.low (by omega)) (h.row j hj2)
    · obtain rfl : j = vs.length := by omega
      rw [if_pos (Nat.le_refl _), if_neg (by omega)]
      have e1 : (vs ++ [v]).getD vs.length (Value.slice none 0 0) = v := by simp [List.getD_eq_getElem?_getD]
      have e2 : (xs ++ [x]).getD vs.length [] = x := by simp [List.getD_eq_getElem?_getD, h.vl]
      rw [e1, e2]
      exact hfar (j := 0) (h.low (Nat.le_refl _)) hr
  · simp only [List.length_append, List.length_singleton]
    rw [if_neg (by omega)]
    rw [show (W.setCell ⟨g, vs.length, none⟩ v).heap.size = W.heap.size from by simp]
    exact hhi
/-- The last element's number i is put. -/
theorem PlSt.put {gi m c : Nat} {x : List Int} (h : PlSt W base g n (vs ++ [.slice (some ⟨gi, 0, none⟩) m c]) lo (xs ++ [x])) (i : Nat) (z : Int) :
    PlSt (W.setCell ⟨gi, i, none⟩ (.int .i64 z)) base g n (vs ++ [.slice (some ⟨gi, 0, none⟩) m c]) lo (xs ++ [x.set i z]) := by
  have hvl : vs.length = xs.length := by have := h.vl; simpa using this
  have hlast := h.row vs.length (by simp)
  have e1 : (vs ++ [Value.slice (some ⟨gi, 0, none⟩) m c]).getD vs.length (Value.slice none 0 0) = .slice (some ⟨gi, 0, none⟩) m c := by simp [List.getD_eq_getElem?_getD]
  have e2 : ∀ y : List Int, (xs ++ [y]).getD vs.length [] = y := fun y => by simp [List.getD_eq_getElem?_getD, hvl]
  rw [e1, e2] at hlast
  have hgi := hlast.at_
  have hm := h.mono
  simp only [List.length_append, List.length_singleton] at hm
  have hne : g ≠ gi := by have := h.low (j := vs.length) (by simp); omega
  refine ⟨blk_far h.blk (p := ⟨gi, i, none⟩) hne _, by simp [hvl], h.le, h.b, h.gl, h.mono, fun j hj => ?_, ?_⟩
  · simp at hj
    by_cases hj2 : j < vs.length
    · have hrow := h.row j (by simp; omega)
      have e3 : ∀ y : List Int, (xs ++ [y]).getD j [] = xs.getD j [] := fun y => by simp [List.getD_eq_getElem?_getD, List.getElem?_append_left (show j < xs.length by omega)]
      rw [e3] at hrow ⊢
      have hlo : lo (j + 1) ≤ lo vs.length := lo_mono hm (by omega) (by omega)
      exact Kd.R_far hrow (p := ⟨gi, i, none⟩) (fun k hk e => by
        have e' : k = gi := e
        omega) _
    · obtain rfl : j = vs.length := by omega
      rw [e1, e2]
      exact (Kd.R_putg hlast (i : Int) z).1
  · rw [show (W.setCell ⟨gi, i, none⟩ (.int .i64 z)).heap.size = W.heap.size from by simp]; exact h.top
end
end Go.Proofs.Ytadjoaipmcbieaa

/-! P6 -/
namespace Go.Proofs.Ytadjoaipmcbieaa
open Go.RowKit Go.Proofs.YtadjoaipmcbieaaW.PrintWords Go.Proofs.YtadjoaipmcbieaaW.PrintLast Go.Proofs.YtadjoaipmcbieaaW.PrintMore A
set_option linter.unusedSimpArgs false
set_option linter.unusedVariables false
theorem z104 : Try.zeroCells104 = (nums .i64 (List.replicate 100 0)).toArray := by kernel_rfl
theorem make_nils (N : Nat) (hN : N ≤ 5864062014805) (W : World) : (Instr.makeSlice 54 (.int .i64 N) (.int .i64 N)).run Try.prog W = .ok (.slice (some ⟨W.heap.size, 0, none⟩) N N) (W.alloc (.cells (List.replicate N (Value.slice none 0 0)).toArray 25)) := by
  have info25 : (Try.prog.info? 25).map (fun i => (i.zero, i.size, i.bytes)) = some (some (.slice none 0 0), 1, 24) := by kernel_rfl
  obtain ⟨i0, hi, hz0, hz1, hz2⟩ := info_parts info25
  have hr := run_make (P := Try.prog) W 54 25 i0 (.slice none 0 0) Try.underlying54 hi hz0 .i64 .i64 N N (by omega) (by omega) (by rw [hz2]; omega) (by omega)
  rw [hz1] at hr
  have e : (madeCells #[.slice none 0 0] N) = (List.replicate N (Value.slice none 0 0)).toArray := by
    apply Array.ext
    · simp [size_madeCells]
    · intro i h1 h2
      simp [madeCells, Nat.mod_one]
  rw [← e]
  simpa [Value.cells] using hr
section
variable {W W' : World} {base g n : Nat} {vs : List Value} {lo : Nat → Nat} {xs : List (List Int)}
theorem PlSt.far (h : PlSt W base g n vs lo xs) {p : Addr} (hp : p.block < g) (u : Value) : PlSt (W.setCell p u) base g n vs lo xs :=
  ⟨blk_far h.blk (by omega) _, h.vl, h.le, h.b, h.gl, h.mono, fun j hj => Kd.R_far (h.row j hj) (fun k hk e => by have := h.low (j := j) (by omega); omega) _, by rw [show (W.setCell p u).heap.size = W.heap.size from by simp]; exact h.top⟩
theorem PlSt.new (w : World) (o : Obj) (n : Nat) : PlSt ((w.alloc o).alloc (.cells (List.replicate n (Value.slice none 0 0)).toArray 25)) w.heap.size (w.heap.size + 1) n [] (fun _ => w.heap.size + 2) [] := by
  refine ⟨?_, rfl, by simp, by omega, by omega, fun j hj => by simp at hj, fun j hj => by simp at hj, ?_⟩
  · have h := heap_alloc_new (w.alloc o) (.cells (List.replicate n (Value.slice none 0 0)).toArray 25)
    rw [show (w.alloc o).heap.size = w.heap.size + 1 from by simp] at h
    simpa using h
  · simp
end
/-- Where Plain stands. -/
structure OSt (w W : World) (n : Nat) (o V : List Int) (vs : List Value) (lo : Nat → Nat) (xs : List (List Int)) : Prop where
  p : PlSt W w.heap.size (w.heap.size + 1) n vs lo xs
  a : W.heap[w.heap.size]? = some (.cells (nums .i64 V).toArray 104 (0, 0))
  b : Below w.heap.size w W
  v : VOk V o
section
variable {w W W' : World} {n : Nat} {o V : List Int} {vs : List Value} {lo : Nat → Nat} {xs : List (List Int)}
theorem OSt.below (h : OSt w W n o V vs lo xs) (hb : Below W.heap.size W W') : OSt w W' n o V vs lo xs :=
  ⟨h.p.below hb, (hb.block _ (blk_lt h.a)).trans h.a, below_then h.b h.b.size hb, h.v⟩
theorem OSt.acell (h : OSt w W n o V vs lo xs) {v : Nat} (hv : v < 100) {x : Int} (hx : rd V v = x) : W.cell? ⟨w.heap.size, v, none⟩ = some (.int .i64 x) ∧ W.frozen? ⟨w.heap.size, v, none⟩ = false := by
  have hl : v < V.length := by rw [h.v.len]; exact hv
  have c := cell_of_row W w.heap.size v _ _ _ h.a
  refine ⟨?_, frozen_of_row h.a v⟩
  rw [c]
  simp only [rd, Int.toNat_natCast, List.getD_eq_getElem?_getD, List.getElem?_eq_getElem hl, Option.getD_some] at hx
  simp [nums, hl, hx]
theorem OSt.push (h : OSt w W n o V vs lo xs) (hn : vs.length < n) {v : Value} {x : List Int} {hi : Nat} (hr : Rw W (lo vs.length) hi v x) (hle : lo vs.length ≤ hi) (hhi : hi ≤ W.heap.size) :
    OSt w (W.setCell ⟨w.heap.size + 1, vs.length, none⟩ v) n o V (vs ++ [v]) (fun j => if j ≤ vs.length then lo j else hi) (xs ++ [x]) :=
  ⟨h.p.push hn hr hle hhi, blk_far h.a (p := ⟨w.heap.size + 1, vs.length, none⟩) (by show w.heap.size ≠ w.heap.size + 1; omega) _, h.b.setCell (p := ⟨w.heap.size + 1, vs.length, none⟩) (by show w.heap.size ≤ w.heap.size + 1; omega) _, h.v⟩
theorem OSt.put {gi m c : Nat} {x : List Int} (h : OSt w W n o V (vs ++ [.slice (some ⟨gi, 0, none⟩) m c]) lo (xs ++ [x])) (i : Nat) (z : Int) :
    OSt w (W.setCell ⟨gi, i, none⟩ (.int .i64 z)) n o V (vs ++ [.slice (some ⟨gi, 0, none⟩) m c]) lo (xs ++ [x.set i z]) := by
  have hlast := h.p.row vs.length (by simp)
  have e1 : (vs ++ [Value.slice (some ⟨gi, 0, none⟩) m c]).getD vs.length (Value.slice none 0 0) = .slice (some ⟨gi, 0, none⟩) m c := by simp [List.getD_eq_getElem?_getD]
  rw [e1] at hlast
  have hgi := hlast.at_
  have hlow := h.p.low (j := vs.length) (by simp)
  exact ⟨h.p.put i z, blk_far h.a (p := ⟨gi, i, none⟩) (by show w.heap.size ≠ gi; omega) _, h.b.setCell (p := ⟨gi, i, none⟩) (by show w.heap.size ≤ gi; omega) _, h.v⟩
theorem OSt.newVar (h : OSt w W n o V vs lo xs) {v : Nat} (h1 : 1 ≤ v) (h2 : v ≤ 99) (hn : (v : Int) ∉ o) :
    OSt w (W.setCell ⟨w.heap.size, v, none⟩ (.int .i64 ((o.length : Int) + 1))) n (o ++ [(v : Int)]) (V.set v ((o.length : Int) + 1)) vs lo xs := by
  have hb := blk_set h.a v (.int .i64 ((o.length : Int) + 1))
  rw [nums_set] at hb
  exact ⟨h.p.far (p := ⟨w.heap.size, v, none⟩) (by show w.heap.size < w.heap.size + 1; omega) _, hb, h.b.setCell (p := ⟨w.heap.size, v, none⟩) (Nat.le_refl _) _, h.v.push h1 h2 hn⟩
end
theorem isv2_f (n : Int) : term_isVariable.f n = some (decide (n < 0 ∧ -99 ≤ n)) := by
  unfold term_isVariable.f
  by_cases h : n < 0
  · rw [if_pos h]; simp [h]
  · rw [if_neg h]; simp [h]
theorem isVariable_any (n : Int) (w : World) : Calls Try.prog 80 #[.int .i64 n] w fun e w' => e = .returned (.bool (decide (n < 0 ∧ -99 ≤ n))) ∧ Drawn0 w w' := term_isVariable.calls n _ w (isv2_f n)
/-- The lists that are done, by the order that stands now. -/
def dn (ls : List (List Int)) (i : Nat) (o : List Int) : List (List Int) := (ls.take i).map fun t => t.map (nw o)
theorem dn_step (ls : List (List Int)) (i : Nat) (ys : List Int) : dn ls i (vd (vd [] (ls.take i).flatten) ys) = dn ls i (vd [] (ls.take i).flatten) := by
  unfold dn
  refine List.map_congr_left fun t ht => List.map_congr_left fun m hm => ?_
  exact nw_step m (List.mem_flatten.2 ⟨t, ht, hm⟩)
theorem dn_len {ls : List (List Int)} {i : Nat} (h : i ≤ ls.length) (o : List Int) : (dn ls i o).length = i := by simp [dn]; omega
theorem take_rd4 {ls : List (List Int)} {i : Nat} (h : i < ls.length) : ls.take (i + 1) = ls.take i ++ [rd_L4 ls i] := by
  rw [List.take_add_one, List.getElem?_eq_getElem h]
  simp [rd_L4, List.getD_eq_getElem?_getD, h]
theorem dn_next {ls : List (List Int)} {i : Nat} (h : i < ls.length) (o : List Int) : dn ls (i + 1) o = dn ls i o ++ [(rd_L4 ls i).map (nw o)] := by
  unfold dn
  rw [take_rd4 h, List.map_append]; rfl
theorem flat_next {ls : List (List Int)} {i : Nat} (h : i < ls.length) : (ls.take (i + 1)).flatten = (ls.take i).flatten ++ rd_L4 ls i := by
  rw [take_rd4 h, List.flatten_append]; simp
end Go.Proofs.Ytadjoaipmcbieaa

/-! P7 -/
namespace Go.Proofs.Ytadjoaipmcbieaa
open Go.RowKit Go.Proofs.YtadjoaipmcbieaaW.PrintWords Go.Proofs.YtadjoaipmcbieaaW.PrintLast Go.Proofs.YtadjoaipmcbieaaW.PrintMore A
set_option linter.unusedSimpArgs false
set_option linter.unusedVariables false
theorem Rw.widen {W : World} {a b a' b' : Nat} {v : Value} {xs : List Int} (h : Rw W a b v xs) (ha : a' ≤ a) (hb : b ≤ b') : Rw W a' b' v xs := Kd.R_lower (Kd.R_mono h (fun k hk => ⟨by omega, by omega⟩)) ha
theorem OSt.last {w W : World} {n : Nat} {o V : List Int} {vs : List Value} {lo : Nat → Nat} {xs : List (List Int)} {v : Value} {x : List Int} (h : OSt w W n o V (vs ++ [v]) lo (xs ++ [x])) : Rw W (lo vs.length) (lo (vs.length + 1)) v x := by
  have hvl : vs.length = xs.length := by have := h.p.vl; simpa using this
  have hlast := h.p.row vs.length (by simp)
  have e1 : (vs ++ [v]).getD vs.length (Value.slice none 0 0) = v := by simp [List.getD_eq_getElem?_getD]
  have e2 : (xs ++ [x]).getD vs.length [] = x := by simp [List.getD_eq_getElem?_getD, hvl]
  rw [e1, e2] at hlast
  exact hlast
theorem OSt.lcell {w W : World} {n : Nat} {o V : List Int} {vs : List Value} {lo : Nat → Nat} {xs : List (List Int)} {v : Value} (h : OSt w W n o V (vs ++ [v]) lo xs) {i : Nat} (hi : vs.length = i) : W.cell? ⟨w.heap.size + 1, i, none⟩ = some v := by
  subst hi
  have hn := h.p.le
  rw [(h.p.cell (i := vs.length) (by simp at hn; omega)).1]
  congr 1
  rw [List.getD_eq_getElem?_getD, List.append_assoc, List.getElem?_append_right (Nat.le_refl _)]; simp
set_option maxRecDepth 100000 in
set_option maxHeartbeats 8000000 in
theorem Plain_any (A0 : Option Addr) (c0 : Nat) (ls : List (List Int)) (w : World) (hA : Kd.C (Kd.slice 3 (Kd.int .i64)) w A0 ls.length ls) (hc : ls.length ≤ c0) (hn : ls.length ≤ 5864062014805) (hl : ∀ t ∈ ls, t.length ≤ 17592186044415) :
    Calls Try.prog 48 #[.slice A0 ls.length c0] w fun e w' => ∃ (g : Nat) (lo : Nat → Nat) (vs : List Value), e = .returned (.slice (some ⟨g, 0, none⟩) ls.length ls.length) ∧ PlSt w' w.heap.size g ls.length vs lo (ls.map fun t => t.map (nw (vd [] ls.flatten))) ∧ vs.length = ls.length ∧ Below w.heap.size w w' := by
  have mk := make_nils ls.length hn
  have HA := Aside0.mk hA
  have HL := Aside0.mk hl
  clear hA hl
  go_enter Try.func48, Try.ntmps48
  go_wp2_with fail
  have H1 : Aside0 (OSt w ((w.alloc (.cells Try.zeroCells104 104)).alloc (.cells (List.replicate ls.length (Value.slice none 0 0)).toArray 25)) ls.length (vd [] (ls.take 0).flatten) (List.replicate 100 0) [] (fun _ => w.heap.size + 2) (dn ls 0 (vd [] (ls.take 0).flatten))) := by
    refine ⟨⟨PlSt.new w _ ls.length, ?_, below_alloc (below_alloc (Below.refl _ _) _) _, VOk.nil⟩⟩
    rw [Below.heap_alloc _ _ _ (by simp), heap_alloc_new, z104]
  clear mk
  go_loopg [4, 15] ls.length (fun m a4 a15 wr => ∃ (i cnt : Nat) (V : List Int) (vs : List Value) (lo : Nat → Nat), a4 = .int .i64 cnt ∧ a15 = .int .i64 i ∧ i ≤ ls.length ∧ Aside0 (m = ls.length - i) ∧ Aside0 (cnt = (vd [] (ls.take i).flatten).length) ∧ Aside0 (OSt w wr ls.length (vd [] (ls.take i).flatten) V vs lo (dn ls i (vd [] (ls.take i).flatten))))
  case atStart => exact ⟨0, 0, _, _, _, rfl, rfl, Nat.zero_le _, ⟨rfl⟩, ⟨rfl⟩, H1⟩
  case round =>
    clear H1
    obtain ⟨i, cnt, V, vs, lo, rfl, rfl, hi, HM, HC, HS⟩ := hrel
    have HVL : Aside0 (vs.length = i) := ⟨by rw [HS.out.p.vl, dn_len hi]⟩
    by_cases hlt : i < ls.length
    · obtain ⟨ad, A1, c1, eA, hx0, hc1, hCC⟩ := at_L4 HA.out (i : Int) (by omega) (by omega)
      cases eA
      rw [Int.toNat_natCast] at hx0
      have hx := pw_cell_below HS.out.b hx0
      clear hx0
      have HCW := Aside0.mk hCC
      clear hCC
      have hmem : rd_L4 ls i ∈ ls := by
        unfold rd_L4
        rw [Int.toNat_natCast, List.getD_eq_getElem?_getD, List.getElem?_eq_getElem hlt]; exact List.getElem_mem hlt
      have htl := HL.out _ hmem
      have HF := Aside0.mk (flat_next hlt)
      have HDN := Aside0.mk (dn_next hlt)
      obtain ⟨oi, hoi⟩ : ∃ o, o = vd [] (ls.take i).flatten := ⟨_, rfl⟩
      have HST := Aside0.mk (dn_step ls i (rd_L4 ls i))
      rw [← hoi] at HC HS HST
      have HO := Aside0.mk hoi
      generalize rd_L4 ls i = t at *
      have HI := Aside0.mk hlt
      have hi2 : (i : Int) < (ls.length : Int) := by omega
      clear hoi hmem
      go_wp2_with fail
      clear hx
      refine (clone_any A1 c1 t wr (Kd.C_below HCW.out HS.out.b) htl).mono ?_
      rintro e w2 ⟨v2, rfl, hr2, hb2⟩
      have R2 := Aside0.mk (Rw.mk hr2)
      have S2 := Aside0.mk (HS.out.below hb2)
      have B2 := Aside0.mk hb2
      have T2 := Aside0.mk HS.out.p.top
      obtain ⟨Av, cv, rfl⟩ := Kd.R_slice hr2
      clear hr2 hb2 HS
      obtain ⟨k0, f0⟩ := S2.out.p.cell (i := i) hlt
      go_wp2_with fail
      clear k0 f0
      have hv3 := HVL.out
      have S3 : Aside0 (OSt w (w2.setCell ⟨w.heap.size + 1, i, none⟩ (.slice Av t.length cv)) ls.length (vd oi (t.take 0)) V (vs ++ [.slice Av t.length cv]) (fun j => if j ≤ vs.length then lo j else w2.heap.size) (dn ls i oi ++ [pz t 0 (vd oi (t.take 0))])) := ⟨by
        have h := S2.out.push (by omega) (R2.out.widen T2.out (Nat.le_refl _)) (Nat.le_trans T2.out B2.out.size) (Nat.le_refl _)
        rw [hv3] at h
        rw [pz_zero, hv3]; exact h⟩
      clear hv3 S2 R2 B2 T2
      generalize (fun j => if j ≤ vs.length then lo j else w2.heap.size) = lo2 at *
      generalize w2.setCell ⟨w.heap.size + 1, i, none⟩ (.slice Av t.length cv) = w3 at *
      have HIL : Aside0 (i < ls.length) := HI
      go_loopg [4, 27] t.length (fun m a4 a27 wr => ∃ (k cnt : Nat) (V : List Int), a4 = .int .i64 cnt ∧ a27 = .int .i64 k ∧ k ≤ t.length ∧ Aside0 (m = t.length - k) ∧ Aside0 (cnt = (vd oi (t.take k)).length) ∧ Aside0 (OSt w wr ls.length (vd oi (t.take k)) V (vs ++ [.slice Av t.length cv]) lo2 (dn ls i oi ++ [pz t k (vd oi (t.take k))])))
      case atStart => exact ⟨0, cnt, V, rfl, rfl, Nat.zero_le _, ⟨rfl⟩, HC, S3⟩
      case round =>
        clear S3
        obtain ⟨k, cnt', V', rfl, rfl, hk, HM2, HC2, HS⟩ := hrel
        by_cases hkl : k < t.length
        · obtain ⟨gi, cv', e, _, _⟩ := Kd.R_form HS.out.last (by rw [pz_len]; omega)
          rw [pz_len] at e
          cases e
          obtain ⟨ad1, e, hx⟩ := int_at (Kd.C_below HCW.out HS.out.b) k hkl
          cases e
          have hk2 : (k : Int) < (t.length : Int) := by omega
          have hk0 : (0 : Int) ≤ (k : Int) := by omega
          have hi0 : (0 : Int) ≤ (i : Int) := by omega
          have hcn := HS.out.v.cnt
          have hc99 : cnt' ≤ 99 := by have := HC2.out; omega
          have HKL := Aside0.mk hkl
          by_cases hv : rd t k < 0 ∧ -99 ≤ rd t k
          · obtain ⟨v, hvv⟩ : ∃ v : Nat, rd t k = -(v : Int) := ⟨(-(rd t k)).toNat, by omega⟩
            have hv1 : 1 ≤ v := by omega
            have hv2 : v ≤ 99 := by omega
            have HVN := Aside0.mk (vd_next (a := oi) hkl hv)
            have HPN := Aside0.mk (pz_next (a := oi) hkl)
            rw [hvv] at hx
            have HVV := Aside0.mk hvv
            clear hv hvv hcn
            go_wp2_with fail
            refine (isVariable_any _ _).mono ?_
            rintro e w5 ⟨rfl, hd⟩
            rw [show decide (-(v : Int) < 0 ∧ -99 ≤ -(v : Int)) = true from decide_eq_true (by omega)]
            have HS5 := Aside0.mk (HS.out.below hd.below)
            clear hd HS hx
            have hvi : (v : Int) < 100 := by omega
            have hvj : (0 : Int) ≤ (v : Int) := by omega
            have hwv : IntKind.i64.wrap (v : Int) = v := by rw [i64_w]; exact wrap_id (by omega) (by omega)
            by_cases hm : (v : Int) ∈ vd oi (t.take k)
            · obtain ⟨x, hx⟩ : ∃ x, rd V' v = x := ⟨_, rfl⟩
              have hx2 : x = ((vd oi (t.take k)).idxOf (v : Int) : Int) + 1 := by rw [← hx, HS5.out.v.at_ v hv1 hv2, if_pos hm]
              have hx3 : 1 ≤ x ∧ x ≤ 99 := by
                have h1 := List.idxOf_lt_length_of_mem hm
                have h2 := HS5.out.v.cnt
                omega
              obtain ⟨hx4, hx5⟩ := hx3
              have HNW : Aside0 (nw (vd oi (t.take (k + 1))) (rd t k) = -x ∧ vd oi (t.take (k + 1)) = vd oi (t.take k)) := ⟨by
                have e2 : vd oi (t.take (k + 1)) = vd oi (t.take k) := by rw [HVN.out, HVV.out, Int.neg_neg, if_pos hm]
                rw [e2, HVV.out, ← hx]
                exact ⟨(HS5.out.v.new hv1 hv2 hm).symm, rfl⟩⟩
              have ex : (x == 0) = false := beq_eq_false_iff_ne.2 (by omega)
              have hwx : IntKind.i64.wrap (-x) = -x := by rw [i64_w]; exact wrap_id (by omega) (by omega)
              obtain ⟨a0, af⟩ := HS5.out.acell (v := v) (by omega) hx
              clear hx hx2 hm
              have HWX := Aside0.mk (And.intro hwx hwv)
              clear hwx hwv
              go_wp2_with fail
              have hwx := HWX.out.1
              have hwv := HWX.out.2
              have k0 := HS5.out.lcell HVL.out
              clear af
              refine start_ (n := 12) (S := fun w' => w'.cell? ⟨w.heap.size + 1, i, none⟩ = some (.slice (some ⟨gi, 0, none⟩) t.length cv) ∧ w'.cell? ⟨w.heap.size, v, none⟩ = some (.int .i64 x)) (ds := [11]) #[false, false, false, false, false, false, false, false, false, false, false, false] (by kernel_rfl) rfl rfl ⟨k0, a0⟩ (fun hHeld => ?_)
              replace HS5 : Aside0 (OSt w w5.drew ls.length (vd oi (t.take k)) V' (vs ++ [.slice (some ⟨gi, 0, none⟩) t.length cv]) lo2 (dn ls i oi ++ [pz t k (vd oi (t.take k))])) := ⟨HS5.out.below (below_drew (Below.refl _ _))⟩
              generalize w5.drew = w6 at *
              clear k0 a0
              refine pure_ (i := 0) (N := some 46) (v := ?_) (a' := ?_) #[true, false, false, false, false, false, false, false, false, false, false, false] rfl rfl (by kernel_rfl) (fun _ _ _ h => h) (Or.inl ⟨by rfl, ?_⟩) ?_ ?_
              rotate_left
              · intro w'
                go_simp
                with_reducible rfl
              rotate_left
              · simp only [Act.put, List.setIfInBounds_toArray, List.set_cons_zero, List.set_cons_succ, i64_w, i32_w]
                rfl
              refine pure_ (i := 1) (N := some 47) (v := ?_) (a' := ?_) #[true, true, false, false, false, false, false, false, false, false, false, false] rfl rfl (by kernel_rfl) (fun _ _ _ h => h) (Or.inl ⟨by rfl, ?_⟩) ?_ ?_
              rotate_left
              · intro w'
                go_simp
                with_reducible rfl
              rotate_left
              · simp only [Act.put, List.setIfInBounds_toArray, List.set_cons_zero, List.set_cons_succ, i64_w, i32_w]
                rfl
              refine pure_ (i := 2) (N := some 48) (v := ?_) (a' := ?_) #[true, true, true, false, false, false, false, false, false, false, false, false] rfl rfl (by kernel_rfl) (fun _ _ _ h => h) (Or.inl ⟨by rfl, ?_⟩) ?_ ?_
              rotate_left
              · intro w'
                go_simp
                with_reducible rfl
              rotate_left
              · simp only [Act.put, List.setIfInBounds_toArray, List.set_cons_zero, List.set_cons_succ, i64_w, i32_w]
                rfl
              refine pure_ (i := 4) (N := some 50) (v := ?_) (a' := ?_) #[true, true, true, false, true, false, false, false, false, false, false, false] rfl rfl (by kernel_rfl) (fun _ _ _ h => h) (Or.inl ⟨by rfl, ?_⟩) ?_ ?_
              rotate_left
              · intro w'
                go_simp
                with_reducible rfl
              rotate_left
              · simp only [Act.put, List.setIfInBounds_toArray, List.set_cons_zero, List.set_cons_succ, i64_w, i32_w]
                rfl
              refine pure_ (i := 5) (N := some 51) (v := ?_) (a' := ?_) #[true, true, true, false, true, true, false, false, false, false, false, false] rfl rfl (by kernel_rfl) (fun _ _ _ h => h) (Or.inl ⟨by rfl, ?_⟩) ?_ ?_
              rotate_left
              · intro w'
                go_simp
                with_reducible rfl
              rotate_left
              · simp only [Act.put, List.setIfInBounds_toArray, List.set_cons_zero, List.set_cons_succ, i64_w, i32_w]
                rfl
              refine pure_ (i := 6) (N := some 52) (v := ?_) (a' := ?_) #[true, true, true, false, true, true, true, false, false, false, false, false] rfl rfl (by kernel_rfl) (fun _ _ _ h => h) (Or.inl ⟨by rfl, ?_⟩) ?_ ?_
              rotate_left
              · intro w'
                go_simp
                with_reducible rfl
              rotate_left
              · simp only [Act.put, List.setIfInBounds_toArray, List.set_cons_zero, List.set_cons_succ, i64_w, i32_w]
                rfl
              refine pure_ (i := 7) (N := some 53) (v := ?_) (a' := ?_) #[true, true, true, false, true, true, true, true, false, false, false, false] rfl rfl (by kernel_rfl) (fun _ _ _ h => h) (Or.inl ⟨by rfl, ?_⟩) ?_ ?_
              rotate_left
              · intro w'
                go_simp
                with_reducible rfl
              rotate_left
              · simp only [Act.put, List.setIfInBounds_toArray, List.set_cons_zero, List.set_cons_succ, i64_w, i32_w]
                rfl
              refine take_ (i := 3) (N := some 49) (v := ?_) (a' := ?_) #[true, true, true, true, true, true, true, true, false, false, false, false] rfl rfl (by kernel_rfl) (fun _ _ _ h => h) (Or.inl ⟨by rfl, ?_⟩) hHeld ?_ ?_
              rotate_left
              · rintro w' ⟨s0, s1⟩
                go_simp
                with_reducible rfl
              rotate_left
              · simp only [Act.put, List.setIfInBounds_toArray, List.set_cons_zero, List.set_cons_succ, i64_w, i32_w]
                rfl
              refine take_ (i := 8) (N := some 54) (v := ?_) (a' := ?_) #[true, true, true, true, true, true, true, true, true, false, false, false] rfl rfl (by kernel_rfl) (fun _ _ _ h => h) (Or.inl ⟨by rfl, ?_⟩) hHeld ?_ ?_
              rotate_left
              · rintro w' ⟨s0, s1⟩
                go_simp
                with_reducible rfl
              rotate_left
              · simp only [Act.put, List.setIfInBounds_toArray, List.set_cons_zero, List.set_cons_succ, i64_w, i32_w]
                rfl
              refine pure_ (i := 9) (N := some 55) (v := ?_) (a' := ?_) #[true, true, true, true, true, true, true, true, true, true, false, false] rfl rfl (by kernel_rfl) (fun _ _ _ h => h) (Or.inl ⟨by rfl, ?_⟩) ?_ ?_
              rotate_left
              · intro w'
                go_simp
                with_reducible rfl
              rotate_left
              · simp only [Act.put, List.setIfInBounds_toArray, List.set_cons_zero, List.set_cons_succ, i64_w, i32_w]
                rfl
              refine pure_ (i := 10) (N := some 56) (v := ?_) (a' := ?_) #[true, true, true, true, true, true, true, true, true, true, true, false] rfl rfl (by kernel_rfl) (fun _ _ _ h => h) (Or.inl ⟨by rfl, ?_⟩) ?_ ?_
              rotate_left
              · intro w'
                go_simp
                with_reducible rfl
              rotate_left
              · simp only [Act.put, List.setIfInBounds_toArray, List.set_cons_zero, List.set_cons_succ, i64_w, i32_w]
                rfl
              refine last_ (i := 11) (N := none) #[true, true, true, true, true, true, true, true, true, true, true, true] rfl rfl (by kernel_rfl) (by decide) (fun K hK => ?_)
              obtain ⟨d0, fd0⟩ := cell_row HS5.out.last hkl rfl
              refine skip_ (w1 := ?_) (by rfl) rfl ?_ ?_
              rotate_left
              · go_simp
                rfl
              refine hK.out _ _ ?_
              clear hK K
              refine done_ (by kernel_rfl) ?_
              clear hwx hwv hHeld
              go_wp2_with fail
              have HS7 := Aside0.mk (HS5.out.put k (-x))
              rw [← HNW.out.1, HPN.out, ← HNW.out.2] at HS7
              rw [← HNW.out.1]
              go_roundg (t.length - (k + 1))
              case measure => have := HKL.out; have := HM2.out; omega
              case rel => exact ⟨k + 1, cnt', V', rfl, by go_num, by have := HKL.out; omega, ⟨rfl⟩, ⟨by rw [HNW.out.2]; exact HC2.out⟩, HS7⟩
            · have hx : rd V' v = 0 := by rw [HS5.out.v.at_ v hv1 hv2, if_neg hm]
              have HS6 := Aside0.mk (HS5.out.newVar hv1 hv2 hm)
              have hvd : vd oi (t.take (k + 1)) = vd oi (t.take k) ++ [(v : Int)] := by rw [HVN.out, HVV.out, Int.neg_neg, if_neg hm]
              have HVD := Aside0.mk hvd
              have HLN : Aside0 ((vd oi (t.take k)).length = cnt') := ⟨HC2.out.symm⟩
              obtain ⟨a0, af⟩ := HS5.out.acell (v := v) (by omega) hx
              have HX2 : Aside0 (rd (V'.set v (((vd oi (t.take k)).length : Int) + 1)) v = (cnt' : Int) + 1) := ⟨by rw [rd_set _ _ _ _ (by rw [HS5.out.v.len]; omega), if_pos rfl, HLN.out]⟩
              have HWV := Aside0.mk hwv
              clear hx hm hvd hwv
              go_upto_region 15 with fail
              clear a0 af
              have hE : (.int .i64 (((vd oi (t.take k)).length : Int) + 1) : Value) = .int .i64 ((cnt' : Int) + 1) := by rw [HLN.out]
              rw [hE] at HS6
              clear hE
              replace HS5 := HS6
              clear HS6
              generalize w5.setCell ⟨w.heap.size, v, none⟩ (.int .i64 ((cnt' : Int) + 1)) = w8 at *
              obtain ⟨x, hx⟩ : ∃ x : Int, x = (cnt' : Int) + 1 := ⟨_, rfl⟩
              have hx4 : 1 ≤ x := by omega
              have hx5 : x ≤ 100 := by omega
              have hwx : IntKind.i64.wrap (-x) = -x := by rw [i64_w]; exact wrap_id (by omega) (by omega)
              rw [← hx] at HX2
              have HXX := Aside0.mk hx
              clear hx
              have HNW : Aside0 (nw (vd oi (t.take (k + 1))) (rd t k) = -x) := ⟨by
                rw [HVD.out, HVV.out, ← HX2.out]
                exact (HS5.out.v.new hv1 hv2 (by simp)).symm⟩
              have a0 := (HS5.out.acell (v := v) (by omega) HX2.out).1
              have hwv := HWV.out
              have k0 := HS5.out.lcell HVL.out
              refine start_ (n := 12) (S := fun w' => w'.cell? ⟨w.heap.size + 1, i, none⟩ = some (.slice (some ⟨gi, 0, none⟩) t.length cv) ∧ w'.cell? ⟨w.heap.size, v, none⟩ = some (.int .i64 x)) (ds := [11]) #[false, false, false, false, false, false, false, false, false, false, false, false] (by kernel_rfl) rfl rfl ⟨k0, a0⟩ (fun hHeld => ?_)
              replace HS5 : Aside0 (OSt w w8.drew ls.length (vd oi (t.take k) ++ [(v : Int)]) (V'.set v (((vd oi (t.take k)).length : Int) + 1)) (vs ++ [.slice (some ⟨gi, 0, none⟩) t.length cv]) lo2 (dn ls i oi ++ [pz t k (vd oi (t.take k))])) := ⟨HS5.out.below (below_drew (Below.refl _ _))⟩
              generalize w8.drew = w6 at *
              clear k0 a0
              refine pure_ (i := 0) (N := some 46) (v := ?_) (a' := ?_) #[true, false, false, false, false, false, false, false, false, false, false, false] rfl rfl (by kernel_rfl) (fun _ _ _ h => h) (Or.inl ⟨by rfl, ?_⟩) ?_ ?_
              rotate_left
              · intro w'
                go_simp
                with_reducible rfl
              rotate_left
              · simp only [Act.put, List.setIfInBounds_toArray, List.set_cons_zero, List.set_cons_succ, i64_w, i32_w]
                rfl
              refine pure_ (i := 1) (N := some 47) (v := ?_) (a' := ?_) #[true, true, false, false, false, false, false, false, false, false, false, false] rfl rfl (by kernel_rfl) (fun _ _ _ h => h) (Or.inl ⟨by rfl, ?_⟩) ?_ ?_
              rotate_left
              · intro w'
                go_simp
                with_reducible rfl
              rotate_left
              · simp only [Act.put, List.setIfInBounds_toArray, List.set_cons_zero, List.set_cons_succ, i64_w, i32_w]
                rfl
              refine pure_ (i := 2) (N := some 48) (v := ?_) (a' := ?_) #[true, true, true, false, false, false, false, false, false, false, false, false] rfl rfl (by kernel_rfl) (fun _ _ _ h => h) (Or.inl ⟨by rfl, ?_⟩) ?_ ?_
              rotate_left
              · intro w'
                go_simp
                with_reducible rfl
              rotate_left
              · simp only [Act.put, List.setIfInBounds_toArray, List.set_cons_zero, List.set_cons_succ, i64_w, i32_w]
                rfl
              refine pure_ (i := 4) (N := some 50) (v := ?_) (a' := ?_) #[true, true, true, false, true, false, false, false, false, false, false, false] rfl rfl (by kernel_rfl) (fun _ _ _ h => h) (Or.inl ⟨by rfl, ?_⟩) ?_ ?_
              rotate_left
              · intro w'
                go_simp
                with_reducible rfl
              rotate_left
              · simp only [Act.put, List.setIfInBounds_toArray, List.set_cons_zero, List.set_cons_succ, i64_w, i32_w]
                rfl
              refine pure_ (i := 5) (N := some 51) (v := ?_) (a' := ?_) #[true, true, true, false, true, true, false, false, false, false, false, false] rfl rfl (by kernel_rfl) (fun _ _ _ h => h) (Or.inl ⟨by rfl, ?_⟩) ?_ ?_
              rotate_left
              · intro w'
                go_simp
                with_reducible rfl
              rotate_left
              · simp only [Act.put, List.setIfInBounds_toArray, List.set_cons_zero, List.set_cons_succ, i64_w, i32_w]
                rfl
              refine pure_ (i := 6) (N := some 52) (v := ?_) (a' := ?_) #[true, true, true, false, true, true, true, false, false, false, false, false] rfl rfl (by kernel_rfl) (fun _ _ _ h => h) (Or.inl ⟨by rfl, ?_⟩) ?_ ?_
              rotate_left
              · intro w'
                go_simp
                with_reducible rfl
              rotate_left
              · simp only [Act.put, List.setIfInBounds_toArray, List.set_cons_zero, List.set_cons_succ, i64_w, i32_w]
                rfl
              refine pure_ (i := 7) (N := some 53) (v := ?_) (a' := ?_) #[true, true, true, false, true, true, true, true, false, false, false, false] rfl rfl (by kernel_rfl) (fun _ _ _ h => h) (Or.inl ⟨by rfl, ?_⟩) ?_ ?_
              rotate_left
              · intro w'
                go_simp
                with_reducible rfl
              rotate_left
              · simp only [Act.put, List.setIfInBounds_toArray, List.set_cons_zero, List.set_cons_succ, i64_w, i32_w]
                rfl
              refine take_ (i := 3) (N := some 49) (v := ?_) (a' := ?_) #[true, true, true, true, true, true, true, true, false, false, false, false] rfl rfl (by kernel_rfl) (fun _ _ _ h => h) (Or.inl ⟨by rfl, ?_⟩) hHeld ?_ ?_
              rotate_left
              · rintro w' ⟨s0, s1⟩
                go_simp
                with_reducible rfl
              rotate_left
              · simp only [Act.put, List.setIfInBounds_toArray, List.set_cons_zero, List.set_cons_succ, i64_w, i32_w]
                rfl
              refine take_ (i := 8) (N := some 54) (v := ?_) (a' := ?_) #[true, true, true, true, true, true, true, true, true, false, false, false] rfl rfl (by kernel_rfl) (fun _ _ _ h => h) (Or.inl ⟨by rfl, ?_⟩) hHeld ?_ ?_
              rotate_left
              · rintro w' ⟨s0, s1⟩
                go_simp
                with_reducible rfl
              rotate_left
              · simp only [Act.put, List.setIfInBounds_toArray, List.set_cons_zero, List.set_cons_succ, i64_w, i32_w]
                rfl
              refine pure_ (i := 9) (N := some 55) (v := ?_) (a' := ?_) #[true, true, true, true, true, true, true, true, true, true, false, false] rfl rfl (by kernel_rfl) (fun _ _ _ h => h) (Or.inl ⟨by rfl, ?_⟩) ?_ ?_
              rotate_left
              · intro w'
                go_simp
                with_reducible rfl
              rotate_left
              · simp only [Act.put, List.setIfInBounds_toArray, List.set_cons_zero, List.set_cons_succ, i64_w, i32_w]
                rfl
              refine pure_ (i := 10) (N := some 56) (v := ?_) (a' := ?_) #[true, true, true, true, true, true, true, true, true, true, true, false] rfl rfl (by kernel_rfl) (fun _ _ _ h => h) (Or.inl ⟨by rfl, ?_⟩) ?_ ?_
              rotate_left
              · intro w'
                go_simp
                with_reducible rfl
              rotate_left
              · simp only [Act.put, List.setIfInBounds_toArray, List.set_cons_zero, List.set_cons_succ, i64_w, i32_w]
                rfl
              refine last_ (i := 11) (N := none) #[true, true, true, true, true, true, true, true, true, true, true, true] rfl rfl (by kernel_rfl) (by decide) (fun K hK => ?_)
              obtain ⟨d0, fd0⟩ := cell_row HS5.out.last hkl rfl
              refine skip_ (w1 := ?_) (by rfl) rfl ?_ ?_
              rotate_left
              · go_simp
                rfl
              refine hK.out _ _ ?_
              clear hK K
              refine done_ (by kernel_rfl) ?_
              clear hwx hwv hHeld
              go_wp2_with fail
              have HS7 := Aside0.mk (HS5.out.put k (-x))
              rw [← HNW.out, HPN.out, ← HVD.out] at HS7
              rw [← HNW.out]
              go_roundg (t.length - (k + 1))
              case measure => have := HKL.out; have := HM2.out; omega
              case rel => exact ⟨k + 1, cnt' + 1, _, by first | rfl | go_num, by go_num, by have := HKL.out; omega, ⟨rfl⟩, ⟨by rw [HVD.out]; simp [HLN.out]⟩, HS7⟩
          · have HPS := Aside0.mk (pz_same (a := oi) hkl hv)
            have HD : Aside0 (decide (rd t k < 0 ∧ -99 ≤ rd t k) = false) := ⟨decide_eq_false hv⟩
            clear hv hcn
            go_wp2_with fail
            refine (isVariable_any _ _).mono ?_
            rintro e w5 ⟨rfl, hd⟩
            rw [HD.out]
            have HS5 := Aside0.mk (HS.out.below hd.below)
            clear hd HS hx
            go_wp2_with fail
            go_roundg (t.length - (k + 1))
            case measure => have := HKL.out; have := HM2.out; omega
            case rel => exact ⟨k + 1, cnt', V', rfl, by go_num, by have := HKL.out; omega, ⟨rfl⟩, ⟨by rw [HPS.out.2]; exact HC2.out⟩, ⟨by rw [HPS.out.1, HPS.out.2]; exact HS5.out⟩⟩
        · obtain rfl : k = t.length := by omega
          go_wp2_with fail
          go_roundg (ls.length - (i + 1))
          case measure => have := HIL.out; have := HM.out; omega
          case rel =>
            have h := HS.out
            rw [List.take_length, pz_all, ← HST.out, HO.out, ← vd_append, ← HF.out, ← HDN.out] at h
            refine ⟨i + 1, cnt', V', _, _, rfl, by go_num, by have := HIL.out; omega, ⟨rfl⟩, ⟨?_⟩, ⟨h⟩⟩
            have h2 := HC2.out
            rw [List.take_length, HO.out, ← vd_append, ← HF.out] at h2
            exact h2
    · obtain rfl : i = ls.length := by omega
      go_wp2_with fail
      go_ret
      have h := HS.out.p
      rw [List.take_length] at h
      unfold dn at h
      rw [List.take_length] at h
      exact ⟨_, lo, vs, rfl, h, HVL.out, HS.out.b⟩
end Go.Proofs.Ytadjoaipmcbieaa

/-! P8 -/
namespace Go.Proofs.Ytadjoaipmcbieaa
open Go.RowKit Go.Proofs.YtadjoaipmcbieaaW.PrintWords Go.Proofs.YtadjoaipmcbieaaW.PrintLast Go.Proofs.YtadjoaipmcbieaaW.PrintMore A
set_option linter.unusedSimpArgs false
set_option linter.unusedVariables false
theorem st_l0 (xs : List (List Int)) (hx : xs.length ≤ 17592186044416) (hl : ∀ t ∈ xs, t.length ≤ 17592186044415) : ∀ (d i : Nat), i + d = xs.length → Ev1 (fun k => ropewalkref02_SameTerms.l0 k xs xs i) true := by
  intro d
  induction d with
  | zero =>
    intro i hi
    refine ⟨1, fun k hk => ?_⟩
    obtain ⟨m, rfl⟩ : ∃ m, k = m + 1 := ⟨k - 1, by omega⟩
    simp only [ropewalkref02_SameTerms.l0]
    rw [if_neg (by omega)]
  | succ d ih =>
    intro i hi
    have hil : i < xs.length := by omega
    have hmem : rd_L4 xs i ∈ xs := by
      unfold rd_L4
      rw [Int.toNat_natCast, List.getD_eq_getElem?_getD, List.getElem?_eq_getElem hil]; exact List.getElem_mem hil
    obtain ⟨F, hF⟩ := ih (i + 1) (by omega)
    dsimp only at hF
    refine ⟨F + (rd_L4 xs i).length + 2, fun k hk => ?_⟩
    obtain ⟨m, rfl⟩ : ∃ m, k = m + 1 := ⟨k - 1, by omega⟩
    simp only [ropewalkref02_SameTerms.l0]
    rw [if_pos (by omega), if_pos (by omega), if_pos (by omega), rsame_self _ (by have := hl _ hmem; omega) (by omega), Option.bind_some, if_pos rfl, wsuc (by omega)]
    exact hF m (by omega)
theorem sameTerms_ok (A0 B0 : Option Addr) (c0 d0 n : Nat) (xs : List (List Int)) (w : World) (ha : Kd.C (Kd.slice 3 (Kd.int .i64)) w A0 n xs) (hc : n ≤ c0) (hb : Kd.C (Kd.slice 3 (Kd.int .i64)) w B0 n xs) (hd : n ≤ d0) (hx : xs.length ≤ 17592186044416) (hl : ∀ t ∈ xs, t.length ≤ 17592186044415) :
    Calls Try.prog 50 #[.slice A0 n c0, .slice B0 n d0] w fun e w' => e = .returned (.bool true) ∧ Drawn0 w w' := by
  obtain rfl : xs.length = n := ha.1
  obtain ⟨k, hk⟩ := (st_l0 xs hx hl xs.length 0 (by omega)).out
  refine ropewalkref02_SameTerms.calls k A0 c0 xs B0 d0 xs true w ha hc hb hd ?_
  unfold ropewalkref02_SameTerms.f
  rw [if_pos rfl]; exact hk
theorem index_l0 (xs : List Int) (x : Int) (hx : xs.length ≤ 17592186044416) : ∀ (d i : Nat), i + d = xs.length → ∃ r : Int, Ev1 (fun k => slices_Index_int_int.l0 k xs x xs.length i) r ∧ (0 ≤ r ↔ x ∈ xs.drop i) := by
  intro d
  induction d with
  | zero =>
    intro i hi
    refine ⟨-1, ⟨1, fun k hk => ?_⟩, ?_⟩
    · obtain ⟨m, rfl⟩ : ∃ m, k = m + 1 := ⟨k - 1, by omega⟩
      simp only [slices_Index_int_int.l0]
      rw [if_neg (by omega)]
    · rw [List.drop_of_length_le (by omega)]; simp
  | succ d ih =>
    intro i hi
    have hil : i < xs.length := by omega
    rw [drop_rd xs i hil]
    by_cases e : x = rd xs i
    · refine ⟨i, ⟨1, fun k hk => ?_⟩, ?_⟩
      · obtain ⟨m, rfl⟩ : ∃ m, k = m + 1 := ⟨k - 1, by omega⟩
        simp only [slices_Index_int_int.l0]
        rw [if_pos (by omega), if_pos (by omega), if_pos (by omega), if_pos e]
      · rw [← e]; simp
    · obtain ⟨r, ⟨F, hF⟩, hr⟩ := ih (i + 1) (by omega)
      dsimp only at hF
      refine ⟨r, ⟨F + 1, fun k hk => ?_⟩, ?_⟩
      · obtain ⟨m, rfl⟩ : ∃ m, k = m + 1 := ⟨k - 1, by omega⟩
        simp only [slices_Index_int_int.l0]
        rw [if_pos (by omega), if_pos (by omega), if_pos (by omega), if_neg e, wsuc (by omega)]
        exact hF m (by omega)
      · rw [hr]; simp [e]
theorem contains_f (xs : List Int) (x : Int) (hx : xs.length ≤ 17592186044416) : Ev1 (fun k => slices_Contains_int_int.f k xs x) (decide (x ∈ xs)) := by
  obtain ⟨r, ⟨F, hF⟩, hr⟩ := index_l0 xs x hx xs.length 0 (by omega)
  dsimp only at hF
  rw [List.drop_zero] at hr
  refine ⟨F, fun k hk => ?_⟩
  unfold slices_Contains_int_int.f slices_Index_int_int.f
  have h := hF k hk
  rw [show ((0 : Nat) : Int) = 0 from rfl] at h
  show (slices_Index_int_int.l0 k xs x (xs.length : Int) 0).bind _ = _
  rw [h, Option.bind_some]
  congr 1
  exact decide_eq_decide.2 hr
theorem tvars_l0 (t : List Int) (ht : t.length ≤ 17592186044416) : ∀ (d i : Nat) (acc : List Int), i + d = t.length → acc.Nodup → VarL acc → Ev1 (fun k => term_Variables.l0 k acc t t.length i) (vd acc (t.drop i)) := by
  intro d
  induction d with
  | zero =>
    intro i acc hi hd hv
    refine Ev1.succ (Ev1.of fun k => ?_)
    simp only [term_Variables.l0]
    rw [if_neg (by omega), List.drop_of_length_le (by omega)]; rfl
  | succ d ih =>
    intro i acc hi hd hv
    have hil : i < t.length := by omega
    have hl := nodup_le 99 acc hd hv
    rw [drop_rd t i hil]
    by_cases h : rd t i < 0 ∧ -99 ≤ rd t i
    · have hw : wrap64 (-(rd t i)) = -(rd t i) := wrap_id (by omega) (by omega)
      obtain ⟨F, hF⟩ := contains_f acc (-(rd t i)) (by omega)
      dsimp only at hF
      by_cases hm : -(rd t i) ∈ acc
      · obtain ⟨G, hG⟩ := ih (i + 1) acc (by omega) hd hv
        dsimp only at hG
        refine ⟨F + G + 1, fun k hk => ?_⟩
        obtain ⟨m, rfl⟩ : ∃ m, k = m + 1 := ⟨k - 1, by omega⟩
        simp only [term_Variables.l0, vd]
        rw [if_pos (by omega), if_pos (by omega), if_pos (by omega), isv2_f, Option.bind_some, decide_eq_true h, if_pos rfl, hw, wsuc (by omega), hF m (by omega), Option.bind_some, decide_eq_true hm, if_pos rfl, if_neg (fun h2 => h2.2 hm)]
        exact hG m (by omega)
      · have hd' : (acc ++ [-(rd t i)]).Nodup := by
          rw [List.nodup_append]; exact ⟨hd, by simp, fun a ha b hb => by rw [List.mem_singleton.1 hb]; exact fun e => hm (e ▸ ha)⟩
        have hv' : VarL (acc ++ [-(rd t i)]) := fun x hx => by
          rcases List.mem_append.1 hx with hx | hx
          · exact hv x hx
          · rw [List.mem_singleton.1 hx]; omega
        obtain ⟨G, hG⟩ := ih (i + 1) _ (by omega) hd' hv'
        dsimp only at hG
        refine ⟨F + G + 1, fun k hk => ?_⟩
        obtain ⟨m, rfl⟩ : ∃ m, k = m + 1 := ⟨k - 1, by omega⟩
        simp only [term_Variables.l0, vd]
        rw [if_pos (by omega), if_pos (by omega), if_pos (by omega), isv2_f, Option.bind_some, decide_eq_true h, if_pos rfl, hw, wsuc (by omega), hF m (by omega), Option.bind_some, decide_eq_false hm, if_neg (by decide), if_pos (by omega), if_pos ⟨h, hm⟩]
        exact hG m (by omega)
    · obtain ⟨G, hG⟩ := ih (i + 1) acc (by omega) hd hv
      dsimp only at hG
      refine ⟨G + 1, fun k hk => ?_⟩
      obtain ⟨m, rfl⟩ : ∃ m, k = m + 1 := ⟨k - 1, by omega⟩
      simp only [term_Variables.l0, vd]
      rw [if_pos (by omega), if_pos (by omega), if_pos (by omega), isv2_f, Option.bind_some, decide_eq_false h, if_neg (by decide), wsuc (by omega), if_neg (fun h2 => h h2.1)]
      exact hG m (by omega)
theorem tVariables_ok (A : Option Addr) (c : Nat) (t : List Int) (w : World) (hr : Kd.C (Kd.int .i64) w A t.length t) (hc : t.length ≤ c) (ht : t.length ≤ 17592186044415) :
    Calls Try.prog 51 #[.slice A t.length c] w fun e w' => ∃ v : Value, e = .returned v ∧ Kd.R (Kd.int .i64) 3 w' w.heap.size (fun _ => True) v (vd [] t) ∧ Below w.heap.size w w' := by
  have h := tvars_l0 t (by omega) t.length 0 [] (by omega) List.nodup_nil (fun x hx => by simp at hx)
  rw [List.drop_zero] at h
  obtain ⟨k, hk⟩ := h.out
  exact term_Variables.calls k A c t _ w hr hc hk
theorem rVariables_ok (A : Option Addr) (c : Nat) (t : List Int) (w : World) (hr : Kd.C (Kd.int .i64) w A t.length t) (hc : t.length ≤ c) (ht : t.length ≤ 17592186044415) :
    Calls Try.prog 52 #[.slice A t.length c] w fun e w' => ∃ v : Value, e = .returned v ∧ Kd.R (Kd.int .i64) 3 w' w.heap.size (fun _ => True) v (vd [] t) ∧ Below w.heap.size w w' := by
  obtain ⟨k, hk⟩ := (vars_f t (by omega)).out
  exact ropewalkref02_Variables.calls k A c t _ w hr hc hk
theorem rPlain_ok (A0 : Option Addr) (c0 : Nat) (ls : List (List Int)) (w : World) (hA : Kd.C (Kd.slice 3 (Kd.int .i64)) w A0 ls.length ls) (hc : ls.length ≤ c0) (hn : 99 * ls.length ≤ 17592186044415) (hl : ∀ t ∈ ls, t.length ≤ 17592186044415) :
    Calls Try.prog 49 #[.slice A0 ls.length c0] w fun e w' => ∃ (A : Option Addr) (c : Nat), e = .returned (.slice A ls.length c) ∧ ls.length ≤ c ∧ Kd.S (Kd.slice 3 (Kd.int .i64)) 25 w' w.heap.size (fun _ => True) (.slice A ls.length c) (ls.map fun t => t.map (nw (vd [] ls.flatten))) ∧ Below w.heap.size w w' := by
  obtain ⟨k, hk⟩ := (plain2_f ls hn hl).out
  refine (ropewalkref02_Plain.calls k A0 c0 ls _ w hA hc hk).mono ?_
  rintro e w' ⟨v, rfl, hS, hb⟩
  obtain ⟨A, c, rfl, hc2, hC⟩ := Kd.S_reads hS
  rw [List.length_map] at hc2 hC hS
  exact ⟨A, c, by rw [List.length_map], hc2, hS, hb⟩
/-- A list of lists of one's own is read. -/
theorem PlSt.C {W : World} {base g n : Nat} {vs : List Value} {lo : Nat → Nat} {xs : List (List Int)} (h : PlSt W base g n vs lo xs) (hv : vs.length = n) (hn : n ≤ 5864062014805) : Kd.C (Kd.slice 3 (Kd.int .i64)) W (some ⟨g, 0, none⟩) n xs := by
  have hxn : xs.length = n := by rw [← h.vl]; exact hv
  refine ⟨hxn, by omega, fun _ => ⟨⟨g, 0, none⟩, rfl, fun j p hj => ?_⟩⟩
  have hjl : j < xs.length := (List.getElem?_eq_some_iff.1 hj).1
  have hjv : j < vs.length := by have := h.vl; omega
  have hp : xs.getD j [] = p := by rw [List.getD_eq_getElem?_getD, hj]; rfl
  have hrow := h.row j hjv
  rw [hp] at hrow
  obtain ⟨A, c, e, hc, hC⟩ := hrow.reads
  refine ⟨[.slice A p.length c], rfl, ⟨A, c, rfl, hc, hC⟩, fun i u hu => ?_⟩
  have hi : i = 0 := by
    have := (List.getElem?_eq_some_iff.1 hu).1
    simpa using this
  subst hi
  obtain rfl : .slice A p.length c = u := by simpa using hu
  have hc0 := (h.cell (i := j) (by omega)).1
  have ea : (⟨g, 0, none⟩ : Addr).add (j * (Kd.slice 3 (Kd.int .i64)).sz + 0) = ⟨g, j, none⟩ := by
    have e2 : (Kd.slice 3 (Kd.int .i64)).sz = 1 := rfl
    rw [e2]; simp [Addr.add]; exact fun e => e.symm
  rw [ea, hc0]
  congr 1
  rw [← e, List.getD_eq_getElem?_getD, List.getElem?_append_left hjv, List.getD_eq_getElem?_getD]
/-- Where marking stands: the rows from i on are as they were, but for their numbers. -/
structure MkSt (w0 W : World) (g n : Nat) (vs : List Value) (lo : Nat → Nat) (L : Nat → Nat) (i : Nat) (f : Nat → List Int) : Prop where
  k : Kept w0 W (fun k => g ≤ k ∧ k < lo n)
  blk : ∃ cells : List Value, W.heap[g]? = some (.cells cells.toArray 25 (0, 0)) ∧ cells.length = n ∧ ∀ j, i ≤ j → j < n → cells[j]? = some (vs.getD j (Value.slice none 0 0))
  row : ∀ j, i ≤ j → j < n → Rw W (lo j) (lo (j + 1)) (vs.getD j (Value.slice none 0 0)) (f j)
  len : ∀ j, j < n → (f j).length = L j
  mono : ∀ j, j < n → lo j ≤ lo (j + 1)
  gl : g < lo 0
  top : lo n ≤ W.heap.size
section
variable {w0 W W' : World} {g n : Nat} {vs : List Value} {lo L : Nat → Nat} {i : Nat} {f : Nat → List Int}
theorem MkSt.start {base : Nat} {xs : List (List Int)} (h : PlSt W base g n vs lo xs) (hv : vs.length = n) : MkSt W W g n vs lo (fun j => (xs.getD j []).length) 0 (fun j => xs.getD j []) := by
  refine ⟨Kept.refl _ _, ⟨vs ++ List.replicate (n - vs.length) (Value.slice none 0 0), h.blk, by simp; omega, fun j _ hj => ?_⟩, fun j _ hj => h.row j (by omega), fun _ _ => rfl, fun j hj => h.mono j (by omega), h.gl, by rw [← hv]; exact h.top⟩
  rw [List.getElem?_append_left (by omega), List.getD_eq_getElem?_getD, List.getElem?_eq_getElem (by omega)]; rfl
theorem MkSt.below (h : MkSt w0 W g n vs lo L i f) (hb : Below W.heap.size W W') : MkSt w0 W' g n vs lo L i f := by
  obtain ⟨cells, h1, h2, h3⟩ := h.blk
  exact ⟨h.k.below hb, ⟨cells, (hb.block _ (blk_lt h1)).trans h1, h2, h3⟩, fun j h4 h5 => (h.row j h4 h5).below hb, h.len, h.mono, h.gl, Nat.le_trans h.top hb.size⟩
theorem MkSt.cell (h : MkSt w0 W g n vs lo L i f) (hi : i < n) {v : Value} (hv : vs.getD i (Value.slice none 0 0) = v) : W.cell? ⟨g, i, none⟩ = some v ∧ W.frozen? ⟨g, i, none⟩ = false := by
  obtain ⟨cells, h1, h2, h3⟩ := h.blk
  refine ⟨?_, frozen_of_row h1 i⟩
  rw [cell_of_row W g i _ _ _ h1, List.getElem?_toArray, h3 i (Nat.le_refl _) hi, hv]
theorem MkSt.low (h : MkSt w0 W g n vs lo L i f) {j : Nat} (hj : j ≤ n) : g < lo j := Nat.lt_of_lt_of_le h.gl (lo_mono h.mono (Nat.zero_le j) hj)
theorem MkSt.put {gi m c : Nat} (h : MkSt w0 W g n vs lo L i f) (hi : i < n) (hv : vs.getD i (Value.slice none 0 0) = .slice (some ⟨gi, 0, none⟩) m c) (k : Nat) (z : Int) :
    MkSt w0 (W.setCell ⟨gi, k, none⟩ (.int .i64 z)) g n vs lo L i (fun j => if j = i then (f i).set k z else f j) := by
  have hr := h.row i (Nat.le_refl _) hi
  rw [hv] at hr
  have hgi := hr.at_
  have hlow := h.low (j := i) (by omega)
  have hup : lo (i + 1) ≤ lo n := lo_mono h.mono (by omega) (Nat.le_refl _)
  obtain ⟨cells, h1, h2, h3⟩ := h.blk
  refine ⟨h.k.setCell (p := ⟨gi, k, none⟩) (.inl ⟨by show g ≤ gi; omega, by show gi < lo n; omega⟩) _, ⟨cells, blk_far h1 (p := ⟨gi, k, none⟩) (by show g ≠ gi; omega) _, h2, h3⟩, fun j h4 h5 => ?_, fun j hj => ?_, h.mono, h.gl, by rw [show (W.setCell ⟨gi, k, none⟩ (.int .i64 z)).heap.size = W.heap.size from by simp]; exact h.top⟩
  · by_cases e : j = i
    · subst e
      rw [if_pos rfl, hv]
      exact (Kd.R_putg hr (k : Int) z).1
    · rw [if_neg e]
      have hl2 : lo (i + 1) ≤ lo j := lo_mono h.mono (by omega) (by omega)
      exact Kd.R_far (h.row j h4 h5) (p := ⟨gi, k, none⟩) (fun k' hk' e' => by
        have e2 : k' = gi := e'
        omega) _
  · by_cases e : j = i
    · subst e; rw [if_pos rfl, List.length_set]; exact h.len j hj
    · rw [if_neg e]; exact h.len j hj
/-- The row's list is grown, and put. -/
theorem MkSt.app {w1 : World} {v1 : Value} (h : MkSt w0 W g n vs lo L i f) (hi : i < n) (hg : W.grownBy w1 (vs.getD i (Value.slice none 0 0)).ownBlock) : MkSt w0 (w1.setCell ⟨g, i, none⟩ v1) g n vs lo L (i + 1) f ∧ w1.cell? ⟨g, i, none⟩ = some (vs.getD i (Value.slice none 0 0)) ∧ w1.frozen? ⟨g, i, none⟩ = false := by
  have hr := h.row i (Nat.le_refl _) hi
  have hlow := h.low (j := i) (by omega)
  have hup : lo (i + 1) ≤ lo n := lo_mono h.mono (by omega) (Nat.le_refl _)
  obtain ⟨cells, h1, h2, h3⟩ := h.blk
  have hne : some g ≠ (vs.getD i (Value.slice none 0 0)).ownBlock := fun e => by have := hr.own g e.symm; omega
  have h1' := blk_grown h1 hg hne
  have hk1 : Kept w0 w1 (fun k => g ≤ k ∧ k < lo n) := Kept.of_grown hg h.k (fun k e => by have := hr.own k e; exact .inl ⟨by omega, by omega⟩)
  refine ⟨⟨hk1.setCell (p := ⟨g, i, none⟩) (.inl ⟨Nat.le_refl _, by show g < lo n; have := h.low (j := n) (Nat.le_refl _); omega⟩) _, ⟨cells.set i v1, ?_, by simp [h2], fun j h4 h5 => ?_⟩, fun j h4 h5 => ?_, h.len, h.mono, h.gl, ?_⟩, ?_, frozen_of_row h1' i⟩
  · have hb := blk_set h1' i v1
    rw [List.setIfInBounds_toArray] at hb
    exact hb
  · rw [List.getElem?_set_ne (by omega)]; exact h3 j (by omega) h5
  · have hl2 : lo (i + 1) ≤ lo j := lo_mono h.mono (by omega) (by omega)
    have hj := h.row j (by omega) h5
    have hlj := h.low (j := j) (by omega)
    exact Kd.R_far (Kd.R_grown hj hg (fun k hk e => by have := hr.own k e.symm; omega)) (p := ⟨g, i, none⟩) (fun k' hk' e' => by
      have e2 : k' = g := e'
      omega) _
  · rw [show (w1.setCell ⟨g, i, none⟩ v1).heap.size = w1.heap.size from by simp]
    exact Nat.le_trans h.top hg.size
  · rw [cell_of_row w1 g i _ _ _ h1', List.getElem?_toArray, h3 i (Nat.le_refl _) hi]
end
end Go.Proofs.Ytadjoaipmcbieaa

/-! P9 -/
namespace Go.Proofs.Ytadjoaipmcbieaa
open Go.RowKit Go.Proofs.YtadjoaipmcbieaaW.PrintWords Go.Proofs.YtadjoaipmcbieaaW.PrintLast Go.Proofs.YtadjoaipmcbieaaW.PrintMore A
set_option linter.unusedSimpArgs false
set_option linter.unusedVariables false
theorem C_two (w : World) : Kd.C (Kd.int .i64) (w.alloc (.cells #[.int .i64 2000, .int .i64 2000] 3)) (some ⟨w.heap.size, 0, none⟩) 2 [2000, 2000] := C_new w 3 [2000, 2000] (by decide)
set_option maxRecDepth 100000 in
set_option maxHeartbeats 8000000 in
theorem plains_walk (A0 : Option Addr) (c0 : Nat) (ls : List (List Int)) (w : World) (hA : Kd.C (Kd.slice 3 (Kd.int .i64)) w A0 ls.length ls) (hc : ls.length ≤ c0) (hn : ls.length ≤ 1048576) (hl : ∀ t ∈ ls, t.length ≤ 1048576) :
    Calls Try.prog 10 #[.slice A0 ls.length c0] w fun e w' => e = .returned (.bool true) ∧ Below w.heap.size w w' := by
  have HA := Aside0.mk hA
  have HL := Aside0.mk hl
  obtain ⟨xs, hxs⟩ : ∃ xs, xs = ls.map fun t => t.map (nw (vd [] ls.flatten)) := ⟨_, rfl⟩
  have HXL : Aside0 (xs.length = ls.length) := ⟨by rw [hxs, List.length_map]⟩
  have HXE : Aside0 (∀ t ∈ xs, t.length ≤ 17592186044415) := ⟨fun t ht => by
    rw [hxs] at ht
    obtain ⟨u, hu, rfl⟩ := List.mem_map.1 ht
    rw [List.length_map]; have := hl u hu; omega⟩
  have HX6 : Aside0 (∀ t ∈ xs, t.length ≤ 1048576) := ⟨fun t ht => by
    rw [hxs] at ht
    obtain ⟨u, hu, rfl⟩ := List.mem_map.1 ht
    rw [List.length_map]; exact hl u hu⟩
  have HPA := Aside0.mk (fun W (hB : Below w.heap.size w W) => Plain_any A0 c0 ls W (Kd.C_below hA hB) hc (by omega) (fun t ht => by have := hl t ht; omega))
  have HRP := Aside0.mk (fun W (hB : Below w.heap.size w W) => rPlain_ok A0 c0 ls W (Kd.C_below hA hB) hc (by omega) (fun t ht => by have := hl t ht; omega))
  rw [← hxs] at HPA HRP
  clear hxs hA hl
  go_enter Try.func10, Try.ntmps10
  go_wp2_with fail
  refine (awake02 w).mono ?_
  rintro e w1 ⟨rfl, hb1⟩
  have B1 := Aside0.mk hb1
  clear hb1
  go_wp2_with fail
  refine (HPA.out w1 B1.out).mono ?_
  rintro e w2 ⟨ga, loa, vsa, rfl, hpa, hva, hb2⟩
  have PA := Aside0.mk hpa
  have HVA := Aside0.mk hva
  have B2 := Aside0.mk (below_then B1.out B1.out.size hb2)
  clear hpa hva hb2
  go_wp2_with fail
  refine (HPA.out w2 B2.out).mono ?_
  rintro e w3 ⟨gb, lob, vsb, rfl, hpb, hvb, hb3⟩
  have PB := Aside0.mk hpb
  have HVB := Aside0.mk hvb
  have HGA : Aside0 (w.heap.size ≤ ga) := ⟨Nat.le_trans B1.out.size PA.out.b⟩
  have TA : Aside0 (loa ls.length ≤ w2.heap.size) := ⟨by have := PA.out.top; rw [HVA.out] at this; exact this⟩
  replace PA := Aside0.mk (PA.out.below hb3)
  have B3 := Aside0.mk (below_then B2.out B2.out.size hb3)
  have Z23 := Aside0.mk hb3.size
  clear hpb hvb hb3
  go_wp2_with fail
  refine (HRP.out w3 B3.out).mono ?_
  rintro e w4 ⟨Aw, cw, rfl, hcw, hsw, hb4⟩
  have SW := Aside0.mk (Kd.S_bound hsw)
  replace PA := Aside0.mk (PA.out.below hb4)
  replace PB := Aside0.mk (PB.out.below hb4)
  have B4 := Aside0.mk (below_then B3.out B3.out.size hb4)
  clear hsw hb4 HPA HRP
  go_wp2_with fail
  refine (sameTerms_ok (some ⟨ga, 0, none⟩) Aw ls.length cw ls.length xs w4 (PA.out.C HVA.out (by omega)) (Nat.le_refl _) (by have h := (Kd.S_reads' SW.out).2.2; rw [HXL.out] at h; exact h) hcw (by rw [HXL.out]; omega) HXE.out).mono ?_
  rintro e w5 ⟨rfl, hd⟩
  replace PA := Aside0.mk (PA.out.below hd.below)
  replace PB := Aside0.mk (PB.out.below hd.below)
  replace SW := Aside0.mk (Kd.S_below SW.out hd.below)
  have B5 := Aside0.mk (below_then B4.out B4.out.size hd.below)
  clear hd
  have M0 := Aside0.mk (MkSt.start PA.out HVA.out)
  obtain ⟨L, hL⟩ : ∃ L : Nat → Nat, L = fun j => (xs.getD j []).length := ⟨_, rfl⟩
  rw [← hL] at M0
  have HLL : Aside0 (∀ j, j < ls.length → L j ≤ 1048576) := ⟨fun j hj => by
    rw [hL]
    show (xs.getD j []).length ≤ 1048576
    rw [List.getD_eq_getElem?_getD, List.getElem?_eq_getElem (by rw [HXL.out]; exact hj)]
    exact HX6.out _ (List.getElem_mem _)⟩
  clear hL
  generalize (fun j => xs.getD j []) = f0 at *
  go_wp2_with fail
  go_loopg [8] ls.length (fun m a wr => ∃ (i : Nat) (f : Nat → List Int), a = .int .i64 i ∧ i ≤ ls.length ∧ Aside0 (m = ls.length - i) ∧ Aside0 (MkSt w5 wr ga ls.length vsa loa L i f) ∧ Aside0 (Below w.heap.size w wr))
  case atStart => exact ⟨0, f0, rfl, Nat.zero_le _, ⟨rfl⟩, M0, B5⟩
  case round =>
    clear M0
    obtain ⟨i, f, rfl, hi, HM, HK, HB⟩ := hrel
    by_cases hlt : i < ls.length
    · obtain ⟨Ai, ci, ei, _, _⟩ := (HK.out.row i (Nat.le_refl _) hlt).reads
      rw [HK.out.len i hlt] at ei
      have hli := HLL.out i hlt
      obtain ⟨li, hl1⟩ : ∃ l, l = L i := ⟨_, rfl⟩
      rw [← hl1] at ei hli
      have HEI := Aside0.mk ei
      have HLI := Aside0.mk hl1
      have HI := Aside0.mk hlt
      have hi2 : (i : Int) < (ls.length : Int) := by omega
      have hi0 : (0 : Int) ≤ (i : Int) := by omega
      clear ei hl1
      go_wp2_with fail
      go_loopg [9] li (fun m a wr => ∃ (k : Nat) (f : Nat → List Int), a = .int .i64 k ∧ k ≤ li ∧ Aside0 (m = li - k) ∧ Aside0 (MkSt w5 wr ga ls.length vsa loa L i f) ∧ Aside0 (Below w.heap.size w wr))
      case atStart => exact ⟨0, f, rfl, Nat.zero_le _, ⟨rfl⟩, HK, HB⟩
      case round =>
        clear HK HB
        obtain ⟨k, f, rfl, hk, HM2, HK, HB⟩ := hrel
        obtain ⟨k0, kf⟩ := HK.out.cell HI.out HEI.out
        by_cases hkl : k < li
        · have hrow := HK.out.row i (Nat.le_refl _) HI.out
          rw [HEI.out] at hrow
          obtain ⟨gi, c', e, hb1, _⟩ := Kd.R_form hrow (by rw [HK.out.len i HI.out, ← HLI.out]; omega)
          rw [HK.out.len i HI.out, ← HLI.out] at e
          cases e
          obtain ⟨d0, df⟩ := cell_row hrow hkl rfl
          have hbg : w.heap.size ≤ gi := by have h1 := HGA.out; have h2 := HK.out.low (j := i) (by omega); omega
          have HK3 := Aside0.mk (HK.out.put HI.out HEI.out k (1000 + (i : Int)))
          have HB3 : Aside0 (Below w.heap.size w (wr.setCell ⟨gi, k, none⟩ (.int .i64 (1000 + (i : Int))))) := ⟨HB.out.setCell (p := ⟨gi, k, none⟩) hbg _⟩
          have HKL := Aside0.mk hkl
          have hk2 : (k : Int) < (li : Int) := by omega
          clear hrow hb1 hbg
          go_wp2_with fail
          go_roundg (li - (k + 1))
          case measure => have := HKL.out; have := HM2.out; omega
          case rel => exact ⟨k + 1, _, by go_num, by have := HKL.out; omega, ⟨rfl⟩, HK3, HB3⟩
        · obtain rfl : k = li := by omega
          have hrow := HK.out.row i (Nat.le_refl _) HI.out
          rw [HEI.out] at hrow
          have hfl : (f i).length = k := by rw [HK.out.len i HI.out, ← HLI.out]
          have HFL := Aside0.mk hfl
          have HRA := Aside0.mk (Kd.R_below hrow.all (below_alloc (Below.refl wr.heap.size wr) (.cells #[.int .i64 2000, .int .i64 2000] 3)))
          have HLO : Aside0 (loa i ≤ wr.heap.size) := ⟨Nat.le_trans (lo_mono HK.out.mono (show i ≤ ls.length by omega) (Nat.le_refl _)) HK.out.top⟩
          have hww : w.heap.size ≤ wr.heap.size := HB.out.size
          clear hrow hfl
          go_wp2_with (at_builtin; refine Kd.R_append_rows (Kd.int .i64) (Rr := fun x cs => cs = [.int .i64 x]) (w0 := wr) (loa i) rfl (.tmp 53) (.tmp 54) 25 3 (.int .i64 0) 8 rfl Try.underlying25 info3 rfl (by decide) (by omega) (.slice Ai k ci) (f i) [2000, 2000] (some ⟨wr.heap.size, 0, none⟩) 2 2 (fun _ => True) (fun _ => False) rfl rfl HRA.out (C_two wr) (fun _ _ h => h) (fun _ hk => hk.elim) (fun _ _ => trivial) (below_alloc' (Below.refl _ _) _ HLO.out) (by have := HLO.out; first | omega | (simp; omega)) (by have := HFL.out; first | omega | (simp only [List.length_cons, List.length_nil]; omega)) ?_; intro v1 w1 ho hb hg hat; obtain ⟨g1, c1', e1, -⟩ := Kd.R_form ho (by simp); subst e1; have HKA := Aside0.mk ((HK.out.below (below_alloc (Below.refl _ _) _)).app (v1 := .slice (some ⟨g1, 0, none⟩) (f i ++ [2000, 2000]).length c1') HI.out (by rw [HEI.out]; exact hg)); have HB1 : Aside0 (Below w.heap.size w w1) := ⟨pw_below_grown (HB.out.alloc hww _) _ (by first | omega | (simp; omega)) hg (fun k' e' => by have h2 := (HK.out.row i (Nat.le_refl _) HI.out).own k' (by rw [HEI.out]; exact e'); have h3 := HK.out.low (j := i) (by omega); have h4 := HGA.out; omega)⟩; have kk := HKA.out.2.1; rw [HEI.out] at kk; have ff := HKA.out.2.2; clear ho hb hg hat k0 kf)
          go_roundg (ls.length - (i + 1))
          case measure => have := HI.out; have := HM.out; omega
          case rel => exact ⟨i + 1, f, by go_num, by have := HI.out; omega, ⟨rfl⟩, ⟨by have h := HKA.out.1; rw [List.length_append] at h; exact h⟩, ⟨HB1.out.setCell (p := ⟨ga, i, none⟩) HGA.out _⟩⟩
    · obtain rfl : i = ls.length := by omega
      have hgb : loa ls.length ≤ gb := Nat.le_trans TA.out PB.out.b
      have hlb : ∀ k, lob 0 ≤ k → ¬ (ga ≤ k ∧ k < loa ls.length) := fun k hk => by have := PB.out.gl; omega
      have PB2 := Aside0.mk (PB.out.kept HK.out.k (by omega) (fun k h1 _ => hlb k h1))
      have SW2 := Aside0.mk (Kd.S_kept SW.out HK.out.k (fun k hk => by have h1 := hk.2.1; have h2 := Z23.out; have h3 := TA.out; omega))
      clear PB SW PA hgb hlb HK HM
      go_wp2_with fail
      refine (sameTerms_ok (some ⟨gb, 0, none⟩) Aw ls.length cw ls.length xs wr (PB2.out.C HVB.out (by omega)) (Nat.le_refl _) (by have h := (Kd.S_reads' SW2.out).2.2; rw [HXL.out] at h; exact h) hcw (by rw [HXL.out]; omega) HXE.out).mono ?_
      rintro e w6 ⟨rfl, hd⟩
      have B6 := Aside0.mk (below_then HB.out HB.out.size hd.below)
      clear hd HB PB2 SW2
      go_wp2_with fail
      go_loopg [11] ls.length (fun m a wr => ∃ (i : Nat), a = .int .i64 i ∧ i ≤ ls.length ∧ Aside0 (m = ls.length - i) ∧ Aside0 (Below w.heap.size w wr))
      case atStart => exact ⟨0, rfl, Nat.zero_le _, ⟨rfl⟩, B6⟩
      case round =>
        clear B6
        obtain ⟨i, rfl, hi, HM, HB⟩ := hrel
        by_cases hlt : i < ls.length
        · obtain ⟨ad, A1, c1, eA, hx0, hc1, hCC⟩ := at_L4 HA.out (i : Int) (by omega) (by omega)
          cases eA
          rw [Int.toNat_natCast] at hx0
          have hmem : rd_L4 ls i ∈ ls := by
            unfold rd_L4
            rw [Int.toNat_natCast, List.getD_eq_getElem?_getD, List.getElem?_eq_getElem hlt]; exact List.getElem_mem hlt
          have htl : (rd_L4 ls i).length ≤ 17592186044415 := by have := HL.out _ hmem; omega
          generalize rd_L4 ls i = t at *
          have HX0 := Aside0.mk hx0
          have HCW := Aside0.mk hCC
          have HI := Aside0.mk hlt
          have hi2 : (i : Int) < (ls.length : Int) := by omega
          have hi0 : (0 : Int) ≤ (i : Int) := by omega
          clear hx0 hCC hmem
          have hx := pw_cell_below HB.out HX0.out
          go_wp2_with fail
          clear hx
          refine (tVariables_ok A1 c1 t wr (Kd.C_below HCW.out HB.out) hc1 htl).mono ?_
          rintro e wa ⟨va, rfl, hra, hba⟩
          have RA := Aside0.mk (Rw.mk hra)
          have BA := Aside0.mk (below_then HB.out HB.out.size hba)
          have HV99 := Aside0.mk (vd_short t)
          clear hra hba
          have hx := pw_cell_below BA.out HX0.out
          go_wp2_with fail
          clear hx
          refine (tVariables_ok A1 c1 t wa (Kd.C_below HCW.out BA.out) hc1 htl).mono ?_
          rintro e wb ⟨vb, rfl, hrb, hbb⟩
          have RB := Aside0.mk (Rw.mk hrb)
          replace RA := Aside0.mk (RA.out.below hbb)
          have BB := Aside0.mk (below_then BA.out BA.out.size hbb)
          have Z1 := Aside0.mk hbb.size
          clear hrb hbb
          have hx := pw_cell_below BB.out HX0.out
          go_wp2_with fail
          clear hx
          refine (rVariables_ok A1 c1 t wb (Kd.C_below HCW.out BB.out) hc1 htl).mono ?_
          rintro e wc ⟨vc, rfl, hrc, hbc⟩
          have RC := Aside0.mk (Rw.mk hrc)
          replace RA := Aside0.mk (RA.out.below hbc)
          replace RB := Aside0.mk (RB.out.below hbc)
          have BC := Aside0.mk (below_then BB.out BB.out.size hbc)
          have ZA := Aside0.mk HB.out.size
          have ZB := Aside0.mk BA.out.size
          have ZC := Aside0.mk BB.out.size
          clear hrc hbc
          go_wp2_with fail
          refine (apart_rw w wc BC.out (vd [] t) (by have := HV99.out; omega) ZA.out RA.out RB.out RC.out (.inl (Nat.le_refl _)) (.inl Z1.out)).mono ?_
          rintro e wd ⟨rfl, hbd, hkd⟩
          have BD := Aside0.mk hbd
          clear hbd hkd
          go_wp2_with fail
          go_roundg (ls.length - (i + 1))
          case measure => have := HI.out; have := HM.out; omega
          case rel => exact ⟨i + 1, by go_num, by have := HI.out; omega, ⟨rfl⟩, BD⟩
        · obtain rfl : i = ls.length := by omega
          go_wp2_with fail
          go_ret
          exact ⟨rfl, HB.out⟩
end Go.Proofs.Ytadjoaipmcbieaa
