/- PLAIN: two terms laid into one net; where graph.add stands. -/
import Derived.Test.YtadjoaipmcbieaaUU
import Derived.Test.YtadjoaipmcbieaaXA
import Derived.Test.YtadjoaipmcbieaaQ5
import Derived.Test.YtadjoaipmcbieaaUV

/- PLAIN: two terms laid into one net, part by part. -/
namespace Go.Proofs.Ytadjoaipmcbieaa
open Go.RowKit Go.Proofs.YtadjoaipmcbieaaW.PrintWords A

/-- Variables, made unlike others by d. -/
def tgD (d : Int) (t : List Int) : List Int := t.map fun n => if n < 0 then n - d else n
theorem tgD_zero (t : List Int) : tgD 0 t = t := by
  unfold tgD
  conv => rhs; rw [← List.map_id t]
  apply List.map_congr_left
  intro n _; simp
theorem tg_tgD (ap : Bool) (t : List Int) : tg ap t = tgD (if ap = true then 1000 else 0) t := by
  cases ap
  · simp [tg, tgD_zero]
  · simp [tg, tgD]
theorem tgD_sym {d n : Int} (h : 0 ≤ n) (t : List Int) : tgD d (n :: t) = n :: tgD d t := by simp only [tgD, List.map_cons]; rw [if_neg (by omega)]
theorem tgD_var {d n : Int} (h : n < 0) : tgD d [n] = [n - d] := by simp only [tgD, List.map_cons, List.map_nil]; rw [if_pos h]
theorem tgD_append (d : Int) (t u : List Int) : tgD d (t ++ u) = tgD d t ++ tgD d u := by simp [tgD]
theorem tgD_flatten (d : Int) : ∀ (ts : List (List Int)), tgD d ts.flatten = (ts.map (tgD d)).flatten
  | [] => rfl
  | t :: ts => by rw [List.flatten_cons, tgD_append, tgD_flatten d ts]; rfl
theorem an_neg {l : List S89} {n : Int} (h : n < 0) : an l n = 0 := by unfold an; rw [ar_neg h]; rfl
theorem tgD_isT {l : List S89} {d : Int} (hd : 0 ≤ d) {k : Nat} {t : List Int} (h : IsT (an l) k t) : IsT (an l) k (tgD d t) := by
  induction h with
  | nil => exact .nil
  | @cons k n r _ ih =>
    by_cases hn : n < 0
    · rw [show tgD d (n :: r) = (n - d) :: tgD d r by simp only [tgD, List.map_cons]; rw [if_pos hn]]
      refine .cons ?_
      rw [an_neg (by omega)]
      rw [an_neg hn] at ih; exact ih
    · rw [tgD_sym (by omega)]; exact .cons ih

/-- The subterm at a place: its symbol, its arguments. -/
theorem starts_sub {l : List S89} (hl : GoodL l) {t : List Int} : ∀ {ss : List (List Int)} {q : Nat} {r : List Int}, (∀ s ∈ ss, Ter l s) → t.drop q = ss.flatten ++ r → (starts q ss).map (subL l t) = ss
  | [], _, _, _, _ => rfl
  | s :: ss, q, r, hs, e => by
    rw [List.flatten_cons, List.append_assoc] at e
    simp only [starts, List.map_cons]
    rw [subL_of hl e (hs s (by simp)), starts_sub hl (fun x hx => hs x (by simp [hx])) (r := r) (by rw [← List.drop_drop, e]; simp)]
theorem subL_sym {l : List S89} (hl : GoodL l) {t : List Int} (hT : Ter l t) {p : Nat} (hp : p < t.length) : subL l t p = rd t p :: ((argsL l t p).map (subL l t)).flatten ∧ Ter l (subL l t p) ∧ (argsL l t p).length = an l (rd t p) := by
  obtain ⟨ss, r, e, hn, hs, hT2⟩ := hT.args_at hp
  have e2 : t.drop p = (rd t p :: ss.flatten) ++ r := by rw [drop_rd t p hp, e]; rfl
  have h1 := subL_of hl e2 hT2
  rw [argsL_at hl e hn hs, starts_sub hl hs e, h1]
  refine ⟨rfl, hT2, ?_⟩
  rw [← hn]
  clear e hn hs hT2 e2 h1
  generalize p + 1 = q
  induction ss generalizing q with
  | nil => rfl
  | cons s ss ih => simp [starts, ih]
theorem subL_var {l : List S89} (hl : GoodL l) {t : List Int} (hT : Ter l t) {p : Nat} (hp : p < t.length) (hv : rd t p < 0) : subL l t p = [rd t p] := by
  obtain ⟨h1, _, h3⟩ := subL_sym hl hT hp
  rw [an_neg hv] at h3
  rw [h1, List.eq_nil_of_length_eq_zero h3]; rfl
theorem subL_whole {l : List S89} (hl : GoodL l) {t : List Int} (hT : Ter l t) : subL l t 0 = t := subL_of hl (r := []) (by simp) hT

/-- What the parts stand for. -/
def tmF (tms : List (List Int)) (x : Nat) : List Int := tms.getD x []
theorem tmF_old {tms : List (List Int)} {t : List Int} {x : Nat} (h : x < tms.length) : tmF (tms ++ [t]) x = tmF tms x := by
  simp only [tmF, List.getD_eq_getElem?_getD, List.getElem?_append_left h]
theorem tmF_new {tms : List (List Int)} {t : List Int} : tmF (tms ++ [t]) tms.length = t := by
  simp [tmF, List.getD_eq_getElem?_getD]
theorem ptA_old {parts : List Pt} {p : Pt} {x : Nat} (h : x < parts.length) : ptA (parts ++ [p]) x = ptA parts x := by
  simp only [ptA, List.getD_eq_getElem?_getD, List.getElem?_append_left h]
theorem ptA_new {parts : List Pt} {p : Pt} : ptA (parts ++ [p]) parts.length = p := by
  simp [ptA, List.getD_eq_getElem?_getD]
theorem rd_old {xs : List Int} {a : Int} {k : Nat} (h : k < xs.length) : rd (xs ++ [a]) k = rd xs k := by
  simp only [rd, Int.toNat_natCast, List.getD_eq_getElem?_getD, List.getElem?_append_left h]
theorem rd_new {xs : List Int} {a : Int} : rd (xs ++ [a]) xs.length = a := by
  simp [rd, List.getD_eq_getElem?_getD]

/-- The net as it has been laid so far: all terms before, and the places of t from i on. -/
structure AddOk (l : List S89) (t : List Int) (d : Int) (i : Nat) (parts : List Pt) (tos pl V : List Int) (tms : List (List Int)) : Prop where
  tl : tms.length = parts.length
  tol : tos.length = parts.length
  tof : ∀ k, k < parts.length → rd tos k = (k : Int)
  net : NetOk (an l) (netP parts (tmF tms))
  inj : ∀ x y, x < parts.length → y < parts.length → (ptA parts x).1 < 0 → (ptA parts y).1 < 0 → tmF tms x = tmF tms y → x = y
  nm : ∀ x w, x < parts.length → tmF tms x = [w] → w < 0 → -99 ≤ w ∨ (d = 1000 ∧ w ≤ -1001)
  vr : ∀ v : Nat, 1 ≤ v → v ≤ 99 → (rd V v = -1 ∧ ∀ x, x < parts.length → tmF tms x ≠ [-(v : Int) - d]) ∨ ∃ x : Nat, rd V v = x ∧ x < parts.length ∧ (ptA parts x).1 < 0 ∧ tmF tms x = [-(v : Int) - d]
  vl : V.length = 100
  pll : pl.length = t.length
  plc : ∀ p, i ≤ p → p < t.length → ∃ x : Nat, rd pl p = x ∧ x < parts.length ∧ tmF tms x = tgD d (subL l t p)
  arg : ∀ x, x < parts.length → (ptA parts x).2.length ≤ 6 ∧ ∀ a ∈ (ptA parts x).2, 0 ≤ a ∧ a < parts.length
  var : ∀ x, x < parts.length → (ptA parts x).1 < 0 → (ptA parts x).2 = []
section
variable {l : List S89} {t : List Int} {d : Int} {i : Nat} {parts : List Pt} {tos pl V : List Int} {tms : List (List Int)}
/-- A variable that has stood before. -/
theorem AddOk.old (h : AddOk l t d (i + 1) parts tos pl V tms) (hl : GoodL l) (hT : Ter l t) (hi : i < t.length) {v : Nat} (hv : rd t i = -(v : Int)) (h1 : 1 ≤ v) (h2 : v ≤ 99) (h3 : 0 ≤ rd V v) : AddOk l t d i parts tos (pl.set i (rd V v)) V tms := by
  refine ⟨h.tl, h.tol, h.tof, h.net, h.inj, h.nm, h.vr, h.vl, by rw [List.length_set]; exact h.pll, fun p hp hpt => ?_, h.arg, h.var⟩
  rw [rd_set _ _ _ _ (by rw [h.pll]; exact hi)]
  by_cases e : i = p
  · subst e
    rw [if_pos rfl]
    rcases h.vr v h1 h2 with ⟨e1, _⟩ | ⟨x, e1, e2, e3, e4⟩
    · omega
    · exact ⟨x, e1, e2, by rw [e4, subL_var hl hT hi (by omega), hv, tgD_var (by omega)]⟩
  · rw [if_neg e]; exact h.plc p (by omega) hpt
/-- A part more. -/
theorem AddOk.push (h : AddOk l t d (i + 1) parts tos pl V tms) (hd : 0 ≤ d) (hl : GoodL l) (hT : Ter l t) (hi : i < t.length) {p : Pt} {tm : List Int} (V' : List Int)
    (hp6 : p.2.length ≤ 6 ∧ ∀ a ∈ p.2, 0 ≤ a ∧ a < parts.length)
    (hs : (0 ≤ p.1 ∧ p.2.length = an l p.1 ∧ tm = p.1 :: ((p.2.map Int.toNat).map (tmF tms)).flatten ∧ V' = V) ∨
      (∃ v : Nat, 1 ≤ v ∧ v ≤ 99 ∧ p.1 < 0 ∧ p.2 = [] ∧ tm = [-(v : Int) - d] ∧ rd V v = -1 ∧ V' = V.set v parts.length ∧ (d = 0 ∨ d = 1000)))
    (htm : tm = tgD d (subL l t i)) : AddOk l t d i (parts ++ [p]) (tos ++ [(parts.length : Int)]) (pl.set i parts.length) V' (tms ++ [tm]) := by
  have hTm : IsT (an l) 1 tm := by rw [htm]; exact tgD_isT hd (subL_sym hl hT hi).2.1
  have hlen : (parts ++ [p]).length = parts.length + 1 := by simp
  have hx : ∀ {x : Nat}, x < (parts ++ [p]).length → x < parts.length ∨ x = parts.length := fun hx => by rw [hlen] at hx; omega
  have tO : ∀ {x : Nat}, x < parts.length → tmF (tms ++ [tm]) x = tmF tms x := fun hx => tmF_old (by rw [h.tl]; exact hx)
  have tn : tmF (tms ++ [tm]) parts.length = tm := by rw [← h.tl]; exact tmF_new
  have hfresh : ∀ w, w < 0 → tm = [w] → ∀ x, x < parts.length → tmF tms x ≠ [w] := by
    intro w hw e x hxn
    rcases hs with ⟨s1, _, s3, _⟩ | ⟨v, v1, v2, _, _, s3, s4, _, _⟩
    · rw [s3] at e; injection e with e _; omega
    · rcases h.vr v v1 v2 with ⟨_, q⟩ | ⟨y, q, _⟩
      · rw [← e, s3]; exact q x hxn
      · omega
  refine ⟨by simp [h.tl], by simp [h.tol], fun k hk => ?_, ?_, ?_, ?_, ?_, ?_, by rw [List.length_set]; exact h.pll, ?_, ?_, ?_⟩
  · rcases hx hk with hk | rfl
    · rw [rd_old (by rw [h.tol]; exact hk)]; exact h.tof k hk
    · have := rd_new (xs := tos) (a := (parts.length : Int)); rw [h.tol] at this; exact this
  · refine ⟨h.net.bv, fun x hxn hsx => ?_, fun x hxn => ?_, fun x hxn hsx => ?_, fun x hxn hsx => ?_⟩
    · rcases hx hxn with hxo | rfl
      · simp only [netP] at hsx ⊢
        rw [ptA_old hxo] at hsx ⊢
        obtain ⟨q1, q2⟩ := h.net.arg x hxo hsx
        exact ⟨q1, fun a ha => by have := q2 a ha; simp only [netP] at this; rw [hlen]; omega⟩
      · simp only [netP] at hsx ⊢
        rw [ptA_new] at hsx ⊢
        rcases hs with ⟨_, s2, _, _⟩ | ⟨v, _, _, s1, _⟩
        · refine ⟨by rw [List.length_map]; exact s2, fun a ha => ?_⟩
          obtain ⟨z, hz, rfl⟩ := List.mem_map.1 ha
          have := hp6.2 z hz; rw [hlen]; omega
        · omega
    · rcases hx hxn with hxo | rfl
      · show IsT (an l) 1 (tmF (tms ++ [tm]) x); rw [tO hxo]; exact h.net.tmT x hxo
      · show IsT (an l) 1 (tmF (tms ++ [tm]) parts.length); rw [tn]; exact hTm
    · rcases hx hxn with hxo | rfl
      · simp only [netP] at hsx ⊢
        rw [ptA_old hxo] at hsx ⊢
        rw [tO hxo]
        have q := h.net.tms x hxo hsx
        simp only [netP] at q
        rw [q]
        congr 2
        apply List.map_congr_left
        intro a ha
        have := (h.net.arg x hxo hsx).2 a ha
        exact (tO this).symm
      · simp only [netP] at hsx ⊢
        rw [ptA_new] at hsx ⊢
        rw [tn]
        rcases hs with ⟨_, _, s3, _⟩ | ⟨v, _, _, s1, _⟩
        · conv => lhs; rw [s3]
          congr 2
          apply List.map_congr_left
          intro a ha
          obtain ⟨z, hz, rfl⟩ := List.mem_map.1 ha
          have := hp6.2 z hz
          exact (tO (x := z.toNat) (by omega)).symm
        · omega
    · rcases hx hxn with hxo | rfl
      · simp only [netP] at hsx ⊢
        rw [ptA_old hxo] at hsx
        rw [tO hxo]; exact h.net.tmv x hxo hsx
      · simp only [netP] at hsx ⊢
        rw [ptA_new] at hsx
        rw [tn]
        rcases hs with ⟨s1, _⟩ | ⟨v, v1, _, _, _, s3, _⟩
        · omega
        · exact ⟨_, by omega, s3⟩
  · intro x y hxn hyn sx sy e
    have key : ∀ {z : Nat}, z < parts.length → (ptA (parts ++ [p]) parts.length).1 < 0 → tmF tms z ≠ tm := by
      intro z hz sp
      rw [ptA_new] at sp
      rcases hs with ⟨s1, _⟩ | ⟨v, v1, _, _, _, s3, _⟩
      · omega
      · rw [s3]; exact hfresh _ (by omega) s3 z hz
    rcases hx hxn with hxo | rfl
    · rcases hx hyn with hyo | rfl
      · rw [ptA_old hxo] at sx
        rw [ptA_old hyo] at sy
        rw [tO hxo, tO hyo] at e
        exact h.inj x y hxo hyo sx sy e
      · rw [tO hxo, tn] at e
        exact absurd e (key hxo sy)
    · rcases hx hyn with hyo | rfl
      · rw [tO hyo, tn] at e
        exact absurd e.symm (key hyo sx)
      · rfl
  · intro x w hxn e hw
    rcases hx hxn with hxo | rfl
    · rw [tO hxo] at e; exact h.nm x w hxo e hw
    · rw [tn] at e
      rcases hs with ⟨s1, _, s3, _⟩ | ⟨v, v1, v2, _, _, s3, _, _, s4⟩
      · rw [s3] at e; injection e with e _; omega
      · rw [s3] at e; injection e with e _
        rcases s4 with rfl | rfl
        · exact .inl (by omega)
        · exact .inr ⟨rfl, by omega⟩
  · intro v v1 v2
    have keep : rd V v = rd V' v → ¬ (tm = [-(v : Int) - d]) → (rd V' v = -1 ∧ ∀ x, x < (parts ++ [p]).length → tmF (tms ++ [tm]) x ≠ [-(v : Int) - d]) ∨ ∃ x : Nat, rd V' v = x ∧ x < (parts ++ [p]).length ∧ (ptA (parts ++ [p]) x).1 < 0 ∧ tmF (tms ++ [tm]) x = [-(v : Int) - d] := by
      intro e0 e1
      rw [← e0]
      rcases h.vr v v1 v2 with ⟨q1, q2⟩ | ⟨x, q1, q2, q3, q4⟩
      · refine .inl ⟨q1, fun x hxn => ?_⟩
        rcases hx hxn with hxo | rfl
        · rw [tO hxo]; exact q2 x hxo
        · rw [tn]; exact e1
      · exact .inr ⟨x, q1, by rw [hlen]; omega, by rw [ptA_old q2]; exact q3, by rw [tO q2]; exact q4⟩
    rcases hs with ⟨s1, _, s3, rfl⟩ | ⟨u, u1, u2, s1, _, s3, s4, rfl, _⟩
    · exact keep rfl (fun e => by rw [s3] at e; injection e with e _; omega)
    · by_cases e : u = v
      · subst e
        refine .inr ⟨parts.length, by rw [rd_set _ _ _ _ (by rw [h.vl]; omega), if_pos rfl], by rw [hlen]; omega, by rw [ptA_new]; exact s1, by rw [tn]; exact s3⟩
      · exact keep (by rw [rd_set _ _ _ _ (by rw [h.vl]; omega), if_neg e]) (fun e2 => by rw [s3] at e2; injection e2 with e2 _; omega)
  · rcases hs with ⟨_, _, _, rfl⟩ | ⟨u, _, _, _, _, _, _, rfl, _⟩
    · exact h.vl
    · rw [List.length_set]; exact h.vl
  · intro q hq hqt
    rw [rd_set _ _ _ _ (by rw [h.pll]; exact hi)]
    by_cases e : i = q
    · subst e
      rw [if_pos rfl]
      exact ⟨parts.length, rfl, by rw [hlen]; omega, by rw [tn]; exact htm⟩
    · rw [if_neg e]
      obtain ⟨x, q1, q2, q3⟩ := h.plc q (by omega) hqt
      exact ⟨x, q1, by rw [hlen]; omega, by rw [tO q2]; exact q3⟩
  · intro x hxn
    rw [hlen]
    rcases hx hxn with hxo | rfl
    · rw [ptA_old hxo]
      exact ⟨(h.arg x hxo).1, fun a ha => by have := (h.arg x hxo).2 a ha; omega⟩
    · rw [ptA_new]
      exact ⟨hp6.1, fun a ha => by have := hp6.2 a ha; omega⟩
  · intro x hxn sx
    rcases hx hxn with hxo | rfl
    · rw [ptA_old hxo] at sx ⊢; exact h.var x hxo sx
    · rw [ptA_new] at sx ⊢
      rcases hs with ⟨s1, _⟩ | ⟨v, _, _, _, s2, _⟩
      · omega
      · exact s2
/-- .. a variable's. -/
theorem AddOk.newVar (h : AddOk l t d (i + 1) parts tos pl V tms) (hd : d = 0 ∨ d = 1000) (hl : GoodL l) (hT : Ter l t) (hi : i < t.length) {v : Nat} (hv : rd t i = -(v : Int)) (h1 : 1 ≤ v) (h2 : v ≤ 99) (h3 : rd V v = -1) :
    AddOk l t d i (parts ++ [(rd t i, [])]) (tos ++ [(parts.length : Int)]) (pl.set i parts.length) (V.set v parts.length) (tms ++ [[-(v : Int) - d]]) :=
  h.push (by omega) hl hT hi _ ⟨by simp, by simp⟩ (.inr ⟨v, h1, h2, by simp only; omega, rfl, rfl, h3, rfl, hd⟩) (by rw [subL_var hl hT hi (by omega), hv, tgD_var (by omega)])
/-- .. a symbol's. -/
theorem AddOk.newSym (h : AddOk l t d (i + 1) parts tos pl V tms) (hd : 0 ≤ d) (hl : GoodL l) (hT : Ter l t) (hi : i < t.length) (hs : 0 ≤ rd t i) :
    AddOk l t d i (parts ++ [(rd t i, (argsL l t i).map fun x : Nat => rd pl (x : Int))]) (tos ++ [(parts.length : Int)]) (pl.set i parts.length) V (tms ++ [tgD d (subL l t i)]) := by
  obtain ⟨e1, _, e3⟩ := subL_sym hl hT hi
  have hple : ∀ x ∈ argsL l t i, ∃ z : Nat, rd pl x = z ∧ z < parts.length ∧ tmF tms z = tgD d (subL l t x) := fun x hx => by
    have := argsL_le hl hT hi x hx
    exact h.plc x (by omega) this.2
  refine h.push hd hl hT hi _ ⟨?_, fun a ha => ?_⟩ (.inl ⟨hs, by simp only [List.length_map]; exact e3, ?_, rfl⟩) rfl
  · have := ar_bd hl (rd t i)
    have := an_ar hl (rd t i)
    simp only [List.length_map]; omega
  · obtain ⟨x, hx, rfl⟩ := List.mem_map.1 ha
    obtain ⟨z, hz, hz2, _⟩ := hple x hx
    rw [hz]; omega
  · rw [e1, tgD_sym hs, tgD_flatten, List.map_map, List.map_map, List.map_map]
    congr 2
    apply List.map_congr_left
    intro x hx
    obtain ⟨z, hz, _, hz3⟩ := hple x hx
    simp only [Function.comp_apply]
    rw [hz, Int.toNat_natCast, hz3]
end
end Go.Proofs.Ytadjoaipmcbieaa

/- graph.add: a term laid into the graph: where it stands. -/
namespace Go.Proofs.Ytadjoaipmcbieaa
open Go.RowKit Go.Proofs.YtadjoaipmcbieaaW.PrintWords Go.Proofs.YtadjoaipmcbieaaW.PrintLast Go.Proofs.YtadjoaipmcbieaaW.PrintMore A

theorem info155 : (Try.prog.info? 155).map (fun i => (i.zero, i.size, i.bytes)) = some (some (.agg #[.int .i64 0, .slice none 0 0]), 2, 32) := by kernel_rfl
/-- Where add stands: the graph at g, its own list of the places' parts (block gp), the variables' parts (block vb), another block of such (v2). -/
structure AdSt (W : World) (base g vb gp v2 : Nat) (vp vt : Value) (N c : Nat) (parts : List Pt) (tos pl V : List Int) (cs2 : Array Value) : Prop where
  blk : W.heap[g]? = some (.cells #[vp, vt] 143 (0, 0))
  hb : base ≤ g
  p : Kd.R kpt 155 W base (fun k => k ≠ gp ∧ some k ≠ vt.ownBlock) vp parts
  t : Kd.R (Kd.int .i64) 3 W base (fun k => k ≠ gp) vt tos
  plr : Kd.R (Kd.int .i64) 3 W base (fun k => k = gp) (.slice (some ⟨gp, 0, none⟩) N c) pl
  vbk : W.heap[vb]? = some (.cells (nums .i64 V).toArray 140 (0, 0))
  hvb : base ≤ vb
  o : W.heap[v2]? = some (.cells cs2 140 (0, 0))
  ne : v2 ≠ vb
section
variable {W W' w1 : World} {base g vb gp v2 : Nat} {vp vt vp1 vt1 : Value} {N c : Nat} {parts parts' : List Pt} {tos tos' pl V : List Int} {cs2 : Array Value}
theorem AdSt.below (h : AdSt W base g vb gp v2 vp vt N c parts tos pl V cs2) (hb : Below W.heap.size W W') : AdSt W' base g vb gp v2 vp vt N c parts tos pl V cs2 :=
  ⟨(hb.block _ (blk_lt h.blk)).trans h.blk, h.hb, Kd.R_below h.p hb, Kd.R_below h.t hb, Kd.R_below h.plr hb, (hb.block _ (blk_lt h.vbk)).trans h.vbk, h.hvb, (hb.block _ (blk_lt h.o)).trans h.o, h.ne⟩
theorem AdSt.of_old (h : AdSt W base g vb gp v2 vp vt N c parts tos pl V cs2) (hk : ∀ i, i < W.heap.size → W'.heap[i]? = W.heap[i]?) : AdSt W' base g vb gp v2 vp vt N c parts tos pl V cs2 :=
  ⟨(hk _ (blk_lt h.blk)).trans h.blk, h.hb, Kd.R_step h.p (fun k _ hl => hk k hl), Kd.R_step h.t (fun k _ hl => hk k hl), Kd.R_step h.plr (fun k _ hl => hk k hl), (hk _ (blk_lt h.vbk)).trans h.vbk, h.hvb, (hk _ (blk_lt h.o)).trans h.o, h.ne⟩
theorem AdSt.plBlk (h : AdSt W base g vb gp v2 vp vt N c parts tos pl V cs2) : ∃ cells, W.heap[gp]? = some (.cells cells 3 (0, 0)) := Kd.R_typed h.plr gp rfl
theorem AdSt.cells (h : AdSt W base g vb gp v2 vp vt N c parts tos pl V cs2) : W.cell? ⟨g, 0, none⟩ = some vp ∧ W.cell? ⟨g, 1, none⟩ = some vt := by
  have c0 := cell_of_row W g 0 _ _ _ h.blk
  have c1 := cell_of_row W g 1 _ _ _ h.blk
  exact ⟨c0, c1⟩
theorem AdSt.free (h : AdSt W base g vb gp v2 vp vt N c parts tos pl V cs2) (i : Nat) : W.frozen? ⟨g, i, none⟩ = false := frozen_of_row h.blk i
theorem AdSt.plCell (h : AdSt W base g vb gp v2 vp vt N c parts tos pl V cs2) {i : Nat} (hi : i < N) {x : Int} (hx : rd pl i = x) : W.cell? ⟨gp, i, none⟩ = some (.int .i64 x) ∧ W.frozen? ⟨gp, i, none⟩ = false := by
  obtain ⟨hx1, hf1⟩ := Kd.R_celln 0 h.plr (i : Int) (by omega) (by omega)
  rw [Int.toNat_natCast] at hx1 hf1
  rw [show rdOf (0 : Int) pl (i : Int) = x from hx] at hx1
  exact ⟨hx1, hf1⟩
theorem AdSt.vCell (h : AdSt W base g vb gp v2 vp vt N c parts tos pl V cs2) {v : Nat} (hv : v < V.length) {x : Int} (hx : rd V v = x) : W.cell? ⟨vb, v, none⟩ = some (.int .i64 x) ∧ W.frozen? ⟨vb, v, none⟩ = false := by
  refine ⟨?_, frozen_of_row h.vbk v⟩
  rw [cell_of_row W vb v _ _ _ h.vbk, ← hx]
  simp [nums, hv, rd, List.getD_eq_getElem?_getD]
theorem AdSt.putPl (h : AdSt W base g vb gp v2 vp vt N c parts tos pl V cs2) (i : Nat) (x : Int) : AdSt (W.setCell ⟨gp, i, none⟩ (.int .i64 x)) base g vb gp v2 vp vt N c parts tos (pl.set i x) V cs2 := by
  obtain ⟨cells, hc⟩ := h.plBlk
  have n1 := blk_ne h.blk hc (by decide)
  have n2 := blk_ne h.vbk hc (by decide)
  have n3 := blk_ne h.o hc (by decide)
  exact ⟨blk_far h.blk (p := ⟨gp, i, none⟩) n1 _, h.hb, Kd.R_far h.p (p := ⟨gp, i, none⟩) (fun k hk => hk.1) _, Kd.R_far h.t (p := ⟨gp, i, none⟩) (fun k hk => hk) _, (Kd.R_putg h.plr (i : Int) x).1,
    blk_far h.vbk (p := ⟨gp, i, none⟩) n2 _, h.hvb, blk_far h.o (p := ⟨gp, i, none⟩) n3 _, h.ne⟩
theorem nums_set (V : List Int) (v : Nat) (x : Int) : ((nums .i64 V).toArray.setIfInBounds v (.int .i64 x)) = (nums .i64 (V.set v x)).toArray := by simp [nums, List.map_set]
theorem AdSt.putV (h : AdSt W base g vb gp v2 vp vt N c parts tos pl V cs2) (v : Nat) (x : Int) : AdSt (W.setCell ⟨vb, v, none⟩ (.int .i64 x)) base g vb gp v2 vp vt N c parts tos pl (V.set v x) cs2 := by
  refine ⟨blk_far h.blk (p := ⟨vb, v, none⟩) (blk_ne h.blk h.vbk (by decide)) _, h.hb, Kd.R_set h.p h.vbk (by decide) v _, Kd.R_set h.t h.vbk (by decide) v _, Kd.R_set h.plr h.vbk (by decide) v _, ?_, h.hvb, blk_far h.o (p := ⟨vb, v, none⟩) h.ne _, h.ne⟩
  rw [← nums_set]
  exact blk_set h.vbk v _
theorem blk_set2 {w : World} {g : Nat} {a b : Value} {t : TypeId} (h : w.heap[g]? = some (.cells #[a, b] t (0, 0))) (u : Value) : (w.setCell ⟨g, 1, none⟩ u).heap[g]? = some (.cells #[a, u] t (0, 0)) := by
  simp [World.setCell, Array.getElem?_modify, h]
/-- g.parts = append(g.parts, ..). -/
theorem AdSt.appP (h : AdSt W base g vb gp v2 vp vt N c parts tos pl V cs2) (hp : Kd.R kpt 155 w1 base (fun k => k ≠ gp ∧ some k ≠ vt.ownBlock) vp1 parts') (hg : W.grownBy w1 vp.ownBlock) : AdSt (w1.setCell ⟨g, 0, none⟩ vp1) base g vb gp v2 vp1 vt N c parts' tos pl V cs2 := by
  have hblk := blk_grown h.blk hg (Kd.R_ne h.p h.blk (by decide))
  exact ⟨blk_set0 hblk _, h.hb, Kd.R_set hp hblk (by decide) 0 _, Kd.R_set (Kd.R_over h.t h.p (by decide) hg) hblk (by decide) 0 _, Kd.R_set (Kd.R_over h.plr h.p (by decide) hg) hblk (by decide) 0 _,
    blk_far (blk_grown h.vbk hg (Kd.R_ne h.p h.vbk (by decide))) (p := ⟨g, 0, none⟩) (blk_ne h.vbk h.blk (by decide)) _, h.hvb, blk_far (blk_grown h.o hg (Kd.R_ne h.p h.o (by decide))) (p := ⟨g, 0, none⟩) (blk_ne h.o h.blk (by decide)) _, h.ne⟩
/-- g.to = append(g.to, ..). -/
theorem AdSt.appT (h : AdSt W base g vb gp v2 vp vt N c parts tos pl V cs2) (ht : Kd.R (Kd.int .i64) 3 w1 base (fun k => k ≠ gp) vt1 tos') (hg : W.grownBy w1 vt.ownBlock) (hat : vt1.ownBlock = vt.ownBlock ∨ ∃ b, vt1.ownBlock = some b ∧ W.heap.size ≤ b) : AdSt (w1.setCell ⟨g, 1, none⟩ vt1) base g vb gp v2 vp vt1 N c parts tos' pl V cs2 := by
  have hblk := blk_grown h.blk hg (Kd.R_ne h.t h.blk (by decide))
  have hpl : Kd.R (Kd.int .i64) 3 w1 base (fun k => k = gp) (.slice (some ⟨gp, 0, none⟩) N c) pl := Kd.R_grown h.plr hg (fun k hk e => h.t.1 k e.symm hk)
  exact ⟨blk_set2 hblk _, h.hb, Kd.R_set (Kd.R_after h.p hg hat) hblk (by decide) 1 _, Kd.R_set ht hblk (by decide) 1 _, Kd.R_set hpl hblk (by decide) 1 _,
    blk_far (blk_grown h.vbk hg (Kd.R_ne h.t h.vbk (by decide))) (p := ⟨g, 1, none⟩) (blk_ne h.vbk h.blk (by decide)) _, h.hvb, blk_far (blk_grown h.o hg (Kd.R_ne h.t h.o (by decide))) (p := ⟨g, 1, none⟩) (blk_ne h.o h.blk (by decide)) _, h.ne⟩
/-- The element that is put into the graph: its arguments lie in newer blocks. -/
theorem kpt_M {B : Nat} {n : Int} {va : Value} {ar : List Int} {ok : Nat → Prop} (h : Kd.R (Kd.int .i64) 3 W B ok va ar) (hB : base ≤ B) : kpt.M W base (fun k => B ≤ k) (n, ar) [.int .i64 n, va] :=
  ⟨[_], [_], rfl, rfl, va, rfl, Kd.R_lower (Kd.R_mono (Kd.R_bound h) (fun _ hk => hk.2.1)) hB⟩
theorem AdSt.lts (h : AdSt W base g vb gp v2 vp vt N c parts tos pl V cs2) {B : Nat} (hB : W.heap.size ≤ B) : ∀ k, B ≤ k → ((k ≠ gp ∧ some k ≠ vt.ownBlock) ∧ some k ≠ vp.ownBlock) := by
  obtain ⟨cells, hc⟩ := h.plBlk
  have l1 := blk_lt hc
  exact fun k hk => ⟨⟨by omega, fun e => by have := Kd.R_lt h.t k e.symm; omega⟩, fun e => by have := Kd.R_lt h.p k e.symm; omega⟩
end
end Go.Proofs.Ytadjoaipmcbieaa
