/- PLAIN: what must become the same in a net of two terms; the most general common instance; one answer alone. -/
import Derived.Test.YtadjoaipmcbieaaSS

/- PLAIN: what must become the same in a net of two terms: classes, what they may stand for, closure. -/
namespace Go.Proofs.Ytadjoaipmcbieaa

/-- Terms in the places of variables. -/
def sb (s : Int → List Int) (t : List Int) : List Int := t.flatMap fun n => if n < 0 then s n else [n]
section
variable {s : Int → List Int}
theorem sb_nil : sb s [] = [] := rfl
theorem sb_cons (n : Int) (t : List Int) : sb s (n :: t) = (if n < 0 then s n else [n]) ++ sb s t := by simp [sb, List.flatMap_cons]
theorem sb_sym {n : Int} (h : 0 ≤ n) (t : List Int) : sb s (n :: t) = n :: sb s t := by rw [sb_cons, if_neg (by omega)]; rfl
theorem sb_var {n : Int} (h : n < 0) : sb s [n] = s n := by rw [sb_cons, if_pos h, sb_nil, List.append_nil]
theorem sb_append (t u : List Int) : sb s (t ++ u) = sb s t ++ sb s u := by simp [sb, List.flatMap_append]
theorem sb_flatten : ∀ (ts : List (List Int)), sb s ts.flatten = (ts.map (sb s)).flatten
  | [] => rfl
  | t :: ts => by rw [List.flatten_cons, sb_append, sb_flatten ts, List.map_cons, List.flatten_cons]
end
/-- Each variable stands for a term. -/
def Gd (b : Int → Nat) (s : Int → List Int) : Prop := ∀ n, n < 0 → IsT b 1 (s n)
theorem sb_isT {b : Int → Nat} {s : Int → List Int} (hb : ∀ n, n < 0 → b n = 0) (hs : Gd b s) {k : Nat} {t : List Int} (h : IsT b k t) : IsT b k (sb s t) := by
  induction h with
  | nil => exact .nil
  | @cons k n r _ ih =>
    by_cases hn : n < 0
    · rw [sb_cons, if_pos hn, Nat.add_comm]
      rw [hb n hn, Nat.zero_add] at ih
      exact (hs n hn).append ih
    · rw [sb_sym (by omega)]
      exact .cons ih
theorem flat_eq {b : Int → Nat} : ∀ {xs ys : List (List Int)}, xs.length = ys.length → (∀ x ∈ xs, IsT b 1 x) → (∀ y ∈ ys, IsT b 1 y) → xs.flatten = ys.flatten → xs = ys
  | [], [], _, _, _, _ => rfl
  | [], _ :: _, h, _, _, _ => by simp at h
  | _ :: _, [], h, _, _, _ => by simp at h
  | x :: xs, y :: ys, h, h1, h2, e => by
    rw [List.flatten_cons, List.flatten_cons] at e
    obtain rfl := (h1 x (by simp)).prefix_eq (h2 y (by simp)) e
    rw [flat_eq (by simpa using h) (fun z hz => h1 z (by simp [hz])) (fun z hz => h2 z (by simp [hz])) (List.append_cancel_left e)]

/-- A net: of each node its symbol (below 0: a variable), its arguments, the term that it stands for. -/
structure Net where
  n : Nat
  sym : Nat → Int
  args : Nat → List Nat
  tm : Nat → List Int
structure NetOk (b : Int → Nat) (G : Net) : Prop where
  bv : ∀ n, n < 0 → b n = 0
  arg : ∀ x, x < G.n → 0 ≤ G.sym x → (G.args x).length = b (G.sym x) ∧ ∀ a ∈ G.args x, a < G.n
  tmT : ∀ x, x < G.n → IsT b 1 (G.tm x)
  tms : ∀ x, x < G.n → 0 ≤ G.sym x → G.tm x = G.sym x :: ((G.args x).map G.tm).flatten
  tmv : ∀ x, x < G.n → G.sym x < 0 → ∃ v, v < 0 ∧ G.tm x = [v]

/-- Where the joining stands: R tells each node's class, rep a place of the class that is no variable (below 0: none); st: pairs that must become one yet. -/
structure Uni (b : Int → Nat) (G : Net) (ra rb : Nat) (R : Nat → Nat) (rep : Nat → Int) (st : List (Nat × Nat)) : Prop where
  ok : NetOk b G
  lt : ∀ x, x < G.n → R x < G.n
  idem : ∀ x, x < G.n → R (R x) = R x
  rep1 : ∀ x, x < G.n → 0 ≤ G.sym x → 0 ≤ rep (R x)
  rep2 : ∀ c, c < G.n → R c = c → 0 ≤ rep c → (rep c).toNat < G.n ∧ 0 ≤ G.sym (rep c).toNat ∧ R (rep c).toNat = c
  pr : ∀ p ∈ st, p.1 < G.n ∧ p.2 < G.n
  inj : ∀ x y, x < G.n → y < G.n → G.sym x < 0 → G.sym y < 0 → G.tm x = G.tm y → R x = R y
  cmp : ∀ s, Gd b s → sb s (G.tm ra) = sb s (G.tm rb) → (∀ x, x < G.n → sb s (G.tm (R x)) = sb s (G.tm x)) ∧ ∀ p ∈ st, sb s (G.tm p.1) = sb s (G.tm p.2)
  snd : ∀ h : Nat → Nat, (∀ x, x < G.n → h (R x) = h x) → (∀ p ∈ st, h p.1 = h p.2) → h ra = h rb ∧
    ∀ x y, x < G.n → y < G.n → 0 ≤ G.sym x → 0 ≤ G.sym y → R x = R y → G.sym x = G.sym y ∧ (G.args x).map h = (G.args y).map h

section
variable {b : Int → Nat} {G : Net} {ra rb : Nat} {R : Nat → Nat} {rep : Nat → Int} {st st' : List (Nat × Nat)}
/-- A pair of one class is dropped. -/
theorem Uni.drop (h : Uni b G ra rb R rep st) (h1 : ∀ p ∈ st, p ∈ st' ∨ R p.1 = R p.2) (h2 : ∀ p ∈ st', p ∈ st) : Uni b G ra rb R rep st' := by
  refine ⟨h.ok, h.lt, h.idem, h.rep1, h.rep2, fun p hp => h.pr p (h2 p hp), h.inj, fun s hs he => ⟨(h.cmp s hs he).1, fun p hp => (h.cmp s hs he).2 p (h2 p hp)⟩, fun g hg hp => h.snd g hg fun p hm => ?_⟩
  rcases h1 p hm with h3 | h3
  · exact hp p h3
  · obtain ⟨l1, l2⟩ := h.pr p hm
    rw [← hg _ l1, ← hg _ l2, h3]
/-- What stands for two nodes that are told as one, and are no variables: the same symbol, the same arguments. -/
theorem NetOk.args_eq (h : NetOk b G) {s : Int → List Int} (hs : Gd b s) {f g : Nat} (hf : f < G.n) (hg : g < G.n) (sf : 0 ≤ G.sym f) (sg : 0 ≤ G.sym g) (e : sb s (G.tm f) = sb s (G.tm g)) :
    G.sym f = G.sym g ∧ (G.args f).map (fun x => sb s (G.tm x)) = (G.args g).map (fun x => sb s (G.tm x)) := by
  rw [h.tms f hf sf, h.tms g hg sg, sb_sym sf, sb_sym sg, sb_flatten, sb_flatten] at e
  obtain ⟨e1, e2⟩ := List.cons.inj e
  refine ⟨e1, ?_⟩
  have e3 := flat_eq (b := b) (by rw [List.length_map, List.length_map, List.length_map, List.length_map, (h.arg f hf sf).1, (h.arg g hg sg).1, e1]) ?_ ?_ e2
  · simpa [List.map_map, Function.comp_def] using e3
  · intro x hx
    simp only [List.mem_map] at hx
    obtain ⟨t, ⟨a, ha, rfl⟩, rfl⟩ := hx
    exact sb_isT h.bv hs (h.tmT a ((h.arg f hf sf).2 a ha))
  · intro x hx
    simp only [List.mem_map] at hx
    obtain ⟨t, ⟨a, ha, rfl⟩, rfl⟩ := hx
    exact sb_isT h.bv hs (h.tmT a ((h.arg g hg sg).2 a ha))
/-- Two symbols in one class: nothing stands for both. -/
theorem Uni.clash (h : Uni b G ra rb R rep st) {x y : Nat} (hxy : (x, y) ∈ st) (h1 : 0 ≤ rep (R x)) (h2 : 0 ≤ rep (R y)) (hne : G.sym (rep (R x)).toNat ≠ G.sym (rep (R y)).toNat) :
    ∀ s, Gd b s → sb s (G.tm ra) ≠ sb s (G.tm rb) := by
  intro s hs he
  obtain ⟨c1, c2⟩ := h.cmp s hs he
  obtain ⟨lx, ly⟩ := h.pr _ hxy
  obtain ⟨f1, f2, f3⟩ := h.rep2 _ (h.lt x lx) (h.idem x lx) h1
  obtain ⟨g1, g2, g3⟩ := h.rep2 _ (h.lt y ly) (h.idem y ly) h2
  refine hne (h.ok.args_eq hs f1 g1 f2 g2 ?_).1
  rw [← c1 _ f1, ← c1 _ g1, f3, g3, c1 _ lx, c1 _ ly]
  exact c2 _ hxy
theorem map_ext {α : Type} {h : Nat → α} {xs ys : List Nat} (hl : xs.length = ys.length) (e : ∀ i, i < xs.length → h (xs.getD i 0) = h (ys.getD i 0)) : xs.map h = ys.map h := by
  apply List.ext_getElem
  · simpa using hl
  · intro i h1 h2
    simp at h1 h2
    have := e i h1
    simpa [List.getD_eq_getElem?_getD, h1, h2] using this
theorem map_at {α : Type} {h : Nat → α} {xs ys : List Nat} (e : xs.map h = ys.map h) (i : Nat) (hi : i < xs.length) : h (xs.getD i 0) = h (ys.getD i 0) := by
  have hl := congrArg List.length e
  simp at hl
  have := congrArg (fun l => l[i]?) e
  simpa [List.getD_eq_getElem?_getD, hi, show i < ys.length by omega] using this
theorem getD_mem' {xs : List Nat} {i : Nat} (h : i < xs.length) : xs.getD i 0 ∈ xs := by
  rw [List.getD_eq_getElem?_getD, List.getElem?_eq_getElem h]; exact List.getElem_mem h
/-- Two classes become one: c1's nodes come to c2. -/
theorem Uni.merge (h : Uni b G ra rb R rep st) {x y c1 c2 : Nat} (hxy : (x, y) ∈ st) (hc : (c1 = R x ∧ c2 = R y) ∨ (c1 = R y ∧ c2 = R x)) (hne : c1 ≠ c2) {R' : Nat → Nat} {rep' : Nat → Int}
    (hR : ∀ z, z < G.n → R' z = if R z = c1 then c2 else R z) (hr0 : ∀ c, c ≠ c1 → c ≠ c2 → rep' c = rep c) (hr : (rep' c2 = rep c2 ∧ 0 ≤ rep c2) ∨ (rep c2 < 0 ∧ rep' c2 = rep c1))
    (hz : 0 ≤ rep c1 → 0 ≤ rep c2 → G.sym (rep c1).toNat = G.sym (rep c2).toNat ∧ ∀ i, i < (G.args (rep c1).toNat).length →
      ((G.args (rep c1).toNat).getD i 0, (G.args (rep c2).toNat).getD i 0) ∈ st' ∨ ((G.args (rep c2).toNat).getD i 0, (G.args (rep c1).toNat).getD i 0) ∈ st')
    (hs1 : ∀ p ∈ st, p ∈ st' ∨ p = (x, y)) (hs2 : ∀ p ∈ st', p ∈ st ∨ (0 ≤ rep c1 ∧ 0 ≤ rep c2 ∧ ∃ i, i < (G.args (rep c1).toNat).length ∧
      (p = ((G.args (rep c1).toNat).getD i 0, (G.args (rep c2).toNat).getD i 0) ∨ p = ((G.args (rep c2).toNat).getD i 0, (G.args (rep c1).toNat).getD i 0)))) :
    Uni b G ra rb R' rep' st' := by
  obtain ⟨lx, ly⟩ := h.pr _ hxy
  have hc1 : c1 < G.n ∧ R c1 = c1 := by
    rcases hc with ⟨rfl, -⟩ | ⟨rfl, -⟩
    · exact ⟨h.lt x lx, h.idem x lx⟩
    · exact ⟨h.lt y ly, h.idem y ly⟩
  have hc2 : c2 < G.n ∧ R c2 = c2 := by
    rcases hc with ⟨-, rfl⟩ | ⟨-, rfl⟩
    · exact ⟨h.lt y ly, h.idem y ly⟩
    · exact ⟨h.lt x lx, h.idem x lx⟩
  have R2 : R' c2 = c2 := by rw [hR _ hc2.1, hc2.2]; split <;> rfl
  have Rxy : R' x = R' y := by
    rw [hR _ lx, hR _ ly]
    rcases hc with ⟨rfl, rfl⟩ | ⟨rfl, rfl⟩
    · rw [if_pos rfl, if_neg (fun e => hne e.symm)]
    · rw [if_neg (fun e => hne e.symm), if_pos rfl]
  have RR : ∀ z, z < G.n → R' (R z) = R' z := fun z hz => by rw [hR _ (h.lt z hz), hR _ hz, h.idem z hz]
  have fpos : 0 ≤ rep c1 → (rep c1).toNat < G.n ∧ 0 ≤ G.sym (rep c1).toNat ∧ R (rep c1).toNat = c1 := h.rep2 _ hc1.1 hc1.2
  have gpos : 0 ≤ rep c2 → (rep c2).toNat < G.n ∧ 0 ≤ G.sym (rep c2).toNat ∧ R (rep c2).toNat = c2 := h.rep2 _ hc2.1 hc2.2
  refine ⟨h.ok, ?_, ?_, ?_, ?_, ?_, ?_, ?_, ?_⟩
  · intro z hz
    rw [hR z hz]; split
    · exact hc2.1
    · exact h.lt z hz
  · intro z hz
    rw [hR z hz]; split
    · exact R2
    · rw [RR z hz, hR z hz, if_neg ‹_›]
  · intro z hz sz
    have h1 := h.rep1 z hz sz
    rw [hR z hz]
    by_cases e1 : R z = c1
    · rw [if_pos e1]
      rw [e1] at h1
      rcases hr with ⟨e, e2⟩ | ⟨_, e⟩
      · rw [e]; exact e2
      · rw [e]; exact h1
    · rw [if_neg e1]
      by_cases e2 : R z = c2
      · rw [e2] at h1 ⊢
        rcases hr with ⟨e, e3⟩ | ⟨e3, e⟩
        · rw [e]; exact e3
        · omega
      · rw [hr0 _ e1 e2]; exact h1
  · intro c hcn hcR hp
    rw [hR c hcn] at hcR
    by_cases e1 : R c = c1
    · rw [if_pos e1] at hcR
      subst hcR
      rw [hc2.2] at e1; exact absurd e1.symm hne
    · rw [if_neg e1] at hcR
      by_cases e2 : c = c2
      · subst e2
        rcases hr with ⟨e, e3⟩ | ⟨e3, e⟩
        · rw [e] at hp ⊢
          obtain ⟨g1, g2, g3⟩ := gpos hp
          exact ⟨g1, g2, by rw [hR _ g1, g3, if_neg (fun e => hne e.symm)]⟩
        · rw [e] at hp ⊢
          obtain ⟨g1, g2, g3⟩ := fpos hp
          exact ⟨g1, g2, by rw [hR _ g1, g3, if_pos rfl]⟩
      · have e3 : c ≠ c1 := fun e => e1 (by rw [hcR]; exact e)
        rw [hr0 c e3 e2] at hp ⊢
        obtain ⟨g1, g2, g3⟩ := h.rep2 c hcn hcR hp
        exact ⟨g1, g2, by rw [hR _ g1, g3, if_neg e3]⟩
  · intro p hp
    rcases hs2 p hp with h1 | ⟨h1, h2, i, hi, h3⟩
    · exact h.pr p h1
    · obtain ⟨f1, f2, f3⟩ := fpos h1
      obtain ⟨g1, g2, g3⟩ := gpos h2
      have e := (hz h1 h2).1
      have hi2 : i < (G.args (rep c2).toNat).length := by rw [(h.ok.arg _ g1 g2).1, ← e, ← (h.ok.arg _ f1 f2).1]; exact hi
      have m1 := (h.ok.arg _ f1 f2).2 _ (getD_mem' hi)
      have m2 := (h.ok.arg _ g1 g2).2 _ (getD_mem' hi2)
      rcases h3 with rfl | rfl
      · exact ⟨m1, m2⟩
      · exact ⟨m2, m1⟩
  · intro u v hu hv su sv e
    rw [← RR u hu, ← RR v hv, h.inj u v hu hv su sv e]
  · intro s hs he
    obtain ⟨k1, k2⟩ := h.cmp s hs he
    have hm := k2 _ hxy
    have hcc : sb s (G.tm c1) = sb s (G.tm c2) := by
      rcases hc with ⟨rfl, rfl⟩ | ⟨rfl, rfl⟩
      · rw [k1 _ lx, k1 _ ly]; exact hm
      · rw [k1 _ lx, k1 _ ly]; exact hm.symm
    refine ⟨fun z hz => ?_, fun p hp => ?_⟩
    · rw [hR z hz]; split
      · rename_i e
        rw [← k1 z hz, e, hcc]
      · exact k1 z hz
    · rcases hs2 p hp with h1 | ⟨h1, h2, i, hi, h3⟩
      · exact k2 p h1
      · obtain ⟨f1, f2, f3⟩ := fpos h1
        obtain ⟨g1, g2, g3⟩ := gpos h2
        have ee := (h.ok.args_eq hs f1 g1 f2 g2 (by rw [← k1 _ f1, ← k1 _ g1, f3, g3, hcc])).2
        have e4 := map_at (h := fun x => sb s (G.tm x)) ee i hi
        rcases h3 with rfl | rfl
        · exact e4
        · exact e4.symm
  · intro g hg hp
    have hgR : ∀ z, z < G.n → g (R z) = g z := fun z hz => by rw [← hg _ (h.lt z hz), RR z hz, hg _ hz]
    have gxy : g x = g y := by rw [← hg _ lx, ← hg _ ly, Rxy]
    obtain ⟨k1, k2⟩ := h.snd g hgR (fun p hm => by
      rcases hs1 p hm with h1 | rfl
      · exact hp p h1
      · exact gxy)
    refine ⟨k1, ?_⟩
    have key : ∀ u v, u < G.n → v < G.n → 0 ≤ G.sym u → 0 ≤ G.sym v → R u = c1 → R v = c2 → G.sym u = G.sym v ∧ (G.args u).map g = (G.args v).map g := by
      intro u v hu hv su sv eu ev
      have p1 := h.rep1 u hu su
      have p2 := h.rep1 v hv sv
      rw [eu] at p1
      rw [ev] at p2
      obtain ⟨f1, f2, f3⟩ := fpos p1
      obtain ⟨g1, g2, g3⟩ := gpos p2
      obtain ⟨a1, a2⟩ := k2 u _ hu f1 su f2 (by rw [eu, f3])
      obtain ⟨b1, b2⟩ := k2 v _ hv g1 sv g2 (by rw [ev, g3])
      obtain ⟨d1, d2⟩ := hz p1 p2
      refine ⟨by rw [a1, b1, d1], ?_⟩
      rw [a2, b2]
      refine map_ext (by rw [(h.ok.arg _ f1 f2).1, (h.ok.arg _ g1 g2).1, d1]) (fun i hi => ?_)
      rcases d2 i hi with h5 | h5
      · exact hp _ h5
      · exact (hp _ h5).symm
    intro u v hu hv su sv e
    rw [hR u hu, hR v hv] at e
    by_cases eu : R u = c1
    · by_cases ev : R v = c1
      · exact k2 u v hu hv su sv (by rw [eu, ev])
      · rw [if_pos eu, if_neg ev] at e
        exact key u v hu hv su sv eu e.symm
    · by_cases ev : R v = c1
      · rw [if_neg eu, if_pos ev] at e
        obtain ⟨q1, q2⟩ := key v u hv hu sv su ev e
        exact ⟨q1.symm, q2.symm⟩
      · rw [if_neg eu, if_neg ev] at e
        exact k2 u v hu hv su sv e
end

/-- How many classes there are. -/
def nr (R : Nat → Nat) : Nat → Nat
  | 0 => 0
  | k + 1 => nr R k + if R k = k then 1 else 0
theorem nr_le {R R' : Nat → Nat} : ∀ {k : Nat}, (∀ z, z < k → R' z = z → R z = z) → nr R' k ≤ nr R k
  | 0, _ => Nat.le_refl _
  | k + 1, h => by
    have h1 := nr_le (k := k) (fun z hz => h z (by omega))
    have h2 := h k (by omega)
    simp only [nr]
    by_cases e : R' k = k
    · rw [if_pos e, if_pos (h2 e)]; omega
    · rw [if_neg e]; omega
theorem nr_lt {R R' : Nat → Nat} {c : Nat} : ∀ {k : Nat}, (∀ z, z < k → R' z = z → R z = z) → c < k → R c = c → R' c ≠ c → nr R' k < nr R k
  | 0, _, h, _, _ => by omega
  | k + 1, h, hc, h1, h2 => by
    simp only [nr]
    by_cases e : c = k
    · subst e
      have h3 := nr_le (k := c) (fun z hz => h z (by omega))
      rw [if_pos h1, if_neg h2]; omega
    · have h3 := nr_lt (k := k) (fun z hz => h z (by omega)) (by omega) h1 h2
      have h4 := h k (by omega)
      by_cases e : R' k = k
      · rw [if_pos e, if_pos (h4 e)]; omega
      · rw [if_neg e]; omega
theorem nr_merge {R R' : Nat → Nat} {n c1 c2 : Nat} (h1 : c1 < n) (h2 : R c1 = c1) (h3 : R c2 = c2) (hne : c1 ≠ c2) (hR : ∀ z, z < n → R' z = if R z = c1 then c2 else R z) : nr R' n < nr R n := by
  refine nr_lt (c := c1) (fun z hz e => ?_) h1 h2 ?_
  · rw [hR z hz] at e
    split at e
    · subst e; rename_i e2; rw [h3] at e2; exact absurd e2.symm hne
    · exact e
  · rw [hR _ h1, if_pos h2]; exact fun e => hne e.symm
theorem nr_bd (R : Nat → Nat) : ∀ k, nr R k ≤ k
  | 0 => Nat.le_refl _
  | k + 1 => by have := nr_bd R k; simp only [nr]; split <;> omega

section
/-- What the nodes of a list unfold to. -/
inductive Unf (G : Net) (R : Nat → Nat) (rep : Nat → Int) : List Nat → List Int → Prop
  | nil : Unf G R rep [] []
  | var {x : Nat} {xs : List Nat} {T : List Int} (h : rep (R x) < 0) (r : Unf G R rep xs T) : Unf G R rep (x :: xs) ((-(R x : Int) - 1) :: T)
  | app {x : Nat} {xs : List Nat} {T : List Int} (h : 0 ≤ rep (R x)) (r : Unf G R rep (G.args (rep (R x)).toNat ++ xs) T) : Unf G R rep (x :: xs) (G.sym (rep (R x)).toNat :: T)
variable {b : Int → Nat} {G : Net} {ra rb : Nat} {R : Nat → Nat} {rep : Nat → Int}
theorem Unf.det {xs : List Nat} {T T' : List Int} (h : Unf G R rep xs T) (h' : Unf G R rep xs T') : T = T' := by
  induction h generalizing T' with
  | nil => cases h'; rfl
  | var hv _ ih => cases h' with
    | var _ r => rw [ih r]
    | app hp _ => omega
  | app hp _ ih => cases h' with
    | var hv _ => omega
    | app _ r => rw [ih r]
theorem Unf.append {xs ys : List Nat} {T U : List Int} (h : Unf G R rep xs T) (h' : Unf G R rep ys U) : Unf G R rep (xs ++ ys) (T ++ U) := by
  induction h with
  | nil => exact h'
  | var hv _ ih => exact .var hv ih
  | app hp _ ih => exact .app hp ((List.append_assoc _ _ _) ▸ ih)
theorem Unf.split {xs ys : List Nat} {T : List Int} (h : Unf G R rep (xs ++ ys) T) : ∃ U V, T = U ++ V ∧ Unf G R rep xs U ∧ Unf G R rep ys V := by
  generalize hz : xs ++ ys = zs at h
  induction h generalizing xs with
  | nil =>
    obtain ⟨rfl, rfl⟩ := List.append_eq_nil_iff.1 hz
    exact ⟨[], [], rfl, .nil, .nil⟩
  | @var x zs T hv r ih =>
    cases xs with
    | nil => subst hz; exact ⟨[], _, rfl, .nil, .var hv r⟩
    | cons x' xs =>
      obtain ⟨rfl, rfl⟩ := List.cons.inj hz
      obtain ⟨U, V, rfl, h1, h2⟩ := ih rfl
      exact ⟨_ :: U, V, rfl, .var hv h1, h2⟩
  | @app x zs T hp r ih =>
    cases xs with
    | nil => subst hz; exact ⟨[], _, rfl, .nil, .app hp r⟩
    | cons x' xs =>
      obtain ⟨rfl, rfl⟩ := List.cons.inj hz
      obtain ⟨U, V, rfl, h1, h2⟩ := ih (xs := G.args (rep (R x')).toNat ++ xs) (List.append_assoc _ _ _)
      exact ⟨_ :: U, V, rfl, .app hp h1, h2⟩
theorem Unf.congr {xs ys : List Nat} {T : List Int} (h : Unf G R rep xs T) (e : xs.map R = ys.map R) : Unf G R rep ys T := by
  induction h generalizing ys with
  | nil =>
    cases ys with
    | nil => exact .nil
    | cons y ys => simp at e
  | @var x xs T hv r ih =>
    cases ys with
    | nil => simp at e
    | cons y ys =>
      simp only [List.map_cons, List.cons.injEq] at e
      rw [e.1] at hv ⊢
      exact .var hv (ih e.2)
  | @app x xs T hp r ih =>
    cases ys with
    | nil => simp at e
    | cons y ys =>
      simp only [List.map_cons, List.cons.injEq] at e
      rw [e.1] at hp ⊢ ih
      exact .app hp (ih (by rw [List.map_append, List.map_append, e.2]))
theorem Unf.len {xs : List Nat} {T : List Int} (h : Unf G R rep xs T) : xs.length ≤ T.length := by
  induction h with
  | nil => simp
  | var _ _ ih => simpa using ih
  | app _ _ ih => simp at ih ⊢; omega
end
end Go.Proofs.Ytadjoaipmcbieaa

/- PLAIN: what a joined net unfolds to is the most general common instance; how long it is. -/
namespace Go.Proofs.Ytadjoaipmcbieaa
open Go.Proofs.YtadjoaipmcbieaaW.PrintWords

/-- T is an instance of A and of B by the same terms, and each that is so is an instance of T. -/
def Mgi (b : Int → Nat) (A B T : List Int) : Prop := (∃ s, Gd b s ∧ sb s A = T ∧ sb s B = T) ∧ ∀ s, Gd b s → sb s A = sb s B → ∃ u, Gd b u ∧ sb u T = sb s A

section
variable {b : Int → Nat} {G : Net} {ra rb : Nat} {R : Nat → Nat} {rep : Nat → Int} {st : List (Nat × Nat)}
theorem Uni.fin (h : Uni b G ra rb R rep []) : R ra = R rb ∧ ∀ x y, x < G.n → y < G.n → 0 ≤ G.sym x → 0 ≤ G.sym y → R x = R y → G.sym x = G.sym y ∧ (G.args x).map R = (G.args y).map R :=
  h.snd R h.idem (fun p hp => by simp at hp)
theorem Unf.isT (h : Uni b G ra rb R rep st) {xs : List Nat} {T : List Int} (hx : ∀ x ∈ xs, x < G.n) (u : Unf G R rep xs T) : IsT b xs.length T := by
  induction u with
  | nil => exact .nil
  | @var x xs T hv _ ih =>
    exact .cons (by rw [h.ok.bv _ (by omega), Nat.zero_add]; exact ih (fun y hy => hx y (by simp [hy])))
  | @app x xs T hp _ ih =>
    have hxn := hx x (by simp)
    obtain ⟨f1, f2, f3⟩ := h.rep2 _ (h.lt x hxn) (h.idem x hxn) hp
    obtain ⟨e1, e2⟩ := h.ok.arg _ f1 f2
    refine .cons ?_
    rw [← e1, ← List.length_append]
    refine ih (fun y hy => ?_)
    rcases List.mem_append.1 hy with hy | hy
    · exact e2 y hy
    · exact hx y (by simp [hy])
open Classical in
/-- What a variable's node unfolds to. -/
noncomputable def th (G : Net) (R : Nat → Nat) (rep : Nat → Int) (v : Int) : List Int :=
  if h : ∃ T x, x < G.n ∧ G.sym x < 0 ∧ G.tm x = [v] ∧ Unf G R rep [x] T then Classical.choose h else [v]
theorem th_eq (h : Uni b G ra rb R rep st) {x : Nat} {v : Int} {T : List Int} (hx : x < G.n) (sx : G.sym x < 0) (e : G.tm x = [v]) (u : Unf G R rep [x] T) : th G R rep v = T := by
  have hex : ∃ T x, x < G.n ∧ G.sym x < 0 ∧ G.tm x = [v] ∧ Unf G R rep [x] T := ⟨T, x, hx, sx, e, u⟩
  obtain ⟨y, hy, sy, ey, uy⟩ := Classical.choose_spec hex
  have hR := h.inj x y hx hy sx sy (by rw [e, ey])
  unfold th
  rw [dif_pos hex]
  exact (uy.congr (ys := [x]) (by simp [hR])).det u
theorem th_good (h : Uni b G ra rb R rep st) : Gd b (th G R rep) := by
  intro v hv
  unfold th
  split
  · rename_i hex
    obtain ⟨y, hy, sy, ey, uy⟩ := Classical.choose_spec hex
    exact Unf.isT h (xs := [y]) (by simpa using hy) uy
  · exact .cons (by rw [h.ok.bv v hv]; exact .nil)
theorem unf_sb (h : Uni b G ra rb R rep []) : ∀ (m : Nat) (xs : List Nat) (T : List Int), ((xs.map G.tm).flatten).length ≤ m → (∀ x ∈ xs, x < G.n) → Unf G R rep xs T → sb (th G R rep) (xs.map G.tm).flatten = T := by
  intro m
  induction m with
  | zero =>
    intro xs T hm hx u
    cases xs with
    | nil => cases u; rfl
    | cons x xs =>
      have h1 := (h.ok.tmT x (hx x (by simp))).pos
      rw [List.map_cons, List.flatten_cons, List.length_append] at hm
      omega
  | succ m ih =>
    intro xs T hm hx u
    cases xs with
    | nil => cases u; rfl
    | cons x xs =>
      have hxn := hx x (by simp)
      have hxs : ∀ y ∈ xs, y < G.n := fun y hy => hx y (by simp [hy])
      rw [List.map_cons, List.flatten_cons] at hm ⊢
      rw [List.length_append] at hm
      by_cases sx : G.sym x < 0
      · obtain ⟨v, hv, ev⟩ := h.ok.tmv x hxn sx
        obtain ⟨U, V, rfl, u1, u2⟩ := Unf.split (xs := [x]) u
        rw [sb_append, ev, sb_var hv, th_eq h hxn sx ev u1, ih xs V (by rw [ev] at hm; simp at hm ⊢; omega) hxs u2]
      · have sx' : 0 ≤ G.sym x := by omega
        have hp := h.rep1 x hxn sx'
        obtain ⟨f1, f2, f3⟩ := h.rep2 _ (h.lt x hxn) (h.idem x hxn) hp
        obtain ⟨e1, e2⟩ := (h.fin.2) x _ hxn f1 sx' f2 f3.symm
        cases u with
        | var hv _ => omega
        | app _ r =>
          have r2 := r.congr (ys := G.args x ++ xs) (by rw [List.map_append, List.map_append, e2])
          have hlt : ∀ y ∈ G.args x ++ xs, y < G.n := fun y hy => by
            rcases List.mem_append.1 hy with hy | hy
            · exact (h.ok.arg x hxn sx').2 y hy
            · exact hxs y hy
          rw [h.ok.tms x hxn sx'] at hm ⊢
          have e3 := ih (G.args x ++ xs) _ (by rw [List.map_append, List.flatten_append, List.length_append]; simp only [List.length_cons] at hm; omega) hlt r2
          rw [List.cons_append, sb_sym sx', ← List.flatten_append, ← List.map_append, e3, e1]
theorem unf_gen (h : Uni b G ra rb R rep st) {s : Int → List Int} (hs : Gd b s) (he : sb s (G.tm ra) = sb s (G.tm rb)) {xs : List Nat} {T : List Int} (hx : ∀ x ∈ xs, x < G.n) (u : Unf G R rep xs T) :
    sb (fun v => if (-v - 1).toNat < G.n ∧ v < 0 then sb s (G.tm (-v - 1).toNat) else [v]) T = sb s (xs.map G.tm).flatten := by
  have hc := (h.cmp s hs he).1
  induction u with
  | nil => rfl
  | @var x xs T hv _ ih =>
    have hxn := hx x (by simp)
    have hr := h.lt x hxn
    rw [sb_cons, if_pos (by omega), if_pos ⟨by omega, by omega⟩, ih (fun y hy => hx y (by simp [hy])), show (-(-(R x : Int) - 1) - 1).toNat = R x by omega, hc x hxn, List.map_cons, List.flatten_cons, sb_append]
  | @app x xs T hp _ ih =>
    have hxn := hx x (by simp)
    obtain ⟨f1, f2, f3⟩ := h.rep2 _ (h.lt x hxn) (h.idem x hxn) hp
    have e2 := (h.ok.arg _ f1 f2).2
    have e4 : sb s (G.tm (rep (R x)).toNat) = sb s (G.tm x) := by rw [← hc x hxn, ← hc _ f1, f3]
    rw [sb_sym f2, ih (fun y hy => by
      rcases List.mem_append.1 hy with hy | hy
      · exact e2 y hy
      · exact hx y (by simp [hy])), List.map_cons, List.flatten_cons, sb_append, ← e4, h.ok.tms _ f1 f2, sb_sym f2, List.map_append, List.flatten_append, sb_append]
    rfl
theorem Uni.mgi (h : Uni b G ra rb R rep []) (ha : ra < G.n) (hb : rb < G.n) {T : List Int} (u : Unf G R rep [ra] T) : Mgi b (G.tm ra) (G.tm rb) T := by
  refine ⟨⟨th G R rep, th_good h, ?_, ?_⟩, fun s hs he => ⟨_, fun v hv => ?_, (unf_gen h hs he (xs := [ra]) (by simpa using ha) u).trans (by simp)⟩⟩
  · simpa using unf_sb h _ [ra] T (Nat.le_refl _) (by simpa using ha) u
  · simpa using unf_sb h _ [rb] T (Nat.le_refl _) (by simpa using hb) (u.congr (by simp [h.fin.1]))
  · split
    · rename_i hn
      exact sb_isT h.ok.bv hs (h.ok.tmT _ hn.1)
    · exact .cons (by rw [h.ok.bv v hv]; exact .nil)
end

/-- How long a list's unfolding is, argument by argument. -/
def szs (f : List Int → Nat → Option (List Int × Option Int)) : List Int → List Nat → Int → Option (List Int × Option Int)
  | K, [], all => some (K, some all)
  | K, a :: cs, all => (f K a).bind fun q => match q.2 with
    | none => some (q.1, none)
    | some m => szs f q.1 cs (min (all + m) 2001)
/-- How long a node's unfolding is (2001, if longer); none: it would lie in itself. -/
def sz (G : Net) (R : Nat → Nat) (rep : Nat → Int) : Nat → List Int → Nat → Option (List Int × Option Int)
  | 0, _, _ => none
  | k + 1, K, x => if rd K (R x) = -1 then some (K, none) else if rd K (R x) ≠ 0 then some (K, some (rd K (R x)))
    else if rep (R x) < 0 then some (K.set (R x) 1, some 1)
    else (szs (sz G R rep k) (K.set (R x) (-1)) (G.args (rep (R x)).toNat) 1).bind fun q => match q.2 with
      | none => some (q.1, none)
      | some all => some (q.1.set (R x) all, some all)

/-- How many are not known yet. -/
def zc : List Int → Nat
  | [] => 0
  | k :: r => zc r + if k = 0 then 1 else 0
theorem rd_cons_succ (k : Int) (r : List Int) (i : Nat) : rd (k :: r) ((i + 1 : Nat) : Int) = rd r i := by simp [rd]
theorem rd_cons_zero (k : Int) (r : List Int) : rd (k :: r) ((0 : Nat) : Int) = k := by simp [rd]
theorem zc_set {v : Int} (hv : v ≠ 0) : ∀ {K : List Int} {i : Nat}, i < K.length → zc (K.set i v) + (if rd K i = 0 then 1 else 0) = zc K
  | [], _, h => by simp at h
  | k :: r, 0, _ => by rw [rd_cons_zero]; simp only [List.set_cons_zero, zc, if_neg hv]; omega
  | k :: r, i + 1, h => by
    have := zc_set (v := v) hv (K := r) (i := i) (by simpa using h)
    rw [rd_cons_succ]; simp only [List.set_cons_succ, zc]; omega
theorem zc_le : ∀ (K : List Int), zc K ≤ K.length
  | [] => Nat.le_refl _
  | k :: r => by have := zc_le r; simp only [zc, List.length_cons]; split <;> omega
theorem rd_set (xs : List Int) (a x : Nat) (v : Int) (ha : a < xs.length) : rd (xs.set a v) x = if a = x then v else rd xs x := by
  simp only [rd, Int.toNat_natCast, List.getD_eq_getElem?_getD, List.getElem?_set]
  split
  · subst_vars; simp_all
  · rfl

section
variable {b : Int → Nat} {G : Net} {ra rb : Nat} {R : Nat → Nat} {rep : Nat → Int} {st : List (Nat × Nat)}
structure SzOk (G : Net) (R : Nat → Nat) (rep : Nat → Int) (K : List Int) : Prop where
  len : K.length = G.n
  ok : ∀ c, c < G.n → R c = c → rd K c = -1 ∨ rd K c = 0 ∨ ∃ T, Unf G R rep [c] T ∧ rd K c = min (T.length : Int) 2001
theorem SzOk.bd {K : List Int} (h : SzOk G R rep K) {c : Nat} (h1 : c < G.n) (h2 : R c = c) : -1 ≤ rd K c ∧ rd K c ≤ 2001 := by
  rcases h.ok c h1 h2 with e | e | ⟨T, _, e⟩ <;> omega
/-- What stands for x is shorter than what stands for all that is being counted. -/
def Shorter (G : Net) (R : Nat → Nat) (s : Int → List Int) (K : List Int) (x : Nat) : Prop := ∀ c, c < G.n → R c = c → rd K c = -1 → (sb s (G.tm x)).length < (sb s (G.tm c)).length
def SzPost (b : Int → Nat) (G : Net) (ra rb : Nat) (R : Nat → Nat) (rep : Nat → Int) (K : List Int) (xs : List Nat) (a : Int) (K' : List Int) (r : Option Int) : Prop :=
  K'.length = G.n ∧ ((∃ m T, r = some m ∧ SzOk G R rep K' ∧ zc K' ≤ zc K ∧ (∀ c, c < G.n → (rd K' c = -1 ↔ rd K c = -1)) ∧ Unf G R rep xs T ∧ m = min (a + T.length) 2001) ∨
  (r = none ∧ ∀ s, Gd b s → sb s (G.tm ra) = sb s (G.tm rb) → ¬ ∀ x ∈ xs, Shorter G R s K x))
theorem min_two (a t u : Int) (ha : 0 ≤ a) (_ : 0 ≤ t) (hu : 0 ≤ u) : min (a + min (0 + t) 2001 + u) 2001 = min (a + (t + u)) 2001 := by omega
theorem min_one (a m : Int) (_ : 0 ≤ a) (hm : 0 ≤ m) : min (min a 2001 + m) 2001 = min (a + m) 2001 := by omega
theorem szs_law (_h : Uni b G ra rb R rep st) {f : List Int → Nat → Option (List Int × Option Int)} {z : Nat}
    (hf : ∀ K x, zc K ≤ z → SzOk G R rep K → x < G.n → ∃ K' r, f K x = some (K', r) ∧ SzPost b G ra rb R rep K [x] 0 K' r) : ∀ (xs : List Nat) (K : List Int) (a : Int), zc K ≤ z → SzOk G R rep K → (∀ x ∈ xs, x < G.n) → 0 ≤ a →
    ∃ K' r, szs f K xs (min a 2001) = some (K', r) ∧ SzPost b G ra rb R rep K xs a K' r
  | [], K, a, hz, hK, _, ha => ⟨K, _, rfl, hK.len, .inl ⟨_, [], rfl, hK, Nat.le_refl _, fun _ _ => Iff.rfl, .nil, by simp⟩⟩
  | x :: xs, K, a, hz, hK, hx, ha => by
    obtain ⟨K1, r1, e1, hl1, h1⟩ := hf K x hz hK (hx x (by simp))
    simp only [szs, e1, Option.bind_some]
    rcases h1 with ⟨m, T, rfl, k1, z1, o1, u1, em⟩ | ⟨rfl, hn⟩
    · have hm : 0 ≤ m := by omega
      obtain ⟨K2, r2, e2, hl2, h2⟩ := szs_law _h hf xs K1 (a + m) (by omega) k1 (fun y hy => hx y (by simp [hy])) (by omega)
      have em2 := min_one a m ha hm
      refine ⟨K2, r2, by show szs f K1 xs (min (min a 2001 + m) 2001) = _; rw [em2]; exact e2, hl2, ?_⟩
      rcases h2 with ⟨m2, T2, rfl, k2, z2, o2, u2, e3⟩ | ⟨rfl, hn⟩
      · exact .inl ⟨m2, T ++ T2, rfl, k2, by omega, fun c hc => (o2 c hc).trans (o1 c hc), Unf.append (xs := [x]) u1 u2, by rw [e3, em, List.length_append, Int.natCast_add]; exact min_two _ _ _ ha (Int.natCast_nonneg _) (Int.natCast_nonneg _)⟩
      · refine .inr ⟨rfl, fun s hs he hall => hn s hs he fun y hy => ?_⟩
        intro c hc hR ho
        exact hall y (by simp [hy]) c hc hR ((o1 c hc).1 ho)
    · exact ⟨K1, none, rfl, hl1, .inr ⟨rfl, fun s hs he hall => hn s hs he fun y hy => by
        obtain rfl : y = x := by simpa using hy
        exact hall y (by simp)⟩⟩
theorem sz_law (h : Uni b G ra rb R rep st) : ∀ (k : Nat) (K : List Int) (x : Nat), zc K < k → SzOk G R rep K → x < G.n → ∃ K' r, sz G R rep k K x = some (K', r) ∧ SzPost b G ra rb R rep K [x] 0 K' r := by
  intro k
  induction k with
  | zero => intro K x hz; omega
  | succ k ih =>
    intro K x hz hK hx
    have hr := h.lt x hx
    have hi := h.idem x hx
    simp only [sz]
    have hcong : ∀ {T}, Unf G R rep [R x] T → Unf G R rep [x] T := fun u => u.congr (by simp [hi])
    by_cases e1 : rd K (R x) = -1
    · rw [if_pos e1]
      refine ⟨K, none, rfl, hK.len, .inr ⟨rfl, fun s hs he hall => ?_⟩⟩
      have h1 := hall x (by simp) (R x) hr hi e1
      have h2 := (h.cmp s hs he).1 x hx
      rw [h2] at h1
      omega
    · rw [if_neg e1]
      by_cases e2 : rd K (R x) = 0
      · rw [if_neg (fun hh => hh e2)]
        have hlen : R x < K.length := by rw [hK.len]; exact hr
        by_cases e3 : rep (R x) < 0
        · rw [if_pos e3]
          have hz1 := zc_set (v := 1) (by omega) hlen
          rw [if_pos e2] at hz1
          have hU : Unf G R rep [R x] [-(R x : Int) - 1] := by have := Unf.var (G := G) (R := R) (rep := rep) (x := R x) (xs := []) (by rw [hi]; exact e3) .nil; rw [hi] at this; exact this
          refine ⟨_, _, rfl, by simpa using hK.len, .inl ⟨1, _, rfl, ⟨by simpa using hK.len, fun c hc hR => ?_⟩, by omega, fun c hc => ?_, hcong hU, by simp only [List.length_singleton]; omega⟩⟩
          · rw [rd_set _ _ _ _ hlen]
            by_cases e : R x = c
            · subst e; rw [if_pos rfl]; exact .inr (.inr ⟨_, hU, by simp only [List.length_singleton]; omega⟩)
            · rw [if_neg e]; exact hK.ok c hc hR
          · rw [rd_set _ _ _ _ hlen]
            by_cases e : R x = c
            · subst e; rw [if_pos rfl]; omega
            · rw [if_neg e]
        · rw [if_neg e3]
          obtain ⟨f1, f2, f3⟩ := h.rep2 _ hr hi (by omega)
          have hargs := (h.ok.arg _ f1 f2).2
          have hz1 := zc_set (v := -1) (by omega) hlen
          rw [if_pos e2] at hz1
          have hK1 : SzOk G R rep (K.set (R x) (-1)) := ⟨by simpa using hK.len, fun c hc hR => by
            rw [rd_set _ _ _ _ hlen]
            by_cases e : R x = c
            · rw [if_pos e]; exact .inl rfl
            · rw [if_neg e]; exact hK.ok c hc hR⟩
          have hmin : (1 : Int) = min 1 2001 := by omega
          obtain ⟨K2, r2, e4, hl2, h2⟩ := szs_law (z := zc K - 1) h (f := sz G R rep k) (fun K' y hz' hK' hy => ih K' y (by omega) hK' hy) (G.args (rep (R x)).toNat) (K.set (R x) (-1)) 1 (by omega) hK1 hargs (by omega)
          rw [← hmin] at e4
          rw [e4, Option.bind_some]
          rcases h2 with ⟨m, T, rfl, k2, z2, o2, u2, e5⟩ | ⟨rfl, hn⟩
          · have hU : Unf G R rep [R x] (G.sym (rep (R x)).toNat :: T) := by
              have := Unf.app (G := G) (R := R) (rep := rep) (x := R x) (xs := []) (T := T) (by rw [hi]; omega) (by rw [hi, List.append_nil]; exact u2); rw [hi] at this; exact this
            have hl2' : R x < K2.length := by rw [hl2]; exact hr
            have ho : rd K2 (R x) = -1 := (o2 _ hr).2 (by rw [rd_set _ _ _ _ hlen, if_pos rfl])
            have hz2 := zc_set (v := m) (by omega) hl2'
            rw [if_neg (by omega)] at hz2
            refine ⟨K2.set (R x) m, some m, rfl, by simpa using hl2, .inl ⟨m, _, rfl, ⟨by simpa using hl2, fun c hc hR => ?_⟩, by omega, fun c hc => ?_, hcong hU, by simp only [List.length_cons]; omega⟩⟩
            · rw [rd_set _ _ _ _ hl2']
              by_cases e : R x = c
              · subst e; rw [if_pos rfl]; exact .inr (.inr ⟨_, hU, by simp only [List.length_cons]; omega⟩)
              · rw [if_neg e]; exact k2.ok c hc hR
            · rw [rd_set _ _ _ _ hl2']
              by_cases e : R x = c
              · subst e; rw [if_pos rfl]; omega
              · rw [if_neg e, o2 c hc, rd_set _ _ _ _ hlen, if_neg e]
          · refine ⟨K2, none, rfl, hl2, .inr ⟨rfl, fun s hs he hall => hn s hs he fun a ha => ?_⟩⟩
            intro c hc hR ho
            have hc1 := (h.cmp s hs he).1
            have hlong : (sb s (G.tm a)).length < (sb s (G.tm x)).length := by
              rw [← hc1 x hx, ← f3, hc1 _ f1, h.ok.tms _ f1 f2, sb_sym f2, sb_flatten, List.length_cons, List.map_map]
              obtain ⟨l1, l2, el⟩ := List.append_of_mem ha
              rw [el]
              simp only [List.map_append, List.map_cons, List.flatten_append, List.flatten_cons, List.length_append, Function.comp_apply]
              omega
            rw [rd_set _ _ _ _ hlen] at ho
            by_cases e : R x = c
            · subst e; rw [hc1 x hx]; exact hlong
            · rw [if_neg e] at ho
              have := hall x (by simp) c hc hR ho
              omega
      · rw [if_pos e2]
        rcases hK.ok _ hr hi with e | e | ⟨T, u, e⟩
        · exact absurd e e1
        · exact absurd e e2
        · exact ⟨K, _, rfl, hK.len, .inl ⟨_, T, rfl, hK, Nat.le_refl _, fun _ _ => Iff.rfl, hcong u, by simpa using e⟩⟩
end
end Go.Proofs.Ytadjoaipmcbieaa

/- PLAIN: variables numbered anew; most general common instances are alike but for their variables' names. -/
namespace Go.Proofs.Ytadjoaipmcbieaa
open Go.Proofs.YtadjoaipmcbieaaW.PrintWords

/-- The variables numbered in the order in which they first stand; ns: those that have stood. -/
def rn : List Int → List Int → List Int
  | _, [] => []
  | ns, n :: t => if 0 ≤ n then n :: rn ns t else if n ∈ ns then (-(ns.idxOf n : Int) - 1) :: rn ns t else (-(ns.length : Int) - 1) :: rn (ns ++ [n]) t
def rns : List Int → List Int → List Int
  | ns, [] => ns
  | ns, n :: t => if 0 ≤ n then rns ns t else if n ∈ ns then rns ns t else rns (ns ++ [n]) t
theorem rn_append : ∀ (t u ns : List Int), rn ns (t ++ u) = rn ns t ++ rn (rns ns t) u
  | [], _, _ => rfl
  | n :: t, u, ns => by
    simp only [List.cons_append, rn, rns]
    split
    · rw [rn_append]; rfl
    · split
      · rw [rn_append]; rfl
      · rw [rn_append]; rfl
theorem rns_append : ∀ (t u ns : List Int), rns ns (t ++ u) = rns (rns ns t) u
  | [], _, _ => rfl
  | n :: t, u, ns => by
    simp only [List.cons_append, rns]
    split
    · exact rns_append t u ns
    · split
      · exact rns_append t u ns
      · exact rns_append t u _
theorem rn_length : ∀ (t ns : List Int), (rn ns t).length = t.length
  | [], _ => rfl
  | n :: t, ns => by
    simp only [rn]
    split
    · simp [rn_length t]
    · split <;> simp [rn_length t]

theorem idx_map {f g : Int → Int} : ∀ {ns : List Int} {n : Int}, (∀ x ∈ ns, g (f x) = x) → g (f n) = n → (ns.map f).idxOf (f n) = ns.idxOf n
  | [], _, _, _ => rfl
  | m :: ns, n, h, hn => by
    rw [List.map_cons, List.idxOf_cons, List.idxOf_cons]
    have ih := idx_map (ns := ns) (n := n) (fun x hx => h x (by simp [hx])) hn
    by_cases e : m = n
    · subst e; simp
    · have e2 : f m ≠ f n := fun e2 => e (by rw [← h m (by simp), e2, hn])
      rw [beq_eq_false_iff_ne.2 e, beq_eq_false_iff_ne.2 e2, ih]
/-- Names that are carried over, one to one, are numbered alike. -/
theorem rn_map {f g : Int → Int} : ∀ {t ns : List Int}, (∀ x ∈ ns, g (f x) = x) → (∀ x ∈ t, x < 0 → f x < 0 ∧ g (f x) = x) → rn (ns.map f) (t.map fun x => if x < 0 then f x else x) = rn ns t
  | [], _, _, _ => rfl
  | n :: t, ns, h, ht => by
    have ht' : ∀ x ∈ t, x < 0 → f x < 0 ∧ g (f x) = x := fun x hx => ht x (by simp [hx])
    simp only [List.map_cons, rn]
    by_cases hn : 0 ≤ n
    · have e : (if n < 0 then f n else n) = n := if_neg (by omega)
      rw [e, if_pos hn, if_pos hn, rn_map h ht']
    · obtain ⟨h1, h2⟩ := ht n (by simp) (by omega)
      have e : (if n < 0 then f n else n) = f n := if_pos (by omega)
      rw [e, if_neg (by omega), if_neg hn]
      by_cases hm : n ∈ ns
      · rw [if_pos hm, if_pos (List.mem_map_of_mem hm), idx_map h h2, rn_map h ht']
      · have hm2 : f n ∉ ns.map f := fun hm2 => by
          obtain ⟨x, hx, ex⟩ := List.mem_map.1 hm2
          have : x = n := by rw [← h x hx, ex, h2]
          exact hm (this ▸ hx)
        rw [if_neg hm, if_neg hm2, List.length_map, ← rn_map (ns := ns ++ [n]) (fun x hx => by
          rcases List.mem_append.1 hx with hx | hx
          · exact h x hx
          · obtain rfl := List.mem_singleton.1 hx; exact h2) ht', List.map_append]; rfl

theorem sb_len {s : Int → List Int} (h : ∀ n, n < 0 → 1 ≤ (s n).length) : ∀ (t : List Int), t.length ≤ (sb s t).length
  | [] => Nat.zero_le _
  | n :: t => by
    have := sb_len h t
    rw [sb_cons, List.length_append, List.length_cons]
    split
    · have := h n ‹_›; omega
    · simp; omega
theorem sb_one {s : Int → List Int} (h : ∀ n, n < 0 → 1 ≤ (s n).length) : ∀ {t : List Int}, (sb s t).length = t.length → ∀ n ∈ t, n < 0 → ∃ m, s n = [m]
  | [], _, n, hn, _ => by simp at hn
  | m :: t, e, n, hn, h0 => by
    have h1 := sb_len h t
    rw [sb_cons, List.length_append, List.length_cons] at e
    by_cases hm : m < 0
    · have h2 := h m hm
      rw [if_pos hm] at e
      rcases List.mem_cons.1 hn with rfl | hn
      · exact List.length_eq_one_iff.1 (by omega)
      · exact sb_one h (by omega) n hn h0
    · rw [if_neg hm] at e
      rcases List.mem_cons.1 hn with rfl | hn
      · omega
      · exact sb_one h (by simp at e; omega) n hn h0
theorem sb_map {s : Int → List Int} {f : Int → Int} : ∀ {t : List Int}, (∀ n ∈ t, n < 0 → s n = [f n]) → sb s t = t.map fun x => if x < 0 then f x else x
  | [], _ => rfl
  | n :: t, h => by
    rw [sb_cons, sb_map (fun m hm => h m (by simp [hm])), List.map_cons]
    by_cases hn : n < 0
    · rw [if_pos hn, if_pos hn, h n (by simp) hn]; rfl
    · rw [if_neg hn, if_neg hn]; rfl
/-- Two lists of which each is an instance of the other are numbered alike. -/
theorem rn_alike {s u : Int → List Int} {t t' : List Int} (hs : ∀ n, n < 0 → 1 ≤ (s n).length) (hu : ∀ n, n < 0 → 1 ≤ (u n).length) (e1 : sb s t = t') (e2 : sb u t' = t) : t.length = t'.length ∧ rn [] t = rn [] t' := by
  have l1 := sb_len hs t
  have l2 := sb_len hu t'
  rw [e1] at l1
  rw [e2] at l2
  have hl : t.length = t'.length := by omega
  refine ⟨hl, ?_⟩
  have o1 := sb_one hs (t := t) (by rw [e1]; omega)
  have o2 := sb_one hu (t := t') (by rw [e2]; omega)
  have g1 : ∀ n ∈ t, n < 0 → s n = [(s n).headD 0] := fun n hn h0 => by obtain ⟨m, hm⟩ := o1 n hn h0; rw [hm]; rfl
  have g2 : ∀ n ∈ t', n < 0 → u n = [(u n).headD 0] := fun n hn h0 => by obtain ⟨m, hm⟩ := o2 n hn h0; rw [hm]; rfl
  have m1 := sb_map g1
  have m2 := sb_map g2
  rw [e1] at m1
  rw [e2] at m2
  have key : ∀ n ∈ t, n < 0 → (s n).headD 0 < 0 ∧ (u ((s n).headD 0)).headD 0 = n := by
    intro n hn h0
    obtain ⟨i, hi, rfl⟩ := List.mem_iff_getElem.1 hn
    have a1 : t'[i]? = some ((s t[i]).headD 0) := by rw [m1]; simp [hi, h0]
    have a2 : t[i]? = (t'[i]?).map fun x => if x < 0 then (u x).headD 0 else x := by rw [← List.getElem?_map, ← m2]
    rw [a1, Option.map_some, List.getElem?_eq_getElem hi] at a2
    have a3 := Option.some.inj a2
    by_cases h1 : (s t[i]).headD 0 < 0
    · rw [if_pos h1] at a3; exact ⟨h1, a3.symm⟩
    · rw [if_neg h1] at a3; omega
  have := rn_map (f := fun n => (s n).headD 0) (g := fun n => (u n).headD 0) (t := t) (ns := []) (by simp) key
  rw [← m1] at this
  exact this.symm
theorem gd_pos {b : Int → Nat} {s : Int → List Int} (h : Gd b s) : ∀ n, n < 0 → 1 ≤ (s n).length := fun n hn => (h n hn).pos
theorem Mgi.alike {b : Int → Nat} {A B T T' : List Int} (h : Mgi b A B T) (h' : Mgi b A B T') : T.length = T'.length ∧ rn [] T = rn [] T' := by
  obtain ⟨⟨s, hs, e1, e2⟩, hg⟩ := h
  obtain ⟨⟨s', hs', e1', e2'⟩, hg'⟩ := h'
  obtain ⟨u, hu, eu⟩ := hg s' hs' (by rw [e1', e2'])
  obtain ⟨u', hu', eu'⟩ := hg' s hs (by rw [e1, e2])
  rw [e1'] at eu
  rw [e1] at eu'
  exact rn_alike (gd_pos hu) (gd_pos hu') eu eu'
theorem Mgi.swap {b : Int → Nat} {A B T : List Int} (h : Mgi b A B T) : Mgi b B A T := by
  obtain ⟨⟨s, hs, e1, e2⟩, hg⟩ := h
  exact ⟨⟨s, hs, e2, e1⟩, fun s hs he => by obtain ⟨u, hu, e⟩ := hg s hs he.symm; exact ⟨u, hu, by rw [e, he]⟩⟩

/-- A list's unfolding laid behind others: variables are numbered as they come. -/
def lys (f : List Int → Nat → List Int → Option (List Int × List Int)) : List Int → List Nat → List Int → Option (List Int × List Int)
  | out, [], ns => some (out, ns)
  | out, a :: cs, ns => (f out a ns).bind fun q => lys f q.1 cs q.2
def ly (G : Net) (R : Nat → Nat) (rep : Nat → Int) : Nat → List Int → Nat → List Int → Option (List Int × List Int)
  | 0, _, _, _ => none
  | k + 1, out, x, ns => if rep (R x) < 0 then some (out ++ rn ns [-(R x : Int) - 1], rns ns [-(R x : Int) - 1])
    else lys (ly G R rep k) (out ++ [G.sym (rep (R x)).toNat]) (G.args (rep (R x)).toNat) ns
theorem ly_law {b : Int → Nat} {G : Net} {ra rb : Nat} {R : Nat → Nat} {rep : Nat → Int} {st : List (Nat × Nat)} (h : Uni b G ra rb R rep st) : ∀ (k : Nat) (x : Nat) (T out ns : List Int), x < G.n → Unf G R rep [x] T → T.length ≤ k →
    ly G R rep k out x ns = some (out ++ rn ns T, rns ns T) := by
  intro k
  induction k with
  | zero => intro x T out ns _ u hk; have := u.len; simp at this; omega
  | succ k ih =>
    intro x T out ns hx u hk
    have key : ∀ (xs : List Nat) (T out ns : List Int), (∀ x ∈ xs, x < G.n) → Unf G R rep xs T → T.length ≤ k → lys (ly G R rep k) out xs ns = some (out ++ rn ns T, rns ns T) := by
      intro xs
      induction xs with
      | nil => intro T out ns _ u _; cases u; simp [lys, rn, rns]
      | cons y ys ihs =>
        intro T out ns hy u hT
        obtain ⟨U, V, rfl, u1, u2⟩ := Unf.split (xs := [y]) u
        rw [List.length_append] at hT
        simp only [lys]
        rw [ih y U out ns (hy y (by simp)) u1 (by omega), Option.bind_some, ihs V _ _ (fun z hz => hy z (by simp [hz])) u2 (by omega), rn_append, rns_append, List.append_assoc]
    simp only [ly]
    cases u with
    | var hv r => cases r; rw [if_pos hv]
    | @app _ _ T hp r =>
      rw [if_neg (by omega), List.append_nil] at *
      obtain ⟨f1, f2, f3⟩ := h.rep2 _ (h.lt x hx) (h.idem x hx) hp
      rw [key _ T _ ns (h.ok.arg _ f1 f2).2 r (by simpa using hk)]
      simp only [rn, rns, if_pos f2, List.append_assoc, List.singleton_append]
end Go.Proofs.Ytadjoaipmcbieaa

/- PLAIN: what unification answers: one answer alone. -/
namespace Go.Proofs.Ytadjoaipmcbieaa
open Go.Proofs.YtadjoaipmcbieaaW.PrintWords

/-- The second term's variables, made unlike the first one's. -/
def tg (ap : Bool) (t : List Int) : List Int := if ap = true then t.map (fun n => if n < 0 then n - 1000 else n) else t
theorem tg_length (ap : Bool) (t : List Int) : (tg ap t).length = t.length := by unfold tg; split <;> simp
/-- How long the most general common instance is (2001, if longer; 0: there is none). -/
def SolR (b : Int → Nat) (A B : List Int) (n : Int) : Prop := (n = 0 ∧ ∀ s, Gd b s → sb s A ≠ sb s B) ∨ ∃ T, Mgi b A B T ∧ n = min (T.length : Int) 2001
/-- What is told of two terms: an error's number, a term. -/
inductive UniR (b : Int → Nat) (A B : List Int) : Int → List Int → Prop
  | none (h : ∀ s, Gd b s → sb s A ≠ sb s B) : UniR b A B 60 []
  | long {T : List Int} (h : Mgi b A B T) (hl : 2000 < T.length) : UniR b A B 20 []
  | ok {T : List Int} (h : Mgi b A B T) (hl : T.length ≤ 2000) : UniR b A B 0 (rn [] T)
theorem Mgi.some {b : Int → Nat} {A B T : List Int} (h : Mgi b A B T) : ¬ ∀ s, Gd b s → sb s A ≠ sb s B := by
  obtain ⟨⟨s, hs, e1, e2⟩, _⟩ := h
  exact fun hn => hn s hs (by rw [e1, e2])
theorem UniR.det {b : Int → Nat} {A B : List Int} {e e' : Int} {t t' : List Int} (h : UniR b A B e t) (h' : UniR b A B e' t') : e = e' ∧ t = t' := by
  cases h with
  | none h => cases h' with
    | none _ => exact ⟨rfl, rfl⟩
    | long h2 _ => exact absurd h h2.some
    | ok h2 _ => exact absurd h h2.some
  | long h hl => cases h' with
    | none h2 => exact absurd h2 h.some
    | long _ _ => exact ⟨rfl, rfl⟩
    | ok h2 hl2 => have := (h.alike h2).1; omega
  | ok h hl => cases h' with
    | none h2 => exact absurd h2 h.some
    | long h2 hl2 => have := (h.alike h2).1; omega
    | ok h2 hl2 => exact ⟨rfl, (h.alike h2).2⟩
theorem SolR.det {b : Int → Nat} {A B : List Int} {n n' : Int} (h : SolR b A B n) (h' : SolR b A B n') : n = n' := by
  rcases h with ⟨rfl, h⟩ | ⟨T, h, rfl⟩
  · rcases h' with ⟨rfl, _⟩ | ⟨T, h', rfl⟩
    · rfl
    · exact absurd h h'.some
  · rcases h' with ⟨rfl, h'⟩ | ⟨T', h', rfl⟩
    · exact absurd h' h.some
    · rw [(h.alike h').1]
end Go.Proofs.Ytadjoaipmcbieaa
