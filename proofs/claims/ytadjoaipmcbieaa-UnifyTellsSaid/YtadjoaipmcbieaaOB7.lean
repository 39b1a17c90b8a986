/- The texts Y8, UZ, Y9, Z0, P2, P3, joined by wip/slim.py: what the claim's theorem needs of them. (Those named W.. and G.. were printed by the kit's print.py for this seat.) -/
import Derived.Test.YtadjoaipmcbieaaOB6

/-! Y8 -/
namespace Go.Proofs.Ytadjoaipmcbieaa
open Go.RowKit Go.Proofs.YtadjoaipmcbieaaW.PrintWords Go.Proofs.YtadjoaipmcbieaaW.PrintLast Go.Proofs.YtadjoaipmcbieaaW.PrintMore A
set_option linter.unusedSimpArgs false
set_option linter.unusedVariables false
theorem LdSt.start (w : World) (vl : Value) : LdSt (w.alloc (.cells #[vl, .slice none 0 0, .slice none 0 0, .slice none 0 0, .slice none 0 0] 139)) w.heap.size w.heap.size vl (.slice none 0 0) (.slice none 0 0) (.slice none 0 0) (.slice none 0 0) [] [] [] [] :=
  ⟨heap_alloc_new _ _, Nat.le_refl _, Kd.R_nil _ _ _ _ _, Kd.R_nil _ _ _ _ _, Kd.R_nil _ _ _ _ _, Kd.R_nil _ _ _ _ _, TwoV.nil _, TwoV.nil _, TwoV.nil _⟩
/-- The two terms' row. -/
def rowsAB (l : List S89) (A B : List Int) (n : Nat) : List (List Int) := (List.range n).map fun x => toI (argAB l A B x)
/-- Laid's first loop. -/
structure LwSt (w W : World) (g gb : Nat) (vl vt va va0 vb0 : Value) (l : List S89) (A B : List Int) (n : Nat) : Prop where
  s : LdSt W w.heap.size g vl vt va (.slice none 0 0) (.slice none 0 0) ((A ++ B).take n) (rowsAB l A B n) [] []
  b : Below w.heap.size w W
  both : W.heap[gb]? = some (.cells #[va0, vb0] 25 (0, 0))
section
variable {w W W' : World} {g gb : Nat} {vl vt va va0 vb0 : Value} {l : List S89} {A B : List Int} {n : Nat}
theorem LwSt.side {k : Nat} {T : List Int} {AT : Option Addr} {cT : Nat} (h : LwSt w W g gb vl vt va va0 vb0 l A B n) (hT : (#[va0, vb0] : Array Value)[k]? = some (.slice AT T.length cT)) : W.cell? ⟨gb, k, none⟩ = some (.slice AT T.length cT) := (cell_of_row W gb k _ _ _ h.both).trans hT
theorem LwSt.below (h : LwSt w W g gb vl vt va va0 vb0 l A B n) (hb : Below W.heap.size W W') : LwSt w W' g gb vl vt va va0 vb0 l A B n :=
  ⟨h.s.below hb, h.b.trans (hb.mono h.b.size), (hb.block _ (blk_lt h.both)).trans h.both⟩
end
/-- Arguments, the first j of them moved by off. -/
def shI (off : Nat) (xs : List Nat) (j : Nat) : List Int := toI ((xs.take j).map (· + off)) ++ toI (xs.drop j)
theorem shI_zero (off : Nat) (xs : List Nat) : shI off xs 0 = toI xs := by simp [shI, toI]
theorem shI_all (off : Nat) (xs : List Nat) : shI off xs xs.length = toI (xs.map (· + off)) := by simp [shI, toI]
theorem shI_len (off : Nat) (xs : List Nat) (j : Nat) : (shI off xs j).length = xs.length := by simp [shI, toI]; omega
theorem shI_at (off : Nat) (xs : List Nat) {j : Nat} (h : j < xs.length) : rd (shI off xs j) j = (xs.getD j 0 : Nat) := by
  simp only [rd, Int.toNat_natCast, shI, List.getD_eq_getElem?_getD]
  rw [List.getElem?_append_right (by simp [toI]; omega)]
  simp [toI, List.length_take, Nat.min_eq_left (Nat.le_of_lt h), h]
theorem shI_set (off : Nat) (xs : List Nat) {j : Nat} (h : j < xs.length) : (shI off xs j).set j ((xs.getD j 0 : Nat) + (off : Int)) = shI off xs (j + 1) := by
  have e0 : xs.getD j 0 = xs[j] := by rw [List.getD_eq_getElem?_getD, List.getElem?_eq_getElem h]; rfl
  have e1 : toI (xs.drop j) = ((xs.getD j 0 : Nat) : Int) :: toI (xs.drop (j + 1)) := by rw [e0, List.drop_eq_getElem_cons h]; rfl
  have e2 : toI ((xs.take (j + 1)).map (· + off)) = toI ((xs.take j).map (· + off)) ++ [(((xs.getD j 0 : Nat) : Int) + (off : Int))] := by
    rw [e0, List.take_add_one, List.getElem?_eq_getElem h, Option.toList_some, List.map_append, toI_append]; rfl
  unfold shI
  rw [e1, e2, List.set_append_right _ _ (by simp [toI]; omega)]
  simp [toI, List.length_take, Nat.min_eq_left (Nat.le_of_lt h)]
/-- A fresh row, beside what was. -/
structure FrSt (w1 W : World) (v : Value) (xs : List Int) : Prop where
  r : Kd.R (Kd.int .i64) 3 W w1.heap.size (fun _ => True) v xs
  b : Below w1.heap.size w1 W
theorem info24 : (Try.prog.info? 24).map (fun i => (i.zero, i.size, i.bytes)) = some (some (.slice none 0 0), 1, 24) := by kernel_rfl
theorem rowsAB_succ (l : List S89) (A B : List Int) (n : Nat) : rowsAB l A B (n + 1) = rowsAB l A B n ++ [toI (argAB l A B n)] := by simp [rowsAB, List.range_succ]
def idN (n : Nat) : List Int := toI (List.range n)
theorem idN_succ (n : Nat) : idN (n + 1) = idN n ++ [(n : Int)] := by simp [idN, List.range_succ, toI]
theorem idN_len (n : Nat) : (idN n).length = n := by simp [idN, toI]
def repN (ts : List Int) (n : Nat) : List Int := (List.range n).map fun x : Nat => if x < ts.length ∧ 0 ≤ rd ts x then (x : Int) else -1
theorem repN_succ (ts : List Int) (n : Nat) : repN ts (n + 1) = repN ts n ++ [if n < ts.length ∧ 0 ≤ rd ts n then (n : Int) else -1] := by simp [repN, List.range_succ]
theorem repN_len (ts : List Int) (n : Nat) : (repN ts n).length = n := by simp [repN]
/-- The classes, those of the first i nodes told. -/
def upR (A B : List Int) (ap : Bool) (N i : Nat) : List Int := (List.range N).map fun x : Nat => if x < i then (rootAB A B ap x : Int) else (x : Int)
theorem upR_zero (A B : List Int) (ap : Bool) (N : Nat) : upR A B ap N 0 = idN N := by
  unfold upR idN toI
  exact List.map_congr_left fun x _ => by rw [if_neg (by omega)]; rfl
theorem upR_len (A B : List Int) (ap : Bool) (N i : Nat) : (upR A B ap N i).length = N := by simp [upR]
theorem upR_at (A B : List Int) (ap : Bool) (N i : Nat) {x : Nat} (h : x < N) : rd (upR A B ap N i) x = if x < i then (rootAB A B ap x : Int) else (x : Int) := by
  simp [rd, upR, List.getD_eq_getElem?_getD, h]
theorem upR_same {A B : List Int} {ap : Bool} {N i : Nat} (h : rootAB A B ap i = i) : upR A B ap N (i + 1) = upR A B ap N i := by
  unfold upR
  refine List.map_congr_left fun x _ => ?_
  by_cases hx : x < i
  · rw [if_pos hx, if_pos (by omega)]
  · by_cases hxi : x = i
    · subst hxi; rw [if_pos (by omega), if_neg hx, h]
    · rw [if_neg hx, if_neg (by omega)]
theorem upR_set {A B : List Int} {ap : Bool} {N i : Nat} (h : i < N) : (upR A B ap N i).set i (rootAB A B ap i) = upR A B ap N (i + 1) := by
  apply List.ext_getElem
  · simp [upR]
  · intro x h1 h2
    simp only [upR, List.getElem_set, List.getElem_map, List.getElem_range]
    by_cases hx : i = x
    · subst hx; rw [if_pos rfl, if_pos (by omega)]
    · rw [if_neg hx]
      by_cases hl : x < i
      · rw [if_pos hl, if_pos (by omega)]
      · rw [if_neg hl, if_neg (by omega)]
/-- Laid's second loop. -/
structure LxSt (w W : World) (g : Nat) (vl vt va vu vr : Value) (ts : List Int) (args : List (List Int)) (up rep : List Int) : Prop where
  s : LdSt W w.heap.size g vl vt va vu vr ts args up rep
  b : Below w.heap.size w W
section
variable {w W W' : World} {g : Nat} {vl vt va vu vr : Value} {ts : List Int} {args : List (List Int)} {up rep : List Int}
theorem LxSt.below (h : LxSt w W g vl vt va vu vr ts args up rep) (hb : Below W.heap.size W W') : LxSt w W' g vl vt va vu vr ts args up rep := ⟨h.s.below hb, h.b.trans (hb.mono h.b.size)⟩
end
theorem variable_ok (P k wh : Nat) (ap : Bool) (a0 a2 a3 : Int) (W : World) (h0 : a0 = P) (h2 : a2 = wh) (h3 : a3 = k) (hb : P ≤ 5000 ∧ k ≤ 99 ∧ wh ≤ 1) :
    Calls Try.prog 125 #[.int .i64 a0, .bool ap, .int .i64 a2, .int .i64 a3] W fun e w' => e = .returned (.int .i64 ((P + 2 * k + (if ap = true then wh else 0) : Nat) : Int)) ∧ Drawn0 W w' := by
  subst h0 h2 h3
  have e1 : wrap64 (2 * (k : Int)) = 2 * (k : Int) := wrap_id (by omega) (by omega)
  have e2 : wrap64 ((P : Int) + 2 * (k : Int)) = (P : Int) + 2 * (k : Int) := wrap_id (by omega) (by omega)
  have e3 : wrap64 ((P : Int) + 2 * (k : Int) + (wh : Int)) = (P : Int) + 2 * (k : Int) + (wh : Int) := wrap_id (by omega) (by omega)
  refine ropewalkref06_variable.calls _ _ _ _ _ _ ?_
  unfold ropewalkref06_variable.f
  cases ap
  · rw [if_neg (by decide), if_neg (by decide), e1, e2]; simp
  · rw [if_pos rfl, if_pos rfl, e1, e2, e3]; simp
def offW (A B : List Int) (k : Nat) : Nat := if k = 0 then 0 else if k = 1 then A.length else A.length + B.length
/-- The term that is laid in round k. -/
structure Side (w : World) (l : List S89) (A B : List Int) (va0 vb0 : Value) (k off : Nat) (T : List Int) (AT : Option Addr) (cT : Nat) : Prop where
  cell : (#[va0, vb0] : Array Value)[k]? = some (.slice AT T.length cT)
  r : Kd.C (Kd.int .i64) w AT T.length T
  c : T.length ≤ cT
  ck : chk l T = 0
  oe : off = k * A.length
  o1 : offW A B k = off
  o2 : offW A B (k + 1) = off + T.length
  le : off ≤ A.length
  arg : ∀ i, i < T.length → argAB l A B (off + i) = (argsL l T i).map (· + off)
  tk : ∀ i, i < T.length → (A ++ B).take (off + i + 1) = (A ++ B).take (off + i) ++ [rd T i]
theorem take_snoc (xs : List Int) (i : Nat) (h : i < xs.length) : xs.take (i + 1) = xs.take i ++ [rd xs i] := by
  rw [List.take_add_one, List.getElem?_eq_getElem h]
  simp [rd, List.getD_eq_getElem?_getD, h]
theorem Side.get {w : World} {l : List S89} {A B : List Int} {A0 B0 : Option Addr} {ca cb : Nat} (hta : Kd.C (Kd.int .i64) w A0 A.length A) (htb : Kd.C (Kd.int .i64) w B0 B.length B) (hda : A.length ≤ ca) (hdb : B.length ≤ cb) (hca : chk l A = 0) (hcb : chk l B = 0) {k : Nat} (hk : k < 2) :
    ∃ off T AT cT, Side w l A B (.slice A0 A.length ca) (.slice B0 B.length cb) k off T AT cT := by
  match k, hk with
  | 0, _ =>
    refine ⟨0, A, A0, ca, rfl, hta, hda, hca, by simp, rfl, by simp [offW], by omega, fun i hi => ?_, fun i hi => ?_⟩
    · rw [Nat.zero_add]; unfold argAB; rw [if_pos hi]; simp
    · rw [Nat.zero_add, take_snoc _ _ (by rw [List.length_append]; omega), rd_appl hi]
  | 1, _ =>
    refine ⟨A.length, B, B0, cb, rfl, htb, hdb, hcb, by simp, rfl, by simp [offW], Nat.le_refl _, fun i hi => ?_, fun i hi => ?_⟩
    · unfold argAB; rw [if_neg (by omega), Nat.add_sub_cancel_left]
    · rw [take_snoc _ _ (by rw [List.length_append]; omega), rd_appr (by omega), Nat.add_sub_cancel_left]
set_option maxRecDepth 100000 in
set_option maxHeartbeats 8000000 in
theorem laid_any (L0 : Option Addr) (cl : Nat) (l : List S89) (A0 B0 : Option Addr) (ca cb : Nat) (A B : List Int) (ap : Bool) (w : World) (hr : Kd.C k89 w L0 l.length l) (hc : l.length ≤ cl) (hl : GoodL l)
    (hta : Kd.C (Kd.int .i64) w A0 A.length A) (htb : Kd.C (Kd.int .i64) w B0 B.length B) (hda : A.length ≤ ca) (hdb : B.length ≤ cb) (hca : chk l A = 0) (hcb : chk l B = 0) :
    Calls Try.prog 109 #[.slice L0 l.length cl, .slice A0 A.length ca, .slice B0 B.length cb, .bool ap] w fun e w' => ∃ (g gu cu gr cr : Nat) (vt va : Value) (args : List (List Int)) (up rep : List Int), e = .returned (.pointer (some ⟨g, 0, none⟩)) ∧
      NSt w' w' w.heap.size g (.slice L0 l.length cl) vt va gu cu gr cr (A.length + B.length + 200) up rep ∧ NtOk w' w.heap.size vt va gu gr (A.length + B.length + 200) (A ++ B) args ∧ LaidOk l A B args rep ∧
      up.length = A.length + B.length + 200 ∧ (∀ x : Nat, x < A.length + B.length + 200 → rd up x = (rootAB A B ap x : Int)) ∧ Below w.heap.size w w' := by
  have hA2 := chk_len hca
  have hB2 := chk_len hcb
  have HR := Aside0.mk hr
  have HL := Aside0.mk hl
  have HTA := Aside0.mk hta
  have HTB := Aside0.mk htb
  have HCA := Aside0.mk hca
  have HCB := Aside0.mk hcb
  clear hr hl hta htb hca hcb
  go_enter Try.func109, Try.ntmps109
  go_wp2_with fail
  have H1 : Aside0 (LwSt w ((w.alloc (.cells #[.slice L0 l.length cl, .slice none 0 0, .slice none 0 0, .slice none 0 0, .slice none 0 0] 139)).alloc (.cells #[.slice A0 A.length ca, .slice B0 B.length cb] 25)) w.heap.size (w.heap.size + 1) (.slice L0 l.length cl) (.slice none 0 0) (.slice none 0 0) (.slice A0 A.length ca) (.slice B0 B.length cb) l A B (offW A B 0)) :=
    ⟨(LdSt.start w _).below (below_alloc (Below.refl _ _) _), below_alloc (below_alloc (Below.refl _ _) _) _, (two_new w _ _).2⟩
  go_loopg [12] 2 (fun m a wr => ∃ (k : Nat) (vt va : Value), a = .int .i64 k ∧ k ≤ 2 ∧ Aside0 (m = 2 - k) ∧ Aside0 (LwSt w wr w.heap.size (w.heap.size + 1) (.slice L0 l.length cl) vt va (.slice A0 A.length ca) (.slice B0 B.length cb) l A B (offW A B k)))
  case atStart => exact ⟨0, _, _, rfl, by omega, ⟨rfl⟩, H1⟩
  case round =>
    clear H1
    obtain ⟨k, vt, va, rfl, hk, HM, HS⟩ := hrel
    by_cases hk2 : k < 2
    · obtain ⟨off, T, AT, cT, hT⟩ := Side.get HTA.out HTB.out hda hdb HCA.out HCB.out hk2
      have HT := Aside0.mk hT
      have hoff : IntKind.i64.wrap ((k : Int) * (A.length : Int)) = (off : Int) := by
        have e := hT.oe
        have e2 : (k : Int) * (A.length : Int) = (off : Int) := by rw [e]; simp
        have := hT.le
        rw [e2, i64_w]; exact wrap_id (by omega) (by omega)
      have e0 : decide ((k : Int) < 2) = true := decide_eq_true (by omega)
      have HK := Aside0.mk hk2
      have hk0 : (0 : Int) ≤ (k : Int) := by omega
      have hk3 : (k : Int) < 2 := by omega
      have hT2 : T.length ≤ 2000 := chk_len hT.ck
      have hoff2 : off ≤ 2000 := by have := hT.le; omega
      clear hT hk2
      go_wp2_with fail
      clear hoff
      obtain ⟨wo, hwo⟩ : ∃ wo : World, wo = wr := ⟨_, rfl⟩
      go_loopg [14] T.length (fun m a wr => ∃ (i : Nat) (vt va : Value), a = .int .i64 i ∧ i ≤ T.length ∧ Aside0 (m = T.length - i) ∧ Aside0 (LwSt w wr w.heap.size (w.heap.size + 1) (.slice L0 l.length cl) vt va (.slice A0 A.length ca) (.slice B0 B.length cb) l A B (off + i)))
      case atStart => exact ⟨0, vt, va, rfl, by omega, ⟨rfl⟩, ⟨by have h := HS.out; rw [HT.out.o1] at h; exact h⟩⟩
      case round =>
        clear HS
        obtain ⟨i, vt, va, rfl, hi, HMI, HS⟩ := hrel
        have hcl := HS.out.side HT.out.cell
        by_cases hlt : i < T.length
        · have hlw : Below w.heap.size w wr := HS.out.b
          have hplc : plc l T (i : Int) = 0 := by unfold plc; rw [if_pos HT.out.ck, if_neg (by omega), if_neg (by omega)]
          have HP := Aside0.mk hplc
          have HI := Aside0.mk hlt
          clear hplc
          go_wp2_with fail
          refine (refArgs_ok L0 cl l AT T.length cT T i wr (Kd.C_below HR.out hlw) hc HL.out (Kd.C_below HT.out.r hlw) HT.out.c HP.out).mono ?_
          rintro e w2 ⟨v2, rfl, hr2, hb2⟩
          have HR2 := Aside0.mk hr2
          have HB2 := Aside0.mk hb2
          clear hr2 hb2 hcl e0 hlt hlw
          obtain ⟨A2, c2, ev⟩ := Kd.R_slice HR2.out
          subst ev
          go_wp2_with fail
          obtain ⟨xs, hxs⟩ : ∃ xs, xs = argsL l T i := ⟨_, rfl⟩
          rw [← hxs] at HR2 ⊢
          have hx6 : xs.length ≤ 6 := by
            rw [hxs, (subL_sym HL.out (chk_ter HL.out HT.out.ck) HI.out).2.2]
            have := ar_bd HL.out (rd T i)
            have := an_ar HL.out (rd T i)
            omega
          have hxb : ∀ x ∈ xs, x < 2000 := fun x hx => by
            rw [hxs] at hx
            have := argsL_le HL.out (chk_ter HL.out HT.out.ck) HI.out x hx
            omega
          have HXS := Aside0.mk hxs
          have HXB := Aside0.mk hxb
          have hlen : (toI xs).length = xs.length := toI_length xs
          have HF : Aside0 (FrSt wr w2 (.slice A2 xs.length c2) (shI off xs 0)) := ⟨by rw [shI_zero, ← hlen]; exact HR2.out, HB2.out⟩
          rw [hlen]
          clear hxs hxb hlen HR2 HB2
          obtain ⟨w1, hw1⟩ : ∃ w1 : World, w1 = wr := ⟨_, rfl⟩
          rw [← hw1] at HF HS
          clear hw1 hwo
          go_loopg [16] xs.length (fun m a wr => ∃ (j : Nat), a = .int .i64 j ∧ j ≤ xs.length ∧ Aside0 (m = xs.length - j) ∧ Aside0 (FrSt w1 wr (.slice A2 xs.length c2) (shI off xs j)))
          case atStart => exact ⟨0, rfl, by omega, ⟨rfl⟩, HF⟩
          case round =>
            clear HF
            obtain ⟨j, rfl, hj, HMJ, HF⟩ := hrel
            by_cases hjl : j < xs.length
            · obtain ⟨g2, c2', e, _, _⟩ := Kd.R_form HF.out.r (by rw [shI_len]; omega)
              rw [shI_len] at e
              cases e
              obtain ⟨y, hy⟩ : ∃ y : Nat, y = xs.getD j 0 := ⟨_, rfl⟩
              have hyb : y < 2000 := by rw [hy]; exact HXB.out _ (getD_mem hjl)
              obtain ⟨d0, f0⟩ := cell_row HF.out.r hjl (x := (y : Int)) (by rw [shI_at _ _ hjl, hy])
              have HF2 : Aside0 (FrSt w1 (wr.setCell ⟨g2, j, none⟩ (.int .i64 ((y : Int) + (off : Int)))) (.slice (some ⟨g2, 0, none⟩) xs.length c2) (shI off xs (j + 1))) :=
                ⟨by have h := (Kd.R_putg HF.out.r (j : Int) ((y : Int) + (off : Int))).1; rw [Int.toNat_natCast] at h; rw [← shI_set off xs hjl, ← hy]; exact h, HF.out.b.setCell (p := ⟨g2, j, none⟩) (Kd.R_base HF.out.r g2 rfl) _⟩
              have hjj := hjl
              clear hy
              go_wp2_with fail
              go_roundg (xs.length - (j + 1))
              case measure => have := HMJ.out; omega
              case rel => exact ⟨j + 1, by go_num, by omega, ⟨rfl⟩, HF2⟩
            · obtain rfl : j = xs.length := by omega
              go_wp2_with fail
              obtain ⟨w3, rfl⟩ : ∃ w3 : World, w3 = wr := ⟨_, rfl⟩
              have HRW : Aside0 (Kd.R (Kd.int .i64) 3 w3 w1.heap.size (fun k => w1.heap.size ≤ k ∧ some k ≠ vt.ownBlock) (.slice A2 xs.length c2) (toI (xs.map (· + off)))) :=
                ⟨by rw [← shI_all]; exact Kd.R_mono (Kd.R_bound HF.out.r) (fun k hk => ⟨hk.2.1, fun e => by have := Kd.R_lt HS.out.s.t k e.symm; omega⟩)⟩
              have HW1 : Aside0 (w.heap.size < w1.heap.size) := ⟨blk_lt HS.out.s.blk⟩
              have HVA : Aside0 (∀ k, va.ownBlock = some k → k < w1.heap.size) := ⟨fun k hk => Kd.R_lt HS.out.s.a k hk⟩
              replace HS := Aside0.mk (HS.out.below HF.out.b)
              clear HF
              have HD := Aside0.mk HS.out.s
              have HB := Aside0.mk HS.out.b
              have HBO := Aside0.mk HS.out.both
              have c1 := HS.out.side HT.out.cell
              obtain ⟨dT, eT, hx⟩ := int_at (Kd.C_below HT.out.r HB.out) i HI.out
              subst eT
              obtain ⟨_, c0, _⟩ := HD.out.cells
              obtain ⟨ts, hts⟩ : ∃ ts, ts = (A ++ B).take (off + i) := ⟨_, rfl⟩
              have htl : ts.length ≤ 4000 := by rw [hts, List.length_take, List.length_append]; omega
              rw [← hts] at HD
              have HTS := Aside0.mk hts
              obtain ⟨At, ct, evt⟩ := Kd.R_slice HD.out.t
              subst evt
              clear HS hts
              have hb4 : w.heap.size ≤ w3.drew.heap.size := HB.out.size
              have hi2 : (i : Int) < (T.length : Int) := by have := HI.out; omega
              have hi0 : (0 : Int) ≤ (i : Int) := by omega
              refine start_ (n := 17) (S := fun w' => w'.cell? ⟨w.heap.size, 1, none⟩ = some (.slice At ts.length ct) ∧ w'.cell? ⟨w.heap.size + 1, k, none⟩ = some (.slice (some dT) T.length cT) ∧ w'.cell? (dT.add i) = some (.int .i64 (rd T i))) (ds := [16]) #[false, false, false, false, false, false, false, false, false, false, false, false, false, false, false, false, false] (by kernel_rfl) rfl rfl ⟨c0, c1, hx⟩ (fun hHeld => ?_)
              replace HD : Aside0 (LdSt w3.drew w.heap.size w.heap.size (.slice L0 l.length cl) (.slice At ts.length ct) va (.slice none 0 0) (.slice none 0 0) ts (rowsAB l A B (off + i)) [] []) := ⟨HD.out.below (below_drew (Below.refl _ _))⟩
              replace HB : Aside0 (Below w.heap.size w w3.drew) := ⟨HB.out.drew⟩
              replace HBO : Aside0 (w3.drew.heap[w.heap.size + 1]? = some (.cells #[.slice A0 A.length ca, .slice B0 B.length cb] 25 (0, 0))) := ⟨HBO.out⟩
              replace HRW : Aside0 (Kd.R (Kd.int .i64) 3 w3.drew w1.heap.size (fun k => w1.heap.size ≤ k ∧ some k ≠ (Value.slice At ts.length ct).ownBlock) (.slice A2 xs.length c2) (toI (xs.map (· + off)))) := ⟨HRW.out⟩
              generalize w3.drew = w4 at *
              clear c0 c1 hx
              refine pure_ (i := 0) (N := some 70) (v := ?_) (a' := ?_) #[true, false, false, false, false, false, false, false, false, false, false, false, false, false, false, false, false] rfl rfl (by kernel_rfl) (fun _ _ _ h => h) (Or.inl ⟨by rfl, ?_⟩) ?_ ?_
              rotate_left
              · intro w'
                go_simp
                with_reducible rfl
              rotate_left
              · simp only [Act.put, List.setIfInBounds_toArray, List.set_cons_zero, List.set_cons_succ, i64_w, i32_w]
                rfl
              refine pure_ (i := 1) (N := some 71) (v := ?_) (a' := ?_) #[true, true, false, false, false, false, false, false, false, false, false, false, false, false, false, false, false] rfl rfl (by kernel_rfl) (fun _ _ _ h => h) (Or.inl ⟨by rfl, ?_⟩) ?_ ?_
              rotate_left
              · intro w'
                go_simp
                with_reducible rfl
              rotate_left
              · simp only [Act.put, List.setIfInBounds_toArray, List.set_cons_zero, List.set_cons_succ, i64_w, i32_w]
                rfl
              refine pure_ (i := 2) (N := some 72) (v := ?_) (a' := ?_) #[true, true, true, false, false, false, false, false, false, false, false, false, false, false, false, false, false] rfl rfl (by kernel_rfl) (fun _ _ _ h => h) (Or.inl ⟨by rfl, ?_⟩) ?_ ?_
              rotate_left
              · intro w'
                go_simp
                with_reducible rfl
              rotate_left
              · simp only [Act.put, List.setIfInBounds_toArray, List.set_cons_zero, List.set_cons_succ, i64_w, i32_w]
                rfl
              refine pure_ (i := 3) (N := some 73) (v := ?_) (a' := ?_) #[true, true, true, true, false, false, false, false, false, false, false, false, false, false, false, false, false] rfl rfl (by kernel_rfl) (fun _ _ _ h => h) (Or.inl ⟨by rfl, ?_⟩) ?_ ?_
              rotate_left
              · intro w'
                go_simp
                with_reducible rfl
              rotate_left
              · simp only [Act.put, List.setIfInBounds_toArray, List.set_cons_zero, List.set_cons_succ, i64_w, i32_w]
                rfl
              refine pure_ (i := 5) (N := some 75) (v := ?_) (a' := ?_) #[true, true, true, true, false, true, false, false, false, false, false, false, false, false, false, false, false] rfl rfl (by kernel_rfl) (fun _ _ _ h => h) (Or.inl ⟨by rfl, ?_⟩) ?_ ?_
              rotate_left
              · intro w'
                go_simp
                with_reducible rfl
              rotate_left
              · simp only [Act.put, List.setIfInBounds_toArray, List.set_cons_zero, List.set_cons_succ, i64_w, i32_w]
                rfl
              refine pure_ (i := 6) (N := some 76) (v := ?_) (a' := ?_) #[true, true, true, true, false, true, true, false, false, false, false, false, false, false, false, false, false] rfl rfl (by kernel_rfl) (fun _ _ _ h => h) (Or.inl ⟨by rfl, ?_⟩) ?_ ?_
              rotate_left
              · intro w'
                go_simp
                with_reducible rfl
              rotate_left
              · simp only [Act.put, List.setIfInBounds_toArray, List.set_cons_zero, List.set_cons_succ, i64_w, i32_w]
                rfl
              refine pure_ (i := 7) (N := some 77) (v := ?_) (a' := ?_) #[true, true, true, true, false, true, true, true, false, false, false, false, false, false, false, false, false] rfl rfl (by kernel_rfl) (fun _ _ _ h => h) (Or.inl ⟨by rfl, ?_⟩) ?_ ?_
              rotate_left
              · intro w'
                go_simp
                with_reducible rfl
              rotate_left
              · simp only [Act.put, List.setIfInBounds_toArray, List.set_cons_zero, List.set_cons_succ, i64_w, i32_w]
                rfl
              refine pure_ (i := 9) (N := some 79) (v := ?_) (a' := ?_) #[true, true, true, true, false, true, true, true, false, true, false, false, false, false, false, false, false] rfl rfl (by kernel_rfl) (fun _ _ _ h => h) (Or.inl ⟨by rfl, ?_⟩) ?_ ?_
              rotate_left
              · intro w'
                go_simp
                with_reducible rfl
              rotate_left
              · simp only [Act.put, List.setIfInBounds_toArray, List.set_cons_zero, List.set_cons_succ, i64_w, i32_w]
                rfl
              refine take_ (i := 4) (N := some 74) (v := ?_) (a' := ?_) #[true, true, true, true, true, true, true, true, false, true, false, false, false, false, false, false, false] rfl rfl (by kernel_rfl) (fun _ _ _ h => h) (Or.inl ⟨by rfl, ?_⟩) hHeld ?_ ?_
              rotate_left
              · rintro w' ⟨s0, s1, s2⟩
                go_simp
                with_reducible rfl
              rotate_left
              · simp only [Act.put, List.setIfInBounds_toArray, List.set_cons_zero, List.set_cons_succ, i64_w, i32_w]
                rfl
              refine take_ (i := 8) (N := some 78) (v := ?_) (a' := ?_) #[true, true, true, true, true, true, true, true, true, true, false, false, false, false, false, false, false] rfl rfl (by kernel_rfl) (fun _ _ _ h => h) (Or.inl ⟨by rfl, ?_⟩) hHeld ?_ ?_
              rotate_left
              · rintro w' ⟨s0, s1, s2⟩
                go_simp
                with_reducible rfl
              rotate_left
              · simp only [Act.put, List.setIfInBounds_toArray, List.set_cons_zero, List.set_cons_succ, i64_w, i32_w]
                rfl
              refine pure_ (i := 10) (N := some 80) (v := ?_) (a' := ?_) #[true, true, true, true, true, true, true, true, true, true, true, false, false, false, false, false, false] rfl rfl (by kernel_rfl) (fun _ _ _ h => h) (Or.inl ⟨by rfl, ?_⟩) ?_ ?_
              rotate_left
              · intro w'
                go_simp
                with_reducible rfl
              rotate_left
              · simp only [Act.put, List.setIfInBounds_toArray, List.set_cons_zero, List.set_cons_succ, i64_w, i32_w]
                rfl
              refine take_ (i := 11) (N := some 81) (v := ?_) (a' := ?_) #[true, true, true, true, true, true, true, true, true, true, true, true, false, false, false, false, false] rfl rfl (by kernel_rfl) (fun _ _ _ h => h) (Or.inl ⟨by rfl, ?_⟩) hHeld ?_ ?_
              rotate_left
              · rintro w' ⟨s0, s1, s2⟩
                go_simp
                with_reducible rfl
              rotate_left
              · simp only [Act.put, List.setIfInBounds_toArray, List.set_cons_zero, List.set_cons_succ, i64_w, i32_w]
                rfl
              refine one_ (i := 12) (N := some 82) #[true, true, true, true, true, true, true, true, true, true, true, true, true, false, false, false, false] rfl rfl (by kernel_rfl) (by decide) (fun K hK => ?_)
              refine value_ (w1 := ?_) (v := ?_) (by rfl) rfl ?_ ?_
              rotate_left 2
              · go_simp
                constructor
                · rfl
                · rfl
              refine hK.out _ _ ⟨(cell_alloc hHeld.1 _), (cell_alloc hHeld.2.1 _), (cell_alloc hHeld.2.2 _)⟩ (fun hHeld => ?_)
              clear hK K
              refine norm_ (a' := ?_) ?_ ?_
              rotate_left
              · show Act.put _ (some 82) _ = _
                simp only [Act.put, List.setIfInBounds_toArray, List.set_cons_zero, List.set_cons_succ, i64_w, i32_w]
                rfl
              refine one_ (i := 13) (N := some 83) #[true, true, true, true, true, true, true, true, true, true, true, true, true, true, false, false, false] rfl rfl (by kernel_rfl) (by decide) (fun K hK => ?_)
              refine Kd.R_append_step (W := w4) (Kd.int .i64) (w0 := w4) w.heap.size (by rfl) (.tmp 74) (.tmp 82) 24 3 (.int .i64 0) 8 (by rfl) Try.underlying24 info3 rfl (by decide) (by omega) (.slice At ts.length ct) ts (rd T i) [.int .i64 (rd T i)] (fun _ => True) (fun _ => False) (by rfl) (by rfl) rfl (fun _ hk => hk.elim) (fun _ _ => trivial) HD.out.t (Below.refl _ _) hb4 (by omega) ?_
              intro v5 w5 ho5 hb5 hg5 hat5
              have hG5 := blk_grown HD.out.blk hg5 (Kd.R_ne HD.out.t HD.out.blk (by decide))
              have HBO5 := Aside0.mk (blk_grown HBO.out hg5 (Kd.R_ne HD.out.t HBO.out (by decide)))
              have c05 := cell_of_row w5 w.heap.size 1 _ _ _ hG5
              have f05 := frozen_of_row hG5 1
              have c15 := (cell_of_row w5 (w.heap.size + 1) k _ _ _ HBO5.out).trans HT.out.cell
              have HB5 := Aside0.mk (HB.out.trans hb5)
              obtain ⟨_, e5, hx5⟩ := int_at (Kd.C_below HT.out.r HB5.out) i HI.out
              cases e5
              have HD6 := Aside0.mk (HD.out.appT ho5 hg5 hat5)
              have HRW5 := Aside0.mk (Kd.R_after HRW.out hg5 hat5)
              obtain ⟨A5, c5, e5⟩ := Kd.R_slice ho5
              subst e5
              rw [List.length_append, List.length_singleton] at ho5 hat5 HD6 HRW5 ⊢
              simp at c05
              refine hK.out _ _ ⟨c05, c15, hx5⟩ (fun hHeld => ?_)
              clear hK K
              refine norm_ (a' := ?_) ?_ ?_
              rotate_left
              · show Act.put _ (some 83) _ = _
                simp only [Act.put, List.setIfInBounds_toArray, List.set_cons_zero, List.set_cons_succ, i64_w, i32_w]
                rfl
              refine pure_ (i := 14) (N := some 84) (v := ?_) (a' := ?_) #[true, true, true, true, true, true, true, true, true, true, true, true, true, true, true, false, false] rfl rfl (by kernel_rfl) (fun _ _ _ h => h) (Or.inl ⟨by rfl, ?_⟩) ?_ ?_
              rotate_left
              · intro w'
                go_simp
                with_reducible rfl
              rotate_left
              · simp only [Act.put, List.setIfInBounds_toArray, List.set_cons_zero, List.set_cons_succ, i64_w, i32_w]
                rfl
              refine pure_ (i := 15) (N := some 85) (v := ?_) (a' := ?_) #[true, true, true, true, true, true, true, true, true, true, true, true, true, true, true, true, false] rfl rfl (by kernel_rfl) (fun _ _ _ h => h) (Or.inl ⟨by rfl, ?_⟩) ?_ ?_
              rotate_left
              · intro w'
                go_simp
                with_reducible rfl
              rotate_left
              · simp only [Act.put, List.setIfInBounds_toArray, List.set_cons_zero, List.set_cons_succ, i64_w, i32_w]
                rfl
              refine last_ (i := 16) (N := none) #[true, true, true, true, true, true, true, true, true, true, true, true, true, true, true, true, true] rfl rfl (by kernel_rfl) (by decide) (fun K hK => ?_)
              refine skip_ (w1 := ?_) (by rfl) rfl ?_ ?_
              rotate_left
              · go_simp
                rfl
              refine hK.out _ _ ?_
              clear hK K
              refine done_ (by kernel_rfl) ?_
              go_upto_region 17 with fail
              have HB6 : Aside0 (Below w.heap.size w (w5.setCell ⟨w.heap.size, 1, none⟩ (.slice A5 (ts.length + 1) c5))) := ⟨HB5.out.setCell (p := ⟨w.heap.size, 1, none⟩) (Nat.le_refl _) _⟩
              have HBO6 := Aside0.mk (blk_far HBO5.out (p := ⟨w.heap.size, 1, none⟩) (by show w.heap.size + 1 ≠ w.heap.size; omega) (.slice A5 (ts.length + 1) c5))
              have HRW6 := Aside0.mk (Kd.R_far HRW5.out (p := ⟨w.heap.size, 1, none⟩) (fun k hk => by have := HW1.out; show k ≠ w.heap.size; omega) (.slice A5 (ts.length + 1) c5))
              obtain ⟨w6, hw6⟩ : ∃ w6, w6 = w5.setCell ⟨w.heap.size, 1, none⟩ (.slice A5 (ts.length + 1) c5) := ⟨_, rfl⟩
              rw [← hw6] at HD6 HB6 HBO6 HRW6 ⊢
              clear hw6 c05 c15 f05 hx5 hHeld ho5 hat5 HB5 HBO5 HRW5 hG5 HD HB HBO HRW hb5 hg5
              obtain ⟨_, _, c2', _⟩ := HD6.out.cells
              obtain ⟨Aa, cA, eva⟩ := Kd.R_slice HD6.out.a
              subst eva
              have hrl : (rowsAB l A B (off + i)).length ≤ 4000 := by simp [rowsAB]; have := HI.out; omega
              have hb6 : w.heap.size ≤ (w6.alloc (.cells #[.slice A2 xs.length c2] 24)).heap.size := Nat.le_trans HB6.out.size (below_alloc (Below.refl w6.heap.size w6) _).size
              have hb6' : w.heap.size ≤ w6.heap.size := HB6.out.size
              generalize hrows : rowsAB l A B (off + i) = rows at *
              have HROWS := Aside0.mk hrows
              have hM : (Kd.slice 3 (Kd.int .i64)).M w6 w.heap.size (fun k => w1.heap.size ≤ k ∧ some k ≠ (Value.slice A5 (ts.length + 1) c5).ownBlock) (toI (xs.map (· + off))) [.slice A2 xs.length c2] := Kd.M_row (Kd.R_lower HRW6.out (Nat.le_of_lt HW1.out))
              have hOK : ∀ k, (w1.heap.size ≤ k ∧ some k ≠ (Value.slice A5 (ts.length + 1) c5).ownBlock) → ((some k ≠ (Value.slice none 0 0).ownBlock ∧ some k ≠ (Value.slice none 0 0).ownBlock) ∧ some k ≠ (Value.slice A5 (ts.length + 1) c5).ownBlock) ∧ some k ≠ (Value.slice Aa rows.length cA).ownBlock := fun k hk =>
                ⟨⟨⟨by simp [Value.ownBlock], by simp [Value.ownBlock]⟩, hk.2⟩, fun e => by have := HVA.out k e.symm; omega⟩
              clear hrows
              go_wp2_with (at_builtin; refine Kd.R_append (Kd.slice 3 (Kd.int .i64)) (w0 := w6) w.heap.size rfl (.tmp 90) (.tmp 92) 137 24 (.slice none 0 0) 24 rfl Try.underlying137 info24 rfl (by decide) (by omega) (.slice Aa rows.length cA) rows (toI (xs.map (· + off))) [.slice A2 xs.length c2] (fun k => (some k ≠ (Value.slice none 0 0).ownBlock ∧ some k ≠ (Value.slice none 0 0).ownBlock) ∧ some k ≠ (Value.slice A5 (ts.length + 1) c5).ownBlock) (fun k => w1.heap.size ≤ k ∧ some k ≠ (Value.slice A5 (ts.length + 1) c5).ownBlock) rfl rfl hM hOK (fun k hk => (HD6.out.fresh k hk).1) HD6.out.a (Below.refl _ _) hb6' (by omega) ?_; intro v7 w7 ho7 hb7 hg7 hat7; have hG7 := blk_grown HD6.out.blk hg7 (Kd.R_ne HD6.out.a HD6.out.blk (by decide)); have HBO7 := Aside0.mk (blk_grown HBO6.out hg7 (Kd.R_ne HD6.out.a HBO6.out (by decide))); have c27 := cell_of_row w7 w.heap.size 2 _ _ _ hG7; have f27 := frozen_of_row hG7 2; have HB7 := Aside0.mk (HB6.out.trans hb7); have HD8 := Aside0.mk (HD6.out.appA ho7 hg7); obtain ⟨A7, c7, e7⟩ := Kd.R_slice ho7; subst e7; rw [List.length_append, List.length_singleton] at HD8 ⊢; clear ho7 hb7 hg7 hat7 hG7; simp at c27)
              go_roundg (T.length - (i + 1))
              case measure => have := HMI.out; have := HI.out; omega
              case rel =>
                refine ⟨i + 1, .slice A5 (ts.length + 1) c5, .slice A7 (rows.length + 1) c7, by go_num, by have := HI.out; omega, ⟨rfl⟩, ⟨?_, HB7.out.setCell (p := ⟨w.heap.size, 2, none⟩) (Nat.le_refl _) _, blk_far HBO7.out (p := ⟨w.heap.size, 2, none⟩) (by show w.heap.size + 1 ≠ w.heap.size; omega) _⟩⟩
                rw [← Nat.add_assoc, HT.out.tk i HI.out, ← HTS.out, rowsAB_succ, HT.out.arg i HI.out, ← HXS.out, HROWS.out]
                exact HD8.out
        · obtain rfl : i = T.length := by omega
          go_wp2_with fail
          go_roundg (2 - (k + 1))
          case measure => have := HM.out; have := HK.out; omega
          case rel => exact ⟨k + 1, vt, va, by go_num, by have := HK.out; omega, ⟨rfl⟩, ⟨by rw [HT.out.o2]; exact HS.out⟩⟩
    · obtain rfl : k = 2 := by omega
      have HX0 : Aside0 (LxSt w wr w.heap.size (.slice L0 l.length cl) vt va (.slice none 0 0) (.slice none 0 0) (A ++ B) (rowsAB l A B (A.length + B.length)) [] []) := ⟨by
        have h := HS.out.s
        rw [show offW A B 2 = A.length + B.length from rfl, show (A ++ B).take (A.length + B.length) = A ++ B from by rw [← List.length_append, List.take_length]] at h
        exact h, HS.out.b⟩
      have HPA := Aside0.mk (And.intro (chk_ter HL.out HCA.out).pos (chk_ter HL.out HCB.out).pos)
      obtain ⟨gt, ct, evt, _, _⟩ := Kd.R_form HX0.out.s.t (by have := HPA.out; rw [List.length_append]; omega)
      subst evt
      clear HS HM
      have hP : (A ++ B).length = A.length + B.length := List.length_append
      obtain ⟨rows, hrows⟩ : ∃ rows, rows = rowsAB l A B (A.length + B.length) := ⟨_, rfl⟩
      rw [← hrows] at HX0
      have HRO := Aside0.mk hrows
      clear hrows
      go_wp2_with fail
      obtain ⟨wo, hwo⟩ : ∃ wo : World, wo = wr := ⟨_, rfl⟩
      go_loopg [17] (A.length + B.length + 200) (fun m a wr => ∃ (i : Nat) (vu vr : Value), a = .int .i64 i ∧ i ≤ A.length + B.length + 200 ∧ Aside0 (m = A.length + B.length + 200 - i) ∧ Aside0 (LxSt w wr w.heap.size (.slice L0 l.length cl) (.slice (some ⟨gt, 0, none⟩) (A ++ B).length ct) va vu vr (A ++ B) rows (idN i) (repN (A ++ B) i)))
      case atStart => exact ⟨0, _, _, rfl, by omega, ⟨rfl⟩, HX0⟩
      case round =>
        clear HX0
        obtain ⟨i, vu, vr, rfl, hi, HMI, HX⟩ := hrel
        obtain ⟨Au, cu, e⟩ := Kd.R_slice HX.out.s.u
        rw [idN_len] at e
        subst e
        obtain ⟨Ar, cr, e⟩ := Kd.R_slice HX.out.s.r
        rw [repN_len] at e
        subst e
        have HMI2 := HMI
        by_cases hlt : i < A.length + B.length + 200
        · have e0 : decide ((i : Int) < (A.length : Int) + (B.length : Int) + 200) = true := decide_eq_true (by omega)
          obtain ⟨_, _, _, c3, _⟩ := HX.out.s.cells
          have hb1 : w.heap.size ≤ wr.heap.size := HX.out.b.size
          have hul : (idN i).length ≤ 5000 := by rw [idN_len]; omega
          have hrl : (repN (A ++ B) i).length ≤ 5000 := by rw [repN_len]; omega
          have HI := Aside0.mk hlt
          by_cases hip : i < A.length + B.length
          · have e1 : decide ((i : Int) < (A.length : Int) + (B.length : Int)) = true := decide_eq_true (by omega)
            by_cases hs : 0 ≤ rd (A ++ B) i
            · have e2 : decide (0 ≤ rd (A ++ B) i) = true := decide_eq_true hs
              have HRN : Aside0 (repN (A ++ B) (i + 1) = repN (A ++ B) i ++ [(i : Int)]) := ⟨by rw [repN_succ, if_pos ⟨by rw [hP]; exact hip, hs⟩]⟩
              clear hs
              go_upto_region 22 with (at_builtin; refine Kd.R_append (Kd.int .i64) (w0 := wr) w.heap.size rfl (.tmp 106) (.tmp 108) 24 3 (.int .i64 0) 8 rfl Try.underlying24 info3 rfl (by decide) (by omega) (.slice Au i cu) (idN i) (i : Int) [.int .i64 (i : Int)] (fun _ => True) (fun _ => False) rfl rfl rfl (fun _ hk => hk.elim) (fun _ _ => trivial) HX.out.s.u (Below.refl _ _) hb1 (by omega) ?_; intro v5 w5 ho5 hb5 hg5 hat5; have hG5 := blk_grown HX.out.s.blk hg5 (Kd.R_ne HX.out.s.u HX.out.s.blk (by decide)); have c35 := cell_of_row w5 w.heap.size 3 _ _ _ hG5; have f35 := frozen_of_row hG5 3; have HX6 : Aside0 (LxSt w (w5.setCell ⟨w.heap.size, 3, none⟩ v5) w.heap.size (.slice L0 l.length cl) (.slice (some ⟨gt, 0, none⟩) (A ++ B).length ct) va v5 (.slice Ar i cr) (A ++ B) rows (idN (i + 1)) (repN (A ++ B) i)) := ⟨by rw [idN_succ]; exact HX.out.s.appU ho5 hg5 hat5, (HX.out.b.trans hb5).setCell (p := ⟨w.heap.size, 3, none⟩) (Nat.le_refl _) _⟩; obtain ⟨A5, c5, e5⟩ := Kd.R_slice ho5; subst e5; rw [List.length_append, List.length_singleton, idN_len] at HX6 ⊢; obtain ⟨_, d1, _, _, d4⟩ := HX6.out.s.cells; have d5 := (cell_row HX6.out.s.t (i := i) (by rw [hP]; exact hip) rfl).1; have hb6 := HX6.out.b.size; clear ho5 hb5 hg5 hat5 hG5; simp at c35)
              obtain ⟨w6, hw6⟩ : ∃ w6, w6 = w5.setCell ⟨w.heap.size, 3, none⟩ (.slice A5 (i + 1) c5) := ⟨_, rfl⟩
              rw [← hw6] at HX6 hb6 d1 d4 d5 ⊢
              clear hw6 f35 c35
              go_wp2_with (at_builtin; refine Kd.R_append (Kd.int .i64) (w0 := w6) w.heap.size rfl (.tmp 129) (.tmp 131) 24 3 (.int .i64 0) 8 rfl Try.underlying24 info3 rfl (by decide) (by omega) (.slice Ar i cr) (repN (A ++ B) i) (i : Int) [.int .i64 (i : Int)] (fun _ => True) (fun _ => False) rfl rfl rfl (fun _ hk => hk.elim) (fun _ _ => trivial) HX6.out.s.r (Below.refl _ _) hb6 (by omega) ?_; intro v7 w7 ho7 hb7 hg7 hat7; have hG7 := blk_grown HX6.out.s.blk hg7 (Kd.R_ne HX6.out.s.r HX6.out.s.blk (by decide)); have c47 := cell_of_row w7 w.heap.size 4 _ _ _ hG7; have f47 := frozen_of_row hG7 4; have HX8 : Aside0 (LxSt w (w7.setCell ⟨w.heap.size, 4, none⟩ v7) w.heap.size (.slice L0 l.length cl) (.slice (some ⟨gt, 0, none⟩) (A ++ B).length ct) va (.slice A5 (i + 1) c5) v7 (A ++ B) rows (idN (i + 1)) (repN (A ++ B) (i + 1))) := ⟨by rw [HRN.out]; exact HX6.out.s.appR ho7 hg7 hat7, (HX6.out.b.trans hb7).setCell (p := ⟨w.heap.size, 4, none⟩) (Nat.le_refl _) _⟩; obtain ⟨A7, c7, e7⟩ := Kd.R_slice ho7; subst e7; rw [List.length_append, List.length_singleton, repN_len] at HX8 ⊢; clear ho7 hb7 hg7 hat7 hG7; simp at c47)
              go_roundg (A.length + B.length + 200 - (i + 1))
              case measure => have := HI.out; have := HMI.out; omega
              case rel => exact ⟨i + 1, .slice A5 (i + 1) c5, .slice A7 (i + 1) c7, by go_num, by have := HI.out; omega, ⟨rfl⟩, HX8⟩
            · have e2 : decide (0 ≤ rd (A ++ B) i) = false := decide_eq_false hs
              have HRN : Aside0 (repN (A ++ B) (i + 1) = repN (A ++ B) i ++ [-1]) := ⟨by rw [repN_succ, if_neg (fun h => hs h.2)]⟩
              clear hs
              go_upto_region 22 with (at_builtin; refine Kd.R_append (Kd.int .i64) (w0 := wr) w.heap.size rfl (.tmp 106) (.tmp 108) 24 3 (.int .i64 0) 8 rfl Try.underlying24 info3 rfl (by decide) (by omega) (.slice Au i cu) (idN i) (i : Int) [.int .i64 (i : Int)] (fun _ => True) (fun _ => False) rfl rfl rfl (fun _ hk => hk.elim) (fun _ _ => trivial) HX.out.s.u (Below.refl _ _) hb1 (by omega) ?_; intro v5 w5 ho5 hb5 hg5 hat5; have hG5 := blk_grown HX.out.s.blk hg5 (Kd.R_ne HX.out.s.u HX.out.s.blk (by decide)); have c35 := cell_of_row w5 w.heap.size 3 _ _ _ hG5; have f35 := frozen_of_row hG5 3; have HX6 : Aside0 (LxSt w (w5.setCell ⟨w.heap.size, 3, none⟩ v5) w.heap.size (.slice L0 l.length cl) (.slice (some ⟨gt, 0, none⟩) (A ++ B).length ct) va v5 (.slice Ar i cr) (A ++ B) rows (idN (i + 1)) (repN (A ++ B) i)) := ⟨by rw [idN_succ]; exact HX.out.s.appU ho5 hg5 hat5, (HX.out.b.trans hb5).setCell (p := ⟨w.heap.size, 3, none⟩) (Nat.le_refl _) _⟩; obtain ⟨A5, c5, e5⟩ := Kd.R_slice ho5; subst e5; rw [List.length_append, List.length_singleton, idN_len] at HX6 ⊢; obtain ⟨_, d1, _, _, d4⟩ := HX6.out.s.cells; have d5 := (cell_row HX6.out.s.t (i := i) (by rw [hP]; exact hip) rfl).1; have hb6 := HX6.out.b.size; clear ho5 hb5 hg5 hat5 hG5; simp at c35)
              obtain ⟨w6, hw6⟩ : ∃ w6, w6 = w5.setCell ⟨w.heap.size, 3, none⟩ (.slice A5 (i + 1) c5) := ⟨_, rfl⟩
              rw [← hw6] at HX6 hb6 d1 d4 d5 ⊢
              clear hw6 f35 c35
              go_wp2_with (at_builtin; refine Kd.R_append (Kd.int .i64) (w0 := w6) w.heap.size rfl (.tmp 139) (.tmp 140) 24 3 (.int .i64 0) 8 rfl Try.underlying24 info3 rfl (by decide) (by omega) (.slice Ar i cr) (repN (A ++ B) i) (-1) [.int .i64 (-1)] (fun _ => True) (fun _ => False) rfl rfl rfl (fun _ hk => hk.elim) (fun _ _ => trivial) HX6.out.s.r (Below.refl _ _) hb6 (by omega) ?_; intro v7 w7 ho7 hb7 hg7 hat7; have hG7 := blk_grown HX6.out.s.blk hg7 (Kd.R_ne HX6.out.s.r HX6.out.s.blk (by decide)); have c47 := cell_of_row w7 w.heap.size 4 _ _ _ hG7; have f47 := frozen_of_row hG7 4; have HX8 : Aside0 (LxSt w (w7.setCell ⟨w.heap.size, 4, none⟩ v7) w.heap.size (.slice L0 l.length cl) (.slice (some ⟨gt, 0, none⟩) (A ++ B).length ct) va (.slice A5 (i + 1) c5) v7 (A ++ B) rows (idN (i + 1)) (repN (A ++ B) (i + 1))) := ⟨by rw [HRN.out]; exact HX6.out.s.appR ho7 hg7 hat7, (HX6.out.b.trans hb7).setCell (p := ⟨w.heap.size, 4, none⟩) (Nat.le_refl _) _⟩; obtain ⟨A7, c7, e7⟩ := Kd.R_slice ho7; subst e7; rw [List.length_append, List.length_singleton, repN_len] at HX8 ⊢; clear ho7 hb7 hg7 hat7 hG7; simp at c47)
              go_roundg (A.length + B.length + 200 - (i + 1))
              case measure => have := HI.out; have := HMI.out; omega
              case rel => exact ⟨i + 1, .slice A5 (i + 1) c5, .slice A7 (i + 1) c7, by go_num, by have := HI.out; omega, ⟨rfl⟩, HX8⟩
          · have e1 : decide ((i : Int) < (A.length : Int) + (B.length : Int)) = false := decide_eq_false (by omega)
            have HRN : Aside0 (repN (A ++ B) (i + 1) = repN (A ++ B) i ++ [-1]) := ⟨by rw [repN_succ, if_neg (fun h => hip (by rw [← hP]; exact h.1))]⟩
            go_upto_region 22 with (at_builtin; refine Kd.R_append (Kd.int .i64) (w0 := wr) w.heap.size rfl (.tmp 106) (.tmp 108) 24 3 (.int .i64 0) 8 rfl Try.underlying24 info3 rfl (by decide) (by omega) (.slice Au i cu) (idN i) (i : Int) [.int .i64 (i : Int)] (fun _ => True) (fun _ => False) rfl rfl rfl (fun _ hk => hk.elim) (fun _ _ => trivial) HX.out.s.u (Below.refl _ _) hb1 (by omega) ?_; intro v5 w5 ho5 hb5 hg5 hat5; have hG5 := blk_grown HX.out.s.blk hg5 (Kd.R_ne HX.out.s.u HX.out.s.blk (by decide)); have c35 := cell_of_row w5 w.heap.size 3 _ _ _ hG5; have f35 := frozen_of_row hG5 3; have HX6 : Aside0 (LxSt w (w5.setCell ⟨w.heap.size, 3, none⟩ v5) w.heap.size (.slice L0 l.length cl) (.slice (some ⟨gt, 0, none⟩) (A ++ B).length ct) va v5 (.slice Ar i cr) (A ++ B) rows (idN (i + 1)) (repN (A ++ B) i)) := ⟨by rw [idN_succ]; exact HX.out.s.appU ho5 hg5 hat5, (HX.out.b.trans hb5).setCell (p := ⟨w.heap.size, 3, none⟩) (Nat.le_refl _) _⟩; obtain ⟨A5, c5, e5⟩ := Kd.R_slice ho5; subst e5; rw [List.length_append, List.length_singleton, idN_len] at HX6 ⊢; obtain ⟨_, d1, _, _, d4⟩ := HX6.out.s.cells; have hb6 := HX6.out.b.size; clear ho5 hb5 hg5 hat5 hG5; simp at c35)
            obtain ⟨w6, hw6⟩ : ∃ w6, w6 = w5.setCell ⟨w.heap.size, 3, none⟩ (.slice A5 (i + 1) c5) := ⟨_, rfl⟩
            rw [← hw6] at HX6 hb6 d1 d4 ⊢
            clear hw6 f35 c35
            go_wp2_with (at_builtin; refine Kd.R_append (Kd.int .i64) (w0 := w6) w.heap.size rfl (.tmp 139) (.tmp 140) 24 3 (.int .i64 0) 8 rfl Try.underlying24 info3 rfl (by decide) (by omega) (.slice Ar i cr) (repN (A ++ B) i) (-1) [.int .i64 (-1)] (fun _ => True) (fun _ => False) rfl rfl rfl (fun _ hk => hk.elim) (fun _ _ => trivial) HX6.out.s.r (Below.refl _ _) hb6 (by omega) ?_; intro v7 w7 ho7 hb7 hg7 hat7; have hG7 := blk_grown HX6.out.s.blk hg7 (Kd.R_ne HX6.out.s.r HX6.out.s.blk (by decide)); have c47 := cell_of_row w7 w.heap.size 4 _ _ _ hG7; have f47 := frozen_of_row hG7 4; have HX8 : Aside0 (LxSt w (w7.setCell ⟨w.heap.size, 4, none⟩ v7) w.heap.size (.slice L0 l.length cl) (.slice (some ⟨gt, 0, none⟩) (A ++ B).length ct) va (.slice A5 (i + 1) c5) v7 (A ++ B) rows (idN (i + 1)) (repN (A ++ B) (i + 1))) := ⟨by rw [HRN.out]; exact HX6.out.s.appR ho7 hg7 hat7, (HX6.out.b.trans hb7).setCell (p := ⟨w.heap.size, 4, none⟩) (Nat.le_refl _) _⟩; obtain ⟨A7, c7, e7⟩ := Kd.R_slice ho7; subst e7; rw [List.length_append, List.length_singleton, repN_len] at HX8 ⊢; clear ho7 hb7 hg7 hat7 hG7; simp at c47)
            go_roundg (A.length + B.length + 200 - (i + 1))
            case measure => have := HI.out; have := HMI.out; omega
            case rel => exact ⟨i + 1, .slice A5 (i + 1) c5, .slice A7 (i + 1) c7, by go_num, by have := HI.out; omega, ⟨rfl⟩, HX8⟩
        · obtain rfl : i = A.length + B.length + 200 := by omega
          obtain ⟨gu, cu', e, _, _⟩ := Kd.R_form HX.out.s.u (by rw [idN_len]; omega)
          rw [idN_len] at e
          cases e
          obtain ⟨N, hN⟩ : ∃ N, N = A.length + B.length + 200 := ⟨_, rfl⟩
          have HX3 : Aside0 (LxSt w wr w.heap.size (.slice L0 l.length cl) (.slice (some ⟨gt, 0, none⟩) (A ++ B).length ct) va (.slice (some ⟨gu, 0, none⟩) N cu) (.slice Ar N cr) (A ++ B) rows (upR A B ap N 0) (repN (A ++ B) N)) := ⟨by rw [upR_zero, hN]; exact HX.out⟩
          clear HX
          go_wp2_with fail
          obtain ⟨wo2, hwo2⟩ : ∃ wo2 : World, wo2 = wr := ⟨_, rfl⟩
          clear hwo hwo2
          go_loopg [18] (A.length + B.length) (fun m a wr => ∃ (i : Nat), a = .int .i64 i ∧ i ≤ A.length + B.length ∧ Aside0 (m = A.length + B.length - i) ∧ Aside0 (LxSt w wr w.heap.size (.slice L0 l.length cl) (.slice (some ⟨gt, 0, none⟩) (A ++ B).length ct) va (.slice (some ⟨gu, 0, none⟩) N cu) (.slice Ar N cr) (A ++ B) rows (upR A B ap N i) (repN (A ++ B) N)))
          case atStart => exact ⟨0, rfl, by omega, ⟨rfl⟩, HX3⟩
          case round =>
            clear HX3
            obtain ⟨i, rfl, hi, HMI, HX⟩ := hrel
            obtain ⟨_, c1, _, c3, _⟩ := HX.out.s.cells
            by_cases hlt : i < A.length + B.length
            · have e0 : decide ((i : Int) < (A.length : Int) + (B.length : Int)) = true := decide_eq_true (by omega)
              have d0 := (cell_row HX.out.s.t (i := i) (by rw [hP]; exact hlt) rfl).1
              have HI := Aside0.mk hlt
              by_cases hs : rd (A ++ B) i < 0
              · obtain ⟨x, hx⟩ : ∃ x, x = rd (A ++ B) i := ⟨_, rfl⟩
                have hx99 : -99 ≤ x := by
                  rw [hx]
                  by_cases ha : i < A.length
                  · rw [rd_appl ha]; exact (chk_num HCA.out ha).1
                  · rw [rd_appr (by omega)]; exact (chk_num HCB.out (by omega)).1
                obtain ⟨k, hk⟩ : ∃ k : Nat, x = -(k : Int) - 1 := ⟨(-x - 1).toNat, by omega⟩
                have hx0 : x < 0 := by omega
                have e2 : decide (x < 0) = true := decide_eq_true hx0
                have hiN : i < N := by omega
                have hiN2 : (i : Int) < (N : Int) := by omega
                have hi0 : (0 : Int) ≤ (i : Int) := by omega
                have hlt2 : (i : Int) < (A.length : Int) + (B.length : Int) := by omega
                have HRT : Aside0 (∀ wh : Nat, (wh = if A.length ≤ i then 1 else 0) → rootAB A B ap i = A.length + B.length + 2 * k + (if ap = true then wh else 0)) := ⟨fun wh hw => by
                  unfold rootAB
                  rw [if_pos ⟨hlt, hs⟩, ← hx, hk, show (-(-(k : Int) - 1) - 1).toNat = k by omega, hw]
                  cases ap
                  · rfl
                  · by_cases ha : A.length ≤ i
                    · rw [if_pos ⟨rfl, ha⟩, if_pos rfl, if_pos ha]
                    · rw [if_neg (fun h => ha h.2), if_pos rfl, if_neg ha]⟩
                have HNN := Aside0.mk hN
                have HK := Aside0.mk hk
                rw [← hx] at d0
                have HXX := Aside0.mk hx
                have HPP := Aside0.mk hP
                have hup : rd (upR A B ap N i) i = (i : Int) := by rw [upR_at _ _ _ _ _ hiN, if_neg (by omega)]
                have HUP := Aside0.mk hup
                have hkb : k ≤ 98 := by omega
                clear hs hx hN hk hP hup
                by_cases ha : i < A.length
                · have e3 : decide ((A.length : Int) ≤ (i : Int)) = false := decide_eq_false (by omega)
                  go_wp2_with fail
                  refine start_ (n := 20) (S := fun w' => w'.cell? ⟨w.heap.size, 3, none⟩ = some (.slice (some ⟨gu, 0, none⟩) N cu) ∧ w'.cell? ⟨w.heap.size, 1, none⟩ = some (.slice (some ⟨gt, 0, none⟩) (A ++ B).length ct) ∧ w'.cell? ⟨gt, i, none⟩ = some (.int .i64 x)) (ds := [19]) #[false, false, false, false, false, false, false, false, false, false, false, false, false, false, false, false, false, false, false, false] (by kernel_rfl) rfl rfl ⟨c3, c1, d0⟩ (fun hHeld => ?_)
                  replace HX : Aside0 (LxSt w wr.drew w.heap.size (.slice L0 l.length cl) (.slice (some ⟨gt, 0, none⟩) (A ++ B).length ct) va (.slice (some ⟨gu, 0, none⟩) N cu) (.slice Ar N cr) (A ++ B) rows (upR A B ap N i) (repN (A ++ B) N)) := ⟨HX.out.below (below_drew (Below.refl _ _))⟩
                  generalize wr.drew = w4 at *
                  clear c3 c1 d0
                  refine pure_ (i := 0) (N := some 161) (v := ?_) (a' := ?_) #[true, false, false, false, false, false, false, false, false, false, false, false, false, false, false, false, false, false, false, false] rfl rfl (by kernel_rfl) (fun _ _ _ h => h) (Or.inl ⟨by rfl, ?_⟩) ?_ ?_
                  rotate_left
                  · intro w'
                    go_simp
                    with_reducible rfl
                  rotate_left
                  · simp only [Act.put, List.setIfInBounds_toArray, List.set_cons_zero, List.set_cons_succ, i64_w, i32_w]
                    rfl
                  refine pure_ (i := 1) (N := some 162) (v := ?_) (a' := ?_) #[true, true, false, false, false, false, false, false, false, false, false, false, false, false, false, false, false, false, false, false] rfl rfl (by kernel_rfl) (fun _ _ _ h => h) (Or.inl ⟨by rfl, ?_⟩) ?_ ?_
                  rotate_left
                  · intro w'
                    go_simp
                    with_reducible rfl
                  rotate_left
                  · simp only [Act.put, List.setIfInBounds_toArray, List.set_cons_zero, List.set_cons_succ, i64_w, i32_w]
                    rfl
                  refine pure_ (i := 2) (N := some 163) (v := ?_) (a' := ?_) #[true, true, true, false, false, false, false, false, false, false, false, false, false, false, false, false, false, false, false, false] rfl rfl (by kernel_rfl) (fun _ _ _ h => h) (Or.inl ⟨by rfl, ?_⟩) ?_ ?_
                  rotate_left
                  · intro w'
                    go_simp
                    with_reducible rfl
                  rotate_left
                  · simp only [Act.put, List.setIfInBounds_toArray, List.set_cons_zero, List.set_cons_succ, i64_w, i32_w]
                    rfl
                  refine pure_ (i := 4) (N := some 165) (v := ?_) (a' := ?_) #[true, true, true, false, true, false, false, false, false, false, false, false, false, false, false, false, false, false, false, false] rfl rfl (by kernel_rfl) (fun _ _ _ h => h) (Or.inl ⟨by rfl, ?_⟩) ?_ ?_
                  rotate_left
                  · intro w'
                    go_simp
                    with_reducible rfl
                  rotate_left
                  · simp only [Act.put, List.setIfInBounds_toArray, List.set_cons_zero, List.set_cons_succ, i64_w, i32_w]
                    rfl
                  refine pure_ (i := 5) (N := some 166) (v := ?_) (a' := ?_) #[true, true, true, false, true, true, false, false, false, false, false, false, false, false, false, false, false, false, false, false] rfl rfl (by kernel_rfl) (fun _ _ _ h => h) (Or.inl ⟨by rfl, ?_⟩) ?_ ?_
                  rotate_left
                  · intro w'
                    go_simp
                    with_reducible rfl
                  rotate_left
                  · simp only [Act.put, List.setIfInBounds_toArray, List.set_cons_zero, List.set_cons_succ, i64_w, i32_w]
                    rfl
                  refine pure_ (i := 6) (N := some 167) (v := ?_) (a' := ?_) #[true, true, true, false, true, true, true, false, false, false, false, false, false, false, false, false, false, false, false, false] rfl rfl (by kernel_rfl) (fun _ _ _ h => h) (Or.inl ⟨by rfl, ?_⟩) ?_ ?_
                  rotate_left
                  · intro w'
                    go_simp
                    with_reducible rfl
                  rotate_left
                  · simp only [Act.put, List.setIfInBounds_toArray, List.set_cons_zero, List.set_cons_succ, i64_w, i32_w]
                    rfl
                  refine pure_ (i := 7) (N := some 168) (v := ?_) (a' := ?_) #[true, true, true, false, true, true, true, true, false, false, false, false, false, false, false, false, false, false, false, false] rfl rfl (by kernel_rfl) (fun _ _ _ h => h) (Or.inl ⟨by rfl, ?_⟩) ?_ ?_
                  rotate_left
                  · intro w'
                    go_simp
                    with_reducible rfl
                  rotate_left
                  · simp only [Act.put, List.setIfInBounds_toArray, List.set_cons_zero, List.set_cons_succ, i64_w, i32_w]
                    rfl
                  refine pure_ (i := 8) (N := some 169) (v := ?_) (a' := ?_) #[true, true, true, false, true, true, true, true, true, false, false, false, false, false, false, false, false, false, false, false] rfl rfl (by kernel_rfl) (fun _ _ _ h => h) (Or.inl ⟨by rfl, ?_⟩) ?_ ?_
                  rotate_left
                  · intro w'
                    go_simp
                    with_reducible rfl
                  rotate_left
                  · simp only [Act.put, List.setIfInBounds_toArray, List.set_cons_zero, List.set_cons_succ, i64_w, i32_w]
                    rfl
                  refine pure_ (i := 9) (N := some 170) (v := ?_) (a' := ?_) #[true, true, true, false, true, true, true, true, true, true, false, false, false, false, false, false, false, false, false, false] rfl rfl (by kernel_rfl) (fun _ _ _ h => h) (Or.inl ⟨by rfl, ?_⟩) ?_ ?_
                  rotate_left
                  · intro w'
                    go_simp
                    with_reducible rfl
                  rotate_left
                  · simp only [Act.put, List.setIfInBounds_toArray, List.set_cons_zero, List.set_cons_succ, i64_w, i32_w]
                    rfl
                  refine pure_ (i := 10) (N := some 171) (v := ?_) (a' := ?_) #[true, true, true, false, true, true, true, true, true, true, true, false, false, false, false, false, false, false, false, false] rfl rfl (by kernel_rfl) (fun _ _ _ h => h) (Or.inl ⟨by rfl, ?_⟩) ?_ ?_
                  rotate_left
                  · intro w'
                    go_simp
                    with_reducible rfl
                  rotate_left
                  · simp only [Act.put, List.setIfInBounds_toArray, List.set_cons_zero, List.set_cons_succ, i64_w, i32_w]
                    rfl
                  refine pure_ (i := 12) (N := some 173) (v := ?_) (a' := ?_) #[true, true, true, false, true, true, true, true, true, true, true, false, true, false, false, false, false, false, false, false] rfl rfl (by kernel_rfl) (fun _ _ _ h => h) (Or.inl ⟨by rfl, ?_⟩) ?_ ?_
                  rotate_left
                  · intro w'
                    go_simp
                    with_reducible rfl
                  rotate_left
                  · simp only [Act.put, List.setIfInBounds_toArray, List.set_cons_zero, List.set_cons_succ, i64_w, i32_w]
                    rfl
                  refine take_ (i := 3) (N := some 164) (v := ?_) (a' := ?_) #[true, true, true, true, true, true, true, true, true, true, true, false, true, false, false, false, false, false, false, false] rfl rfl (by kernel_rfl) (fun _ _ _ h => h) (Or.inl ⟨by rfl, ?_⟩) hHeld ?_ ?_
                  rotate_left
                  · rintro w' ⟨s0, s1, s2⟩
                    go_simp
                    with_reducible rfl
                  rotate_left
                  · simp only [Act.put, List.setIfInBounds_toArray, List.set_cons_zero, List.set_cons_succ, i64_w, i32_w]
                    rfl
                  refine take_ (i := 11) (N := some 172) (v := ?_) (a' := ?_) #[true, true, true, true, true, true, true, true, true, true, true, true, true, false, false, false, false, false, false, false] rfl rfl (by kernel_rfl) (fun _ _ _ h => h) (Or.inl ⟨by rfl, ?_⟩) hHeld ?_ ?_
                  rotate_left
                  · rintro w' ⟨s0, s1, s2⟩
                    go_simp
                    with_reducible rfl
                  rotate_left
                  · simp only [Act.put, List.setIfInBounds_toArray, List.set_cons_zero, List.set_cons_succ, i64_w, i32_w]
                    rfl
                  refine pure_ (i := 13) (N := some 174) (v := ?_) (a' := ?_) #[true, true, true, true, true, true, true, true, true, true, true, true, true, true, false, false, false, false, false, false] rfl rfl (by kernel_rfl) (fun _ _ _ h => h) (Or.inl ⟨by rfl, ?_⟩) ?_ ?_
                  rotate_left
                  · intro w'
                    go_simp
                    with_reducible rfl
                  rotate_left
                  · simp only [Act.put, List.setIfInBounds_toArray, List.set_cons_zero, List.set_cons_succ, i64_w, i32_w]
                    rfl
                  refine take_ (i := 14) (N := some 175) (v := ?_) (a' := ?_) #[true, true, true, true, true, true, true, true, true, true, true, true, true, true, true, false, false, false, false, false] rfl rfl (by kernel_rfl) (fun _ _ _ h => h) (Or.inl ⟨by rfl, ?_⟩) hHeld ?_ ?_
                  rotate_left
                  · rintro w' ⟨s0, s1, s2⟩
                    go_simp
                    with_reducible rfl
                  rotate_left
                  · simp only [Act.put, List.setIfInBounds_toArray, List.set_cons_zero, List.set_cons_succ, i64_w, i32_w]
                    rfl
                  refine pure_ (i := 15) (N := some 176) (v := ?_) (a' := ?_) #[true, true, true, true, true, true, true, true, true, true, true, true, true, true, true, true, false, false, false, false] rfl rfl (by kernel_rfl) (fun _ _ _ h => h) (Or.inl ⟨by rfl, ?_⟩) ?_ ?_
                  rotate_left
                  · intro w'
                    go_simp
                    with_reducible rfl
                  rotate_left
                  · simp only [Act.put, List.setIfInBounds_toArray, List.set_cons_zero, List.set_cons_succ, i64_w, i32_w]
                    rfl
                  refine pure_ (i := 16) (N := some 177) (v := ?_) (a' := ?_) #[true, true, true, true, true, true, true, true, true, true, true, true, true, true, true, true, true, false, false, false] rfl rfl (by kernel_rfl) (fun _ _ _ h => h) (Or.inl ⟨by rfl, ?_⟩) ?_ ?_
                  rotate_left
                  · intro w'
                    go_simp
                    with_reducible rfl
                  rotate_left
                  · simp only [Act.put, List.setIfInBounds_toArray, List.set_cons_zero, List.set_cons_succ, i64_w, i32_w]
                    rfl
                  refine one_ (i := 17) (N := some 178) #[true, true, true, true, true, true, true, true, true, true, true, true, true, true, true, true, true, true, false, false] rfl rfl (by kernel_rfl) (by decide) (fun K hK => ?_)
                  refine goes_ Try.func125 (by kernel_rfl) rfl #[.int .i64 ((A.length : Int) + (B.length : Int)), .bool ap, .int .i64 0, .int .i64 _] (by rfl) rfl rfl (by simp only [List.map_toArray, List.map_cons, List.map_nil]; rfl) ?_
                  with_reducible refine (variable_ok (A.length + B.length) k 0 ap _ _ _ _ (by omega) (by omega) (by rw [HK.out]; first | omega | (unfold wrap64; omega) | (trace_state; fail)) (by omega)).mono ?_
                  rintro e w5 ⟨rfl, hd⟩
                  refine ⟨_, rfl, ?_⟩
                  rw [← HRT.out 0 (by rw [if_neg (by omega)])]
                  have HX5 := Aside0.mk (HX.out.below hd.below)
                  obtain ⟨_, c15, _, c35, _⟩ := HX5.out.s.cells
                  have d05 := (cell_row HX5.out.s.t (i := i) (by rw [HPP.out]; exact HI.out) HXX.out.symm).1
                  obtain ⟨u05, f05⟩ := cell_row HX5.out.s.u (i := i) hiN HUP.out
                  clear hd
                  refine hK.out _ _ ⟨c35, c15, d05⟩ (fun hHeld => ?_)
                  clear hK K
                  refine norm_ (a' := ?_) ?_ ?_
                  rotate_left
                  · show Act.put _ (some 178) _ = _
                    simp only [Act.put, List.setIfInBounds_toArray, List.set_cons_zero, List.set_cons_succ, i64_w, i32_w]
                    rfl
                  refine pure_ (i := 18) (N := some 179) (v := ?_) (a' := ?_) #[true, true, true, true, true, true, true, true, true, true, true, true, true, true, true, true, true, true, true, false] rfl rfl (by kernel_rfl) (fun _ _ _ h => h) (Or.inl ⟨by rfl, ?_⟩) ?_ ?_
                  rotate_left
                  · intro w'
                    go_simp
                    with_reducible rfl
                  rotate_left
                  · simp only [Act.put, List.setIfInBounds_toArray, List.set_cons_zero, List.set_cons_succ, i64_w, i32_w]
                    rfl
                  refine last_ (i := 19) (N := none) #[true, true, true, true, true, true, true, true, true, true, true, true, true, true, true, true, true, true, true, true] rfl rfl (by kernel_rfl) (by decide) (fun K hK => ?_)
                  refine skip_ (w1 := ?_) (by rfl) rfl ?_ ?_
                  rotate_left
                  · go_simp
                    rfl
                  refine hK.out _ _ ?_
                  clear hK K
                  refine done_ (by kernel_rfl) ?_
                  go_wp2_with fail
                  have HX7 : Aside0 (LxSt w (w5.setCell ⟨gu, i, none⟩ (.int .i64 (rootAB A B ap i : Int))) w.heap.size (.slice L0 l.length cl) (.slice (some ⟨gt, 0, none⟩) (A ++ B).length ct) va (.slice (some ⟨gu, 0, none⟩) N cu) (.slice Ar N cr) (A ++ B) rows (upR A B ap N (i + 1)) (repN (A ++ B) N)) :=
                    ⟨by rw [← upR_set hiN]; exact HX5.out.s.putU i _, HX5.out.b.setCell (p := ⟨gu, i, none⟩) (Kd.R_base HX5.out.s.u gu rfl) _⟩
                  have hN := HNN.out
                  go_roundg (A.length + B.length - (i + 1))
                  case measure => have := HI.out; have := HMI.out; omega
                  case rel => exact ⟨i + 1, by go_num, by have := HI.out; omega, ⟨rfl⟩, HX7⟩
                · have e3 : decide ((A.length : Int) ≤ (i : Int)) = true := decide_eq_true (by omega)
                  go_wp2_with fail
                  refine start_ (n := 20) (S := fun w' => w'.cell? ⟨w.heap.size, 3, none⟩ = some (.slice (some ⟨gu, 0, none⟩) N cu) ∧ w'.cell? ⟨w.heap.size, 1, none⟩ = some (.slice (some ⟨gt, 0, none⟩) (A ++ B).length ct) ∧ w'.cell? ⟨gt, i, none⟩ = some (.int .i64 x)) (ds := [19]) #[false, false, false, false, false, false, false, false, false, false, false, false, false, false, false, false, false, false, false, false] (by kernel_rfl) rfl rfl ⟨c3, c1, d0⟩ (fun hHeld => ?_)
                  replace HX : Aside0 (LxSt w wr.drew w.heap.size (.slice L0 l.length cl) (.slice (some ⟨gt, 0, none⟩) (A ++ B).length ct) va (.slice (some ⟨gu, 0, none⟩) N cu) (.slice Ar N cr) (A ++ B) rows (upR A B ap N i) (repN (A ++ B) N)) := ⟨HX.out.below (below_drew (Below.refl _ _))⟩
                  generalize wr.drew = w4 at *
                  clear c3 c1 d0
                  refine pure_ (i := 0) (N := some 161) (v := ?_) (a' := ?_) #[true, false, false, false, false, false, false, false, false, false, false, false, false, false, false, false, false, false, false, false] rfl rfl (by kernel_rfl) (fun _ _ _ h => h) (Or.inl ⟨by rfl, ?_⟩) ?_ ?_
                  rotate_left
                  · intro w'
                    go_simp
                    with_reducible rfl
                  rotate_left
                  · simp only [Act.put, List.setIfInBounds_toArray, List.set_cons_zero, List.set_cons_succ, i64_w, i32_w]
                    rfl
                  refine pure_ (i := 1) (N := some 162) (v := ?_) (a' := ?_) #[true, true, false, false, false, false, false, false, false, false, false, false, false, false, false, false, false, false, false, false] rfl rfl (by kernel_rfl) (fun _ _ _ h => h) (Or.inl ⟨by rfl, ?_⟩) ?_ ?_
                  rotate_left
                  · intro w'
                    go_simp
                    with_reducible rfl
                  rotate_left
                  · simp only [Act.put, List.setIfInBounds_toArray, List.set_cons_zero, List.set_cons_succ, i64_w, i32_w]
                    rfl
                  refine pure_ (i := 2) (N := some 163) (v := ?_) (a' := ?_) #[true, true, true, false, false, false, false, false, false, false, false, false, false, false, false, false, false, false, false, false] rfl rfl (by kernel_rfl) (fun _ _ _ h => h) (Or.inl ⟨by rfl, ?_⟩) ?_ ?_
                  rotate_left
                  · intro w'
                    go_simp
                    with_reducible rfl
                  rotate_left
                  · simp only [Act.put, List.setIfInBounds_toArray, List.set_cons_zero, List.set_cons_succ, i64_w, i32_w]
                    rfl
                  refine pure_ (i := 4) (N := some 165) (v := ?_) (a' := ?_) #[true, true, true, false, true, false, false, false, false, false, false, false, false, false, false, false, false, false, false, false] rfl rfl (by kernel_rfl) (fun _ _ _ h => h) (Or.inl ⟨by rfl, ?_⟩) ?_ ?_
                  rotate_left
                  · intro w'
                    go_simp
                    with_reducible rfl
                  rotate_left
                  · simp only [Act.put, List.setIfInBounds_toArray, List.set_cons_zero, List.set_cons_succ, i64_w, i32_w]
                    rfl
                  refine pure_ (i := 5) (N := some 166) (v := ?_) (a' := ?_) #[true, true, true, false, true, true, false, false, false, false, false, false, false, false, false, false, false, false, false, false] rfl rfl (by kernel_rfl) (fun _ _ _ h => h) (Or.inl ⟨by rfl, ?_⟩) ?_ ?_
                  rotate_left
                  · intro w'
                    go_simp
                    with_reducible rfl
                  rotate_left
                  · simp only [Act.put, List.setIfInBounds_toArray, List.set_cons_zero, List.set_cons_succ, i64_w, i32_w]
                    rfl
                  refine pure_ (i := 6) (N := some 167) (v := ?_) (a' := ?_) #[true, true, true, false, true, true, true, false, false, false, false, false, false, false, false, false, false, false, false, false] rfl rfl (by kernel_rfl) (fun _ _ _ h => h) (Or.inl ⟨by rfl, ?_⟩) ?_ ?_
                  rotate_left
                  · intro w'
                    go_simp
                    with_reducible rfl
                  rotate_left
                  · simp only [Act.put, List.setIfInBounds_toArray, List.set_cons_zero, List.set_cons_succ, i64_w, i32_w]
                    rfl
                  refine pure_ (i := 7) (N := some 168) (v := ?_) (a' := ?_) #[true, true, true, false, true, true, true, true, false, false, false, false, false, false, false, false, false, false, false, false] rfl rfl (by kernel_rfl) (fun _ _ _ h => h) (Or.inl ⟨by rfl, ?_⟩) ?_ ?_
                  rotate_left
                  · intro w'
                    go_simp
                    with_reducible rfl
                  rotate_left
                  · simp only [Act.put, List.setIfInBounds_toArray, List.set_cons_zero, List.set_cons_succ, i64_w, i32_w]
                    rfl
                  refine pure_ (i := 8) (N := some 169) (v := ?_) (a' := ?_) #[true, true, true, false, true, true, true, true, true, false, false, false, false, false, false, false, false, false, false, false] rfl rfl (by kernel_rfl) (fun _ _ _ h => h) (Or.inl ⟨by rfl, ?_⟩) ?_ ?_
                  rotate_left
                  · intro w'
                    go_simp
                    with_reducible rfl
                  rotate_left
                  · simp only [Act.put, List.setIfInBounds_toArray, List.set_cons_zero, List.set_cons_succ, i64_w, i32_w]
                    rfl
                  refine pure_ (i := 9) (N := some 170) (v := ?_) (a' := ?_) #[true, true, true, false, true, true, true, true, true, true, false, false, false, false, false, false, false, false, false, false] rfl rfl (by kernel_rfl) (fun _ _ _ h => h) (Or.inl ⟨by rfl, ?_⟩) ?_ ?_
                  rotate_left
                  · intro w'
                    go_simp
                    with_reducible rfl
                  rotate_left
                  · simp only [Act.put, List.setIfInBounds_toArray, List.set_cons_zero, List.set_cons_succ, i64_w, i32_w]
                    rfl
                  refine pure_ (i := 10) (N := some 171) (v := ?_) (a' := ?_) #[true, true, true, false, true, true, true, true, true, true, true, false, false, false, false, false, false, false, false, false] rfl rfl (by kernel_rfl) (fun _ _ _ h => h) (Or.inl ⟨by rfl, ?_⟩) ?_ ?_
                  rotate_left
                  · intro w'
                    go_simp
                    with_reducible rfl
                  rotate_left
                  · simp only [Act.put, List.setIfInBounds_toArray, List.set_cons_zero, List.set_cons_succ, i64_w, i32_w]
                    rfl
                  refine pure_ (i := 12) (N := some 173) (v := ?_) (a' := ?_) #[true, true, true, false, true, true, true, true, true, true, true, false, true, false, false, false, false, false, false, false] rfl rfl (by kernel_rfl) (fun _ _ _ h => h) (Or.inl ⟨by rfl, ?_⟩) ?_ ?_
                  rotate_left
                  · intro w'
                    go_simp
                    with_reducible rfl
                  rotate_left
                  · simp only [Act.put, List.setIfInBounds_toArray, List.set_cons_zero, List.set_cons_succ, i64_w, i32_w]
                    rfl
                  refine take_ (i := 3) (N := some 164) (v := ?_) (a' := ?_) #[true, true, true, true, true, true, true, true, true, true, true, false, true, false, false, false, false, false, false, false] rfl rfl (by kernel_rfl) (fun _ _ _ h => h) (Or.inl ⟨by rfl, ?_⟩) hHeld ?_ ?_
                  rotate_left
                  · rintro w' ⟨s0, s1, s2⟩
                    go_simp
                    with_reducible rfl
                  rotate_left
                  · simp only [Act.put, List.setIfInBounds_toArray, List.set_cons_zero, List.set_cons_succ, i64_w, i32_w]
                    rfl
                  refine take_ (i := 11) (N := some 172) (v := ?_) (a' := ?_) #[true, true, true, true, true, true, true, true, true, true, true, true, true, false, false, false, false, false, false, false] rfl rfl (by kernel_rfl) (fun _ _ _ h => h) (Or.inl ⟨by rfl, ?_⟩) hHeld ?_ ?_
                  rotate_left
                  · rintro w' ⟨s0, s1, s2⟩
                    go_simp
                    with_reducible rfl
                  rotate_left
                  · simp only [Act.put, List.setIfInBounds_toArray, List.set_cons_zero, List.set_cons_succ, i64_w, i32_w]
                    rfl
                  refine pure_ (i := 13) (N := some 174) (v := ?_) (a' := ?_) #[true, true, true, true, true, true, true, true, true, true, true, true, true, true, false, false, false, false, false, false] rfl rfl (by kernel_rfl) (fun _ _ _ h => h) (Or.inl ⟨by rfl, ?_⟩) ?_ ?_
                  rotate_left
                  · intro w'
                    go_simp
                    with_reducible rfl
                  rotate_left
                  · simp only [Act.put, List.setIfInBounds_toArray, List.set_cons_zero, List.set_cons_succ, i64_w, i32_w]
                    rfl
                  refine take_ (i := 14) (N := some 175) (v := ?_) (a' := ?_) #[true, true, true, true, true, true, true, true, true, true, true, true, true, true, true, false, false, false, false, false] rfl rfl (by kernel_rfl) (fun _ _ _ h => h) (Or.inl ⟨by rfl, ?_⟩) hHeld ?_ ?_
                  rotate_left
                  · rintro w' ⟨s0, s1, s2⟩
                    go_simp
                    with_reducible rfl
                  rotate_left
                  · simp only [Act.put, List.setIfInBounds_toArray, List.set_cons_zero, List.set_cons_succ, i64_w, i32_w]
                    rfl
                  refine pure_ (i := 15) (N := some 176) (v := ?_) (a' := ?_) #[true, true, true, true, true, true, true, true, true, true, true, true, true, true, true, true, false, false, false, false] rfl rfl (by kernel_rfl) (fun _ _ _ h => h) (Or.inl ⟨by rfl, ?_⟩) ?_ ?_
                  rotate_left
                  · intro w'
                    go_simp
                    with_reducible rfl
                  rotate_left
                  · simp only [Act.put, List.setIfInBounds_toArray, List.set_cons_zero, List.set_cons_succ, i64_w, i32_w]
                    rfl
                  refine pure_ (i := 16) (N := some 177) (v := ?_) (a' := ?_) #[true, true, true, true, true, true, true, true, true, true, true, true, true, true, true, true, true, false, false, false] rfl rfl (by kernel_rfl) (fun _ _ _ h => h) (Or.inl ⟨by rfl, ?_⟩) ?_ ?_
                  rotate_left
                  · intro w'
                    go_simp
                    with_reducible rfl
                  rotate_left
                  · simp only [Act.put, List.setIfInBounds_toArray, List.set_cons_zero, List.set_cons_succ, i64_w, i32_w]
                    rfl
                  refine one_ (i := 17) (N := some 178) #[true, true, true, true, true, true, true, true, true, true, true, true, true, true, true, true, true, true, false, false] rfl rfl (by kernel_rfl) (by decide) (fun K hK => ?_)
                  refine goes_ Try.func125 (by kernel_rfl) rfl #[.int .i64 ((A.length : Int) + (B.length : Int)), .bool ap, .int .i64 1, .int .i64 _] (by rfl) rfl rfl (by simp only [List.map_toArray, List.map_cons, List.map_nil]; rfl) ?_
                  with_reducible refine (variable_ok (A.length + B.length) k 1 ap _ _ _ _ (by omega) (by omega) (by rw [HK.out]; first | omega | (unfold wrap64; omega) | (trace_state; fail)) (by omega)).mono ?_
                  rintro e w5 ⟨rfl, hd⟩
                  refine ⟨_, rfl, ?_⟩
                  rw [← HRT.out 1 (by rw [if_pos (by omega)])]
                  have HX5 := Aside0.mk (HX.out.below hd.below)
                  obtain ⟨_, c15, _, c35, _⟩ := HX5.out.s.cells
                  have d05 := (cell_row HX5.out.s.t (i := i) (by rw [HPP.out]; exact HI.out) HXX.out.symm).1
                  obtain ⟨u05, f05⟩ := cell_row HX5.out.s.u (i := i) hiN HUP.out
                  clear hd
                  refine hK.out _ _ ⟨c35, c15, d05⟩ (fun hHeld => ?_)
                  clear hK K
                  refine norm_ (a' := ?_) ?_ ?_
                  rotate_left
                  · show Act.put _ (some 178) _ = _
                    simp only [Act.put, List.setIfInBounds_toArray, List.set_cons_zero, List.set_cons_succ, i64_w, i32_w]
                    rfl
                  refine pure_ (i := 18) (N := some 179) (v := ?_) (a' := ?_) #[true, true, true, true, true, true, true, true, true, true, true, true, true, true, true, true, true, true, true, false] rfl rfl (by kernel_rfl) (fun _ _ _ h => h) (Or.inl ⟨by rfl, ?_⟩) ?_ ?_
                  rotate_left
                  · intro w'
                    go_simp
                    with_reducible rfl
                  rotate_left
                  · simp only [Act.put, List.setIfInBounds_toArray, List.set_cons_zero, List.set_cons_succ, i64_w, i32_w]
                    rfl
                  refine last_ (i := 19) (N := none) #[true, true, true, true, true, true, true, true, true, true, true, true, true, true, true, true, true, true, true, true] rfl rfl (by kernel_rfl) (by decide) (fun K hK => ?_)
                  refine skip_ (w1 := ?_) (by rfl) rfl ?_ ?_
                  rotate_left
                  · go_simp
                    rfl
                  refine hK.out _ _ ?_
                  clear hK K
                  refine done_ (by kernel_rfl) ?_
                  go_wp2_with fail
                  have HX7 : Aside0 (LxSt w (w5.setCell ⟨gu, i, none⟩ (.int .i64 (rootAB A B ap i : Int))) w.heap.size (.slice L0 l.length cl) (.slice (some ⟨gt, 0, none⟩) (A ++ B).length ct) va (.slice (some ⟨gu, 0, none⟩) N cu) (.slice Ar N cr) (A ++ B) rows (upR A B ap N (i + 1)) (repN (A ++ B) N)) :=
                    ⟨by rw [← upR_set hiN]; exact HX5.out.s.putU i _, HX5.out.b.setCell (p := ⟨gu, i, none⟩) (Kd.R_base HX5.out.s.u gu rfl) _⟩
                  have hN := HNN.out
                  go_roundg (A.length + B.length - (i + 1))
                  case measure => have := HI.out; have := HMI.out; omega
                  case rel => exact ⟨i + 1, by go_num, by have := HI.out; omega, ⟨rfl⟩, HX7⟩
              · have e2 : decide (rd (A ++ B) i < 0) = false := decide_eq_false hs
                have HE : Aside0 (upR A B ap N (i + 1) = upR A B ap N i) := ⟨upR_same (if_neg (fun h => hs h.2))⟩
                clear hs
                by_cases ha : i < A.length
                · have e3 : decide ((A.length : Int) ≤ (i : Int)) = false := decide_eq_false (by omega)
                  go_wp2_with fail
                  go_roundg (A.length + B.length - (i + 1))
                  case measure => have := HI.out; have := HMI.out; omega
                  case rel => exact ⟨i + 1, by go_num, by have := HI.out; omega, ⟨rfl⟩, ⟨by rw [HE.out]; exact HX.out⟩⟩
                · have e3 : decide ((A.length : Int) ≤ (i : Int)) = true := decide_eq_true (by omega)
                  go_wp2_with fail
                  go_roundg (A.length + B.length - (i + 1))
                  case measure => have := HI.out; have := HMI.out; omega
                  case rel => exact ⟨i + 1, by go_num, by have := HI.out; omega, ⟨rfl⟩, ⟨by rw [HE.out]; exact HX.out⟩⟩
            · obtain rfl : i = A.length + B.length := by omega
              have e0 : decide (((A.length + B.length : Nat) : Int) < (A.length : Int) + (B.length : Int)) = false := decide_eq_false (by omega)
              go_wp2_with fail
              go_ret
              obtain ⟨gr, cr', er, _, _⟩ := Kd.R_form HX.out.s.r (by rw [repN_len]; omega)
              rw [repN_len] at er
              cases er
              have hRl : rows.length = A.length + B.length := by rw [HRO.out]; simp [rowsAB]
              refine ⟨w.heap.size, gu, cu, gr, cr, .slice (some ⟨gt, 0, none⟩) (A ++ B).length ct, va, rows, upR A B ap N (A.length + B.length), repN (A ++ B) N, rfl, ?_, ?_, ⟨hRl, fun x hx => ?_, by rw [repN_len, hN], fun x hx => ?_⟩, by rw [upR_len, hN], fun x hx => ?_, HX.out.b⟩
              · rw [← hN]
                exact ⟨HX.out.s.blk, Nat.le_refl _, ⟨fun k hk => by simpa [Value.ownBlock] using hk.symm, HX.out.s.u.2⟩, ⟨fun k hk => by simpa [Value.ownBlock] using hk.symm, HX.out.s.r.2⟩, fun e => HX.out.s.ur gu rfl (by rw [e]; rfl), Below.refl _ _, Kept.refl _ _⟩
              · refine ⟨⟨fun k hk => ⟨fun e => HX.out.s.tu k hk (by rw [e]; rfl), fun e => HX.out.s.tr k hk (by rw [e]; rfl)⟩, HX.out.s.t.2⟩, Kd.R_mono HX.out.s.a (fun k hk => ⟨fun e => hk.1.1 (by rw [e]; rfl), fun e => hk.1.2 (by rw [e]; rfl)⟩), by rw [hRl, hP], by rw [hP]; omega, by omega⟩
              · unfold argR; rw [HRO.out]; simp [rowsAB, List.getD_eq_getElem?_getD, hx]
              · rw [← hN] at hx; simp [rd, repN, List.getD_eq_getElem?_getD, hx, hP]
              · rw [upR_at _ _ _ _ _ (by rw [hN]; exact hx)]
                split
                · rfl
                · unfold rootAB; rw [if_neg (by omega)]
end Go.Proofs.Ytadjoaipmcbieaa

/-! UZ -/
namespace Go.Proofs.Ytadjoaipmcbieaa
open Go.RowKit Go.Proofs.YtadjoaipmcbieaaW.PrintWords Go.Proofs.YtadjoaipmcbieaaW.PrintLast Go.Proofs.YtadjoaipmcbieaaW.PrintMore A
theorem results_tmp4 {fn : Func} {t u v x : Tmp} (h : fn.results = #[.tmp t, .tmp u, .tmp v, .tmp x]) (tmps : Array Value) (P : Program) (w : World) :
    (results fn tmps).run P w = .ok (.tuple #[tmps.getD t undef, tmps.getD u undef, tmps.getD v undef, tmps.getD x undef]) w := by
  simp [results, h]
end Go.Proofs.Ytadjoaipmcbieaa
namespace Go.Proofs.Ytadjoaipmcbieaa
open Go.RowKit Go.Proofs.YtadjoaipmcbieaaW.PrintWords Go.Proofs.YtadjoaipmcbieaaW.PrintLast Go.Proofs.YtadjoaipmcbieaaW.PrintMore A
set_option linter.unusedSimpArgs false
set_option linter.unusedVariables false
theorem size140 : (Try.prog.info? 140).map (·.size) = some 100 := by kernel_rfl
set_option maxRecDepth 100000
section
variable {ops : Array Oper} {rest : List Oper} {o : Oper} {a : Act} {Q : Exit → Act → World → Prop}
/-- A whole array of a hundred numbers is stored. -/
theorem store_arr {W : World} (hgd : o.guard = none) (hN : o.dst = none) (p x : Operand) (ho : o.op = .store 140 p x) (g : Nat) (V : List Int) (cur : Array Value) (hp : a.eval p = .pointer (some ⟨g, 0, none⟩)) (hx : a.eval x = .agg (nums .i64 V).toArray) (hV : V.length = 100)
    (hh : W.heap[g]? = some (.cells cur 140 (0, 0))) (hc : cur.size = 100) (h : ∀ w1, w1.heap[g]? = some (.cells (nums .i64 V).toArray 140 (0, 0)) → W.grownBy w1 (some g) → w1.heap.size = W.heap.size → wpList Try.prog ops Q rest a w1) : wpList Try.prog ops Q (o :: rest) a W := by
  have hl : (nums .i64 V).length = 100 := by rw [nums_length, hV]
  have hrun := run_store_run (P := Try.prog) (w := W) (g := g) (o := 0) 140 (.agg (nums .i64 V).toArray) (nums .i64 V) hh (by simp [Value.cells]) (by rw [size140, hl]) (by omega) (fun q hq => by
    obtain ⟨z, _, rfl⟩ := List.mem_map.1 hq; rfl)
  refine wpList_plain hgd fun K hK => ?_
  unfold Oper.wp execOp
  simp only [ho, hp, hx, Sem.run_bind, Sem.run_pure, Result.andThen_ok, hrun]
  show K (a.put o.dst undef) _
  rw [hN]
  obtain ⟨cur', h3, h4, h5⟩ := setCells_row (nums .i64 V) 0 W cur hh (by omega)
  obtain ⟨s1, s2, s3, s4⟩ := setCells_same g (nums .i64 V) 0 W
  refine hK a _ (h _ ?_ ⟨s1, s2, s3, by omega, fun i _ hne => setCells_far (nums .i64 V) 0 i (fun e => hne (by rw [e]))⟩ s4)
  rw [h3]
  congr 2
  apply Array.ext'
  rw [h5]
  simp [hl, hc]
end
theorem z140 : Try.zeroCells140 = (nums .i64 (List.replicate 100 0)).toArray := by kernel_rfl
/-- So far filled with -1. -/
def fill (k : Nat) : List Int := List.replicate k (-1) ++ List.replicate (100 - k) 0
theorem fill_all : fill 100 = List.replicate 100 (-1) := rfl
theorem fill_set {k : Nat} (h : k < 100) : (fill k).set k (-1) = fill (k + 1) := by
  unfold fill
  rw [List.set_append_right _ _ (by simp), List.length_replicate, Nat.sub_self, show 100 - k = (100 - (k + 1)) + 1 by omega, List.replicate_succ, List.set_cons_zero, List.replicate_succ', List.append_assoc]
  rfl
theorem fill_at {k : Nat} (h : k < 100) : (nums .i64 (fill k))[k]? = some (.int .i64 0) := by
  have h2 : 0 < 100 - k := by omega
  simp [nums, fill, List.getElem?_append, h, h2]
theorem rd_rep {v : Nat} (h : v < 100) : rd (List.replicate 100 (-1)) v = -1 := by
  simp only [rd, Int.toNat_natCast, List.getD_eq_getElem?_getD, List.getElem?_replicate, if_pos h]; rfl
theorem AddOk.start (l : List S89) (t : List Int) (pl : List Int) (hpl : pl.length = t.length) : AddOk l t 0 t.length [] [] pl (List.replicate 100 (-1)) [] := by
  refine ⟨rfl, rfl, fun k hk => by simp at hk, ⟨fun n hn => an_neg hn, fun x hx => by simp [netP] at hx, fun x hx => by simp [netP] at hx, fun x hx => by simp [netP] at hx, fun x hx => by simp [netP] at hx⟩, fun x y hx => by simp at hx, fun x w hx => by simp at hx, fun v h1 h2 => .inl ⟨rd_rep (by omega), fun x hx => by simp at hx⟩, by simp, hpl, fun p hp hp2 => by omega, fun x hx => by simp at hx, fun x hx => by simp at hx⟩
theorem AddOk.next {l : List S89} {t u : List Int} {i : Nat} {parts : List Pt} {tos pl V : List Int} {tms : List (List Int)} (h : AddOk l t 0 i parts tos pl V tms) (pl' : List Int) (hpl : pl'.length = u.length) : AddOk l u 0 u.length parts tos pl' V tms :=
  ⟨h.tl, h.tol, h.tof, h.net, h.inj, h.nm, h.vr, h.vl, hpl, fun p hp hp2 => by omega, h.arg, h.var⟩
theorem AddOk.next1 {l : List S89} {t u : List Int} {i : Nat} {parts : List Pt} {tos pl V : List Int} {tms : List (List Int)} (h : AddOk l t 0 i parts tos pl V tms) (pl' : List Int) (hpl : pl'.length = u.length) : AddOk l u 1000 u.length parts tos pl' (List.replicate 100 (-1)) tms := by
  have hn : ∀ x w, x < parts.length → tmF tms x = [w] → w < 0 → -99 ≤ w := fun x w hx e hw => by rcases h.nm x w hx e hw with h | ⟨h, _⟩ <;> omega
  exact ⟨h.tl, h.tol, h.tof, h.net, h.inj, fun x w hx e hw => .inl (hn x w hx e hw), fun v h1 h2 => .inl ⟨rd_rep (by omega), fun x hx e => by have := hn x _ hx e (by omega); omega⟩, by simp, hpl, fun p hp hp2 => by omega, h.arg, h.var⟩
section
variable {l : List S89} {t : List Int} {d : Int} {i : Nat} {parts : List Pt} {tos pl V : List Int} {tms : List (List Int)}
theorem AddOk.roots (h : AddOk l t d i parts tos pl V tms) : RootOk tos (fun x => x) := by
  intro x hx
  rw [h.tol] at hx
  have e := h.tof x hx
  rw [h.tol]
  exact ⟨by omega, by omega, 0, .here (by unfold toF; omega)⟩
theorem AddOk.uni (h : AddOk l t d i parts tos pl V tms) {x y : Nat} (hx : x < parts.length) (hy : y < parts.length) : Uni (an l) (netP parts (tmF tms)) x y (fun x => x) (repP parts) [(x, y)] := by
  refine ⟨h.net, fun _ h => h, fun _ _ => rfl, fun z hz sz => ?_, fun c hc _ hp => ?_, fun p hp => ?_, fun z u hz hu sz su e => h.inj z u hz hu sz su e, fun s _ he => ⟨fun _ _ => rfl, fun p hp => ?_⟩, fun g _ hp => ⟨hp (x, y) (by simp), fun z u _ _ _ _ e => ?_⟩⟩
  · have : repP parts z = z := if_neg (by simp only [netP] at sz; omega)
    rw [this]; omega
  · have hs : ¬ (ptA parts c).1 < 0 := by intro hs; unfold repP at hp; rw [if_pos hs] at hp; omega
    have e : repP parts c = c := if_neg hs
    rw [e, Int.toNat_natCast]
    exact ⟨hc, by simp only [netP]; omega, rfl⟩
  · obtain rfl : p = (x, y) := by simpa using hp
    exact ⟨hx, hy⟩
  · obtain rfl : p = (x, y) := by simpa using hp
    exact he
  · have e' : z = u := e
    subst e'; exact ⟨rfl, rfl⟩
theorem AddOk.small (h : AddOk l t d i parts tos pl V tms) : ∀ x, (ptA parts x).2.length ≤ 6 ∧ ∀ a ∈ (ptA parts x).2, 0 ≤ a := by
  intro x
  by_cases hx : x < parts.length
  · exact ⟨(h.arg x hx).1, fun a ha => ((h.arg x hx).2 a ha).1⟩
  · have e : ptA parts x = (0, []) := by unfold ptA; rw [List.getD_eq_getElem?_getD, List.getElem?_eq_none (by omega)]; rfl
    rw [e]; simp
end
theorem szOk_zero (G : Net) (R : Nat → Nat) (rep : Nat → Int) : SzOk G R rep (List.replicate G.n 0) := by
  refine ⟨by simp, fun c hc _ => .inr (.inl ?_)⟩
  simp [rd, List.getD_eq_getElem?_getD, hc]
theorem small_zero (n : Nat) : Small (List.replicate n 0) := by
  intro i
  have : rd (List.replicate n 0) (i : Int) = 0 := by
    simp only [rd, Int.toNat_natCast, List.getD_eq_getElem?_getD, List.getElem?_replicate]; split <;> rfl
  omega
/-- The graph of two terms that have become one, and what its root unfolds to. -/
structure Joined (w0 W : World) (l : List S89) (ta tb : List Int) (ap : Bool) (g x : Nat) (n : Int) : Prop where
  r : ∃ (gq cq ga N c : Nat) (parts : List Pt) (R : Nat → Nat) (ys : List Int) (tms : List (List Int)) (y : Nat) (T : List Int), FSt W W w0.heap.size g (.slice (some ⟨gq, 0, none⟩) N cq) ga N c parts R ys ∧ GrOk W w0.heap.size g gq cq ga N c parts R ∧
    Uni (an l) (netP parts (tmF tms)) x y R (repP parts) [] ∧ x < N ∧ N ≤ 4000 ∧ Unf (netP parts (tmF tms)) R (repP parts) [x] T ∧ Mgi (an l) ta (tg ap tb) T ∧ n = min (T.length : Int) 2001
/-- What solve answers of two terms. -/
def SolP (w0 W : World) (l : List S89) (ta tb : List Int) (ap : Bool) (g x : Nat) (n : Int) : Prop := (n = 0 ∧ ∀ s, Gd (an l) s → sb s ta ≠ sb s (tg ap tb)) ∨ Joined w0 W l ta tb ap g x n
set_option maxHeartbeats 8000000 in
theorem solve_ok {sg : Nat} {l : List S89} {ta tb : List Int} {A B : Option Addr} {ca cb : Nat} {ap : Bool} (w : World) (hs : SigC w sg l) (hl : GoodL l) (hta : Kd.C (Kd.int .i64) w A ta.length ta) (htb : Kd.C (Kd.int .i64) w B tb.length tb) (hca : chk l ta = 0) (hcb : chk l tb = 0) :
    Calls Try.prog 89 #[.pointer (some ⟨sg, 0, none⟩), .slice A ta.length ca, .slice B tb.length cb, .bool ap] w fun e w' => ∃ (g x : Nat) (n : Int), e = .returned (.tuple #[.pointer (some ⟨g, 0, none⟩), .int .i64 x, .int .i64 n, .int .i64 0]) ∧ SolP w w' l ta tb ap g x n ∧ Below w.heap.size w w' := by
  have HS := Aside0.mk hs
  have HL := Aside0.mk hl
  have HTA := Aside0.mk hta
  have HTB := Aside0.mk htb
  have HCA := Aside0.mk hca
  have HCB := Aside0.mk hcb
  have k0 : (w.alloc (.cells #[.slice A ta.length ca, .slice B tb.length cb] 25)).heap[w.heap.size]? = _ := heap_alloc_new w _
  have hb0 : Below w.heap.size w (w.alloc (.cells #[.slice A ta.length ca, .slice B tb.length cb] 25)) := below_alloc (Below.refl _ _) _
  have HK0 := Aside0.mk k0
  have HB0 := Aside0.mk hb0
  clear hs hl hta htb hca hcb k0 hb0
  go_enter Try.func89, Try.ntmps89
  go_wp2_with fail
  go_loopg [27] 2 (fun m a wr => ∃ k : Nat, a = .int .i64 k ∧ k ≤ 2 ∧ Aside0 (m = 2 - k) ∧ Aside0 (wr.heap[w.heap.size]? = some (.cells #[.slice A ta.length ca, .slice B tb.length cb] 25 (0, 0))) ∧ Aside0 (Below w.heap.size w wr))
  case atStart => exact ⟨0, rfl, by omega, ⟨rfl⟩, HK0, HB0⟩
  case round =>
    clear HK0 HB0
    obtain ⟨k, rfl, hk, HM, HK, HB⟩ := hrel
    have k0 := cell_of_row wr w.heap.size 0 _ _ _ HK.out
    have k1 := cell_of_row wr w.heap.size 1 _ _ _ HK.out
    simp at k0 k1
    have hcase : k = 0 ∨ k = 1 ∨ k = 2 := by omega
    rcases hcase with rfl | rfl | rfl
    · go_wp2_with fail
      clear k0 k1
      refine (check_any sg l A ca ta _ (HS.out.below HB.out) HL.out (Kd.C_below HTA.out HB.out)).mono ?_
      rintro e w1 ⟨rfl, hb⟩
      rw [HCA.out]
      have HK1 := Aside0.mk ((hb.block _ (blk_lt HK.out)).trans HK.out)
      have HB1 := Aside0.mk (below_then HB.out HB.out.size hb)
      clear hb
      go_wp2_with fail
      go_roundg 1
      case measure => have := HM.out; omega
      case rel => exact ⟨1, rfl, by omega, ⟨rfl⟩, HK1, HB1⟩
    · go_wp2_with fail
      clear k0 k1
      refine (check_any sg l B cb tb _ (HS.out.below HB.out) HL.out (Kd.C_below HTB.out HB.out)).mono ?_
      rintro e w1 ⟨rfl, hb⟩
      rw [HCB.out]
      have HK1 := Aside0.mk ((hb.block _ (blk_lt HK.out)).trans HK.out)
      have HB1 := Aside0.mk (below_then HB.out HB.out.size hb)
      clear hb
      go_wp2_with fail
      go_roundg 0
      case measure => have := HM.out; omega
      case rel => exact ⟨2, rfl, by omega, ⟨rfl⟩, HK1, HB1⟩
    · clear k0 k1
      go_wp2_with fail
      have HVB : Aside0 ((wr.alloc (.cells Try.zeroCells140 140)).heap[wr.heap.size]? = some (.cells (nums .i64 (fill 0)).toArray 140 (0, 0))) := ⟨by rw [heap_alloc_new, z140]; rfl⟩
      have HB1 : Aside0 (Below w.heap.size w (wr.alloc (.cells Try.zeroCells140 140))) := ⟨HB.out.alloc HB.out.size _⟩
      have hvb0 : w.heap.size ≤ wr.heap.size := HB.out.size
      clear HB HK
      generalize wr.alloc (.cells Try.zeroCells140 140) = w2 at *
      generalize wr.heap.size = vb at *
      go_loopg [38] 100 (fun m a wr => ∃ k : Nat, a = .int .i64 k ∧ k ≤ 100 ∧ Aside0 (m = 100 - k) ∧ Aside0 (wr.heap[vb]? = some (.cells (nums .i64 (fill k)).toArray 140 (0, 0))) ∧ Aside0 (Below w.heap.size w wr))
      case atStart => exact ⟨0, rfl, by omega, ⟨rfl⟩, HVB, HB1⟩
      case round =>
        clear HVB HB1
        obtain ⟨k, rfl, hk2, HM2, HV, HB⟩ := hrel
        by_cases hlt : k < 100
        · have k0 := cell_of_row wr vb k _ _ _ HV.out
          have f0 := frozen_of_row HV.out k
          rw [List.getElem?_toArray, fill_at hlt] at k0
          have HV2 : Aside0 ((wr.setCell ⟨vb, k, none⟩ (.int .i64 (-1))).heap[vb]? = some (.cells (nums .i64 (fill (k + 1))).toArray 140 (0, 0))) := ⟨by rw [← fill_set hlt, ← nums_set]; exact blk_set HV.out k _⟩
          have HB2 : Aside0 (Below w.heap.size w (wr.setCell ⟨vb, k, none⟩ (.int .i64 (-1)))) := ⟨HB.out.setCell (p := ⟨vb, k, none⟩) hvb0 _⟩
          have hki : (k : Int) < 100 := by omega
          go_wp2_with fail
          go_roundg (100 - (k + 1))
          case measure => have := HM2.out; omega
          case rel => exact ⟨k + 1, by go_num, by omega, ⟨rfl⟩, HV2, HB2⟩
        · obtain rfl : k = 100 := by omega
          rw [fill_all] at HV
          go_upto_region 14 with fail
          have hvs : vb < wr.heap.size := blk_lt HV.out
          go_wp2_with (first | (refine wpList_load_row rfl 140 (.tmp 15) rfl vb rfl 140 (nums .i64 (List.replicate 100 (-1))).toArray (0, 0) (.array 100 3) HV.out Try.underlying140 rfl (by rw [size140]; rfl) ?_) | (refine store_arr rfl rfl (.tmp 17) (.tmp 44) rfl wr.heap.size (List.replicate 100 (-1)) Try.zeroCells140 rfl rfl (by simp) (heap_alloc_new wr _) (by rw [z140]; rfl) ?_; intro w4 hv4 hg4 hz4))
          have hzw : (wr.alloc (.cells Try.zeroCells140 140)).heap.size = wr.heap.size + 1 := by simp
          have HV4 : Aside0 (w4.heap[vb]? = some (.cells (nums .i64 (List.replicate 100 (-1))).toArray 140 (0, 0))) := ⟨(hg4.block vb (by omega) (fun e => by injection e; omega)).trans ((Below.heap_alloc _ _ _ hvs).trans HV.out)⟩
          have HB4 : Aside0 (Below w.heap.size w w4) := ⟨pw_below_grown (HB.out.alloc HB.out.size _) _ (by have := HB.out.size; omega) hg4 (fun k e => by injection e with e; have := HB.out.size; omega)⟩
          have HW4 := Aside0.mk hv4
          have hne : wr.heap.size ≠ vb := by omega
          have hv20 : w.heap.size ≤ wr.heap.size := HB.out.size
          have HZ4 : Aside0 (w4.heap.size = wr.heap.size + 1) := ⟨by rw [hz4, hzw]⟩
          clear hzw hv4 hg4 hz4 HV HB hvs
          generalize wr.heap.size = v2 at *
          have HGR : Aside0 (Gr (w4.alloc (.cells #[.slice none 0 0, .slice none 0 0] 143)) w.heap.size w4.heap.size (.slice none 0 0) (.slice none 0 0) [] []) := ⟨⟨heap_alloc_new w4 _, HB4.out.size, Kd.R_nil _ _ _ _ _, Kd.R_nil _ _ _ _ _⟩⟩
          have HV5 : Aside0 ((w4.alloc (.cells #[.slice none 0 0, .slice none 0 0] 143)).heap[vb]? = _) := ⟨(Below.heap_alloc _ _ _ (blk_lt HV4.out)).trans HV4.out⟩
          have HW5 : Aside0 ((w4.alloc (.cells #[.slice none 0 0, .slice none 0 0] 143)).heap[v2]? = _) := ⟨(Below.heap_alloc _ _ _ (blk_lt HW4.out)).trans HW4.out⟩
          have HB5 : Aside0 (Below w.heap.size w (w4.alloc (.cells #[.slice none 0 0, .slice none 0 0] 143))) := ⟨HB4.out.alloc HB4.out.size _⟩
          clear HV4 HW4 HB4
          have hcall := add_any (g := w4.heap.size) (vb := vb) (v2 := v2) (sg := sg) (P0 := 0) (l := l) (t := ta) (A := A) (c := ca) (d := 0) (vp0 := .slice none 0 0) (vt0 := .slice none 0 0) (parts0 := []) (tos0 := []) (V0 := List.replicate 100 (-1)) (tms0 := []) w.heap.size w _ rfl HB5.out HS.out HL.out HTA.out HCA.out HGR.out HV5.out hvb0 HW5.out hne (.inl rfl) rfl (by omega) (fun pl hpl => AddOk.start l ta pl hpl)
          rw [HZ4.out] at hcall
          refine hcall.mono ?_
          clear hcall
          rintro e w6 ⟨x, vp, vt, parts, tos, pl, V, tms, rfl, hg6, hv6, hw6, hb6, hpl6, hk6, hx6, htx6, -, -⟩
          have HG6 := Aside0.mk hg6
          have HV6 := Aside0.mk hv6
          have HW6 := Aside0.mk hw6
          have HB6 := Aside0.mk hb6
          have HP6 := Aside0.mk (And.intro hpl6 hx6)
          have HK6 := Aside0.mk hk6
          have HTX := Aside0.mk htx6
          have HLA := Aside0.mk (chk_len HCA.out)
          have HLB := Aside0.mk (chk_len HCB.out)
          clear hg6 hv6 hw6 hb6 hpl6 hk6 hx6 htx6 HGR HV5 HW5 HB5
          clear HZ4
          generalize v2 + 1 = g at *
          cases ap
          · skip
            go_wp2_with (first | (refine wpList_load_row rfl 140 (.tmp 15) rfl vb rfl 140 (nums .i64 V).toArray (0, 0) (.array 100 3) HV6.out Try.underlying140 rfl (by rw [size140, ← HK6.out.vl]; simp [nums]) ?_) | (refine store_arr rfl rfl (.tmp 17) (.tmp 53) rfl v2 V (nums .i64 (List.replicate 100 (-1))).toArray rfl rfl HK6.out.vl HW6.out (by simp [nums]) ?_; intro w7 hv7 hg7 hz7))
            have hv2lt := blk_lt HW6.out
            have HG7 : Aside0 (Gr w7 w.heap.size g vp vt parts tos) := ⟨blk_grown HG6.out.blk hg7 (fun e => by injection e with e; exact blk_ne HG6.out.blk HW6.out (by decide) e), HG6.out.hb, Kd.R_mono (Kd.R_grown (Kd.R_types HG6.out.p HW6.out (by decide)) hg7 (fun k hk e => by injection e with e; exact hk.2 e)) (fun _ hk => hk.1), Kd.R_mono (Kd.R_grown (Kd.R_types HG6.out.t HW6.out (by decide)) hg7 (fun k hk e => by injection e with e; exact hk.2 e)) (fun _ hk => hk.1)⟩
            have HV7 : Aside0 (w7.heap[vb]? = some (.cells (nums .i64 V).toArray 140 (0, 0))) := ⟨blk_grown HV6.out hg7 (fun e => by injection e with e; exact hne e.symm)⟩
            have HB7 : Aside0 (Below w.heap.size w w7) := ⟨pw_below_grown HB6.out _ HB6.out.size hg7 (fun k e => by injection e with e; omega)⟩
            have HW7 := Aside0.mk hv7
            have H7 : Aside0 (∀ pl' : List Int, pl'.length = tb.length → AddOk l tb 0 tb.length parts tos pl' V tms) := ⟨fun pl' hpl => HK6.out.next pl' hpl⟩
            clear hv7 hg7 hz7 hv2lt
            refine (add_any (g := g) (vb := v2) (v2 := vb) (P0 := parts.length) (d := 0) (c := cb) w.heap.size w _ rfl HB7.out HS.out HL.out HTB.out HCB.out HG7.out HW7.out hv20 HV7.out hne.symm (.inl rfl) rfl (by have := HP6.out; have := HLA.out; omega) H7.out).mono ?_
            rintro e w8 ⟨y, vp8, vt8, parts8, tos8, pl8, V8, tms8, rfl, hg8, hv8, hw8, hb8, hpl8, hk8, hy8, hty8, hpp8, hpre8⟩
            have htx : tmF tms8 x = ta := by rw [hpre8 x HP6.out.2, HTX.out, tgD_zero]
            have hty : tmF tms8 y = tg false tb := by rw [hty8, tg_tgD]; rfl
            have hN4 : parts8.length ≤ 4000 := by have := HP6.out; have := HLA.out; have := HLB.out; omega
            have hx8 : x < parts8.length := by have := HP6.out; omega
            obtain ⟨gq, cq, e1, -⟩ := Kd.R_form hg8.p (by omega)
            subst e1
            obtain ⟨ga, cg, e2, -⟩ := Kd.R_form hg8.t (by rw [hk8.tol]; omega)
            subst e2
            rw [hk8.tol] at hg8
            have hF8 : FSt w8 w8 w.heap.size g (.slice (some ⟨gq, 0, none⟩) parts8.length cq) ga parts8.length cg parts8 (fun x => x) tos8 := ⟨hg8, hk8.tol, hk8.roots, Below.refl _ _, Kept.refl _ _⟩
            have HF8 := Aside0.mk hF8
            have HB8 := Aside0.mk hb8
            have HK8 := Aside0.mk hk8
            have HT8 := Aside0.mk (And.intro htx hty)
            have HU8 := Aside0.mk (hk8.uni hx8 hy8)
            have HXY := Aside0.mk (And.intro hx8 hy8)
            clear hg8 hv8 hw8 hb8 hpl8 hk8 hy8 hty8 hpp8 hpre8 hF8 htx hty HG6 HV6 HW6 HB6 HP6 HK6 HTX H7 hx8 HG7 HV7 HB7 HW7
            go_wp2_with fail
            refine (unify_any w.heap.size g ga parts8.length cg gq cq parts8 (an l) (tmF tms8) (fun x => x) tos8 x y w8 HF8.out rfl (by omega) HU8.out HK8.out.small).mono ?_
            rintro e w9 ⟨okb, R, ys, rfl, hF9, hres⟩
            have HF9 := Aside0.mk hF9
            have HB9 : Aside0 (Below w.heap.size w w9) := ⟨HB8.out.trans hF9.b⟩
            clear hF9
            rcases hres with ⟨rfl, hU⟩ | ⟨rfl, hnone⟩
            · have HU := Aside0.mk hU
              clear hU
              have hwg : w.heap.size ≤ w9.heap.size := HB9.out.size
              obtain ⟨c0, _⟩ := HF9.out.cells
              have mk := make_zero2 parts8.length (by omega)
              have HG9 : Aside0 (GrOk w9 w.heap.size g gq cq ga parts8.length cg parts8 R) := ⟨⟨ys, HF9.out.g⟩, rfl, HU.out.lt, HK8.out.arg, HK8.out.var⟩
              go_wp2_with fail
              clear c0 mk
              have HSZ : Aside0 (SzSt w9 (w9.alloc (.cells (nums .i64 (List.replicate parts8.length 0)).toArray 3)) w.heap.size g (.slice (some ⟨gq, 0, none⟩) parts8.length cq) ga parts8.length cg parts8 R w9.heap.size parts8.length (List.replicate parts8.length 0)) :=
                ⟨⟨ys, FSt.below ⟨HF9.out.g, HF9.out.len, HF9.out.root, Below.refl _ _, Kept.refl _ _⟩ (below_alloc (Below.refl _ _) _)⟩, Kd.R_mono (own_zeros w9 parts8.length (Nat.le_refl _) (by omega)) (fun _ _ => trivial)⟩
              obtain ⟨K', r, hz, hpost⟩ := sz_law HU.out (parts8.length + 1) (List.replicate parts8.length 0) x (by have := zc_le (List.replicate parts8.length 0); simp at this; omega) (szOk_zero (netP parts8 (tmF tms8)) R (repP parts8)) HXY.out.1
              have HZ := Aside0.mk hz
              have HPO := Aside0.mk hpost
              clear hz hpost
              refine (size_any w.heap.size g gq cq ga parts8.length cg w9.heap.size parts8.length parts8 (tmF tms8) R w9 HG9.out (parts8.length + 1) (List.replicate parts8.length 0) x K' r _ HZ.out (small_zero _) HXY.out.1 HSZ.out).mono ?_
              rintro e w10 ⟨rfl, hS10⟩
              obtain ⟨ys10, hF10⟩ := hS10.f
              have HF10 := Aside0.mk hF10
              have HB10 : Aside0 (Below w.heap.size w w10) := ⟨HB9.out.trans hF10.b⟩
              clear hS10 hF10 HSZ
              rcases HPO.out.2 with ⟨m, T, rfl, hrest⟩ | ⟨rfl, hrest⟩
              · have HR := Aside0.mk hrest
                clear hrest
                simp only [szV, Option.getD_some, Option.isSome_some]
                go_wp2_with fail
                refine bodyPost_ret (results_tmp4 rfl _ _ _) rfl ?_
                refine ⟨g, x, m, rfl, .inr ⟨gq, cq, ga, parts8.length, cg, parts8, R, ys10, tms8, y, T, ⟨HF10.out.g, HF10.out.len, HF10.out.root, Below.refl _ _, Kept.refl _ _⟩, ⟨⟨ys10, HF10.out.g⟩, rfl, HU.out.lt, HK8.out.arg, HK8.out.var⟩, HU.out, HXY.out.1, hN4, HR.out.2.2.2.1, ?_, ?_⟩, HB10.out⟩
                · have h := HU.out.mgi HXY.out.1 HXY.out.2 HR.out.2.2.2.1
                  simp only [netP] at h
                  rw [HT8.out.1, HT8.out.2] at h
                  exact h
                · have := HR.out.2.2.2.2; omega
              · have HR := Aside0.mk hrest
                clear hrest
                simp only [szV, Option.getD_none, Option.isSome_none]
                go_wp2_with fail
                refine bodyPost_ret (results_tmp4 rfl _ _ _) rfl ?_
                refine ⟨g, x, 0, rfl, .inl ⟨rfl, fun s hs he => ?_⟩, HB10.out⟩
                refine HR.out s hs ?_ (fun z hz => ?_)
                · simp only [netP]; rw [HT8.out.1, HT8.out.2]; exact he
                · intro c hc _ ho
                  have : rd (List.replicate parts8.length 0) (c : Int) = 0 := by
                    simp only [rd, Int.toNat_natCast, List.getD_eq_getElem?_getD, List.getElem?_replicate]; split <;> rfl
                  omega
            · have HN := Aside0.mk hnone
              clear hnone
              go_wp2_with fail
              refine bodyPost_ret (results_tmp4 rfl _ _ _) rfl ?_
              refine ⟨g, x, 0, rfl, .inl ⟨rfl, ?_⟩, HB9.out⟩
              have h := HN.out
              rw [HT8.out.1, HT8.out.2] at h
              exact h
          · skip
            go_wp2_with fail
            have H7 : Aside0 (∀ pl' : List Int, pl'.length = tb.length → AddOk l tb 1000 tb.length parts tos pl' (List.replicate 100 (-1)) tms) := ⟨fun pl' hpl => HK6.out.next1 pl' hpl⟩
            refine (add_any (g := g) (vb := v2) (v2 := vb) (P0 := parts.length) (d := 1000) (c := cb) w.heap.size w _ rfl HB6.out HS.out HL.out HTB.out HCB.out HG6.out HW6.out hv20 HV6.out hne.symm (.inr rfl) rfl (by have := HP6.out; have := HLA.out; omega) H7.out).mono ?_
            rintro e w8 ⟨y, vp8, vt8, parts8, tos8, pl8, V8, tms8, rfl, hg8, hv8, hw8, hb8, hpl8, hk8, hy8, hty8, hpp8, hpre8⟩
            have htx : tmF tms8 x = ta := by rw [hpre8 x HP6.out.2, HTX.out, tgD_zero]
            have hty : tmF tms8 y = tg true tb := by rw [hty8, tg_tgD]; rfl
            have hN4 : parts8.length ≤ 4000 := by have := HP6.out; have := HLA.out; have := HLB.out; omega
            have hx8 : x < parts8.length := by have := HP6.out; omega
            obtain ⟨gq, cq, e1, -⟩ := Kd.R_form hg8.p (by omega)
            subst e1
            obtain ⟨ga, cg, e2, -⟩ := Kd.R_form hg8.t (by rw [hk8.tol]; omega)
            subst e2
            rw [hk8.tol] at hg8
            have hF8 : FSt w8 w8 w.heap.size g (.slice (some ⟨gq, 0, none⟩) parts8.length cq) ga parts8.length cg parts8 (fun x => x) tos8 := ⟨hg8, hk8.tol, hk8.roots, Below.refl _ _, Kept.refl _ _⟩
            have HF8 := Aside0.mk hF8
            have HB8 := Aside0.mk hb8
            have HK8 := Aside0.mk hk8
            have HT8 := Aside0.mk (And.intro htx hty)
            have HU8 := Aside0.mk (hk8.uni hx8 hy8)
            have HXY := Aside0.mk (And.intro hx8 hy8)
            clear hg8 hv8 hw8 hb8 hpl8 hk8 hy8 hty8 hpp8 hpre8 hF8 htx hty HG6 HV6 HW6 HB6 HP6 HK6 HTX H7 hx8
            go_wp2_with fail
            refine (unify_any w.heap.size g ga parts8.length cg gq cq parts8 (an l) (tmF tms8) (fun x => x) tos8 x y w8 HF8.out rfl (by omega) HU8.out HK8.out.small).mono ?_
            rintro e w9 ⟨okb, R, ys, rfl, hF9, hres⟩
            have HF9 := Aside0.mk hF9
            have HB9 : Aside0 (Below w.heap.size w w9) := ⟨HB8.out.trans hF9.b⟩
            clear hF9
            rcases hres with ⟨rfl, hU⟩ | ⟨rfl, hnone⟩
            · have HU := Aside0.mk hU
              clear hU
              have hwg : w.heap.size ≤ w9.heap.size := HB9.out.size
              obtain ⟨c0, _⟩ := HF9.out.cells
              have mk := make_zero2 parts8.length (by omega)
              have HG9 : Aside0 (GrOk w9 w.heap.size g gq cq ga parts8.length cg parts8 R) := ⟨⟨ys, HF9.out.g⟩, rfl, HU.out.lt, HK8.out.arg, HK8.out.var⟩
              go_wp2_with fail
              clear c0 mk
              have HSZ : Aside0 (SzSt w9 (w9.alloc (.cells (nums .i64 (List.replicate parts8.length 0)).toArray 3)) w.heap.size g (.slice (some ⟨gq, 0, none⟩) parts8.length cq) ga parts8.length cg parts8 R w9.heap.size parts8.length (List.replicate parts8.length 0)) :=
                ⟨⟨ys, FSt.below ⟨HF9.out.g, HF9.out.len, HF9.out.root, Below.refl _ _, Kept.refl _ _⟩ (below_alloc (Below.refl _ _) _)⟩, Kd.R_mono (own_zeros w9 parts8.length (Nat.le_refl _) (by omega)) (fun _ _ => trivial)⟩
              obtain ⟨K', r, hz, hpost⟩ := sz_law HU.out (parts8.length + 1) (List.replicate parts8.length 0) x (by have := zc_le (List.replicate parts8.length 0); simp at this; omega) (szOk_zero (netP parts8 (tmF tms8)) R (repP parts8)) HXY.out.1
              have HZ := Aside0.mk hz
              have HPO := Aside0.mk hpost
              clear hz hpost
              refine (size_any w.heap.size g gq cq ga parts8.length cg w9.heap.size parts8.length parts8 (tmF tms8) R w9 HG9.out (parts8.length + 1) (List.replicate parts8.length 0) x K' r _ HZ.out (small_zero _) HXY.out.1 HSZ.out).mono ?_
              rintro e w10 ⟨rfl, hS10⟩
              obtain ⟨ys10, hF10⟩ := hS10.f
              have HF10 := Aside0.mk hF10
              have HB10 : Aside0 (Below w.heap.size w w10) := ⟨HB9.out.trans hF10.b⟩
              clear hS10 hF10 HSZ
              rcases HPO.out.2 with ⟨m, T, rfl, hrest⟩ | ⟨rfl, hrest⟩
              · have HR := Aside0.mk hrest
                clear hrest
                simp only [szV, Option.getD_some, Option.isSome_some]
                go_wp2_with fail
                refine bodyPost_ret (results_tmp4 rfl _ _ _) rfl ?_
                refine ⟨g, x, m, rfl, .inr ⟨gq, cq, ga, parts8.length, cg, parts8, R, ys10, tms8, y, T, ⟨HF10.out.g, HF10.out.len, HF10.out.root, Below.refl _ _, Kept.refl _ _⟩, ⟨⟨ys10, HF10.out.g⟩, rfl, HU.out.lt, HK8.out.arg, HK8.out.var⟩, HU.out, HXY.out.1, hN4, HR.out.2.2.2.1, ?_, ?_⟩, HB10.out⟩
                · have h := HU.out.mgi HXY.out.1 HXY.out.2 HR.out.2.2.2.1
                  simp only [netP] at h
                  rw [HT8.out.1, HT8.out.2] at h
                  exact h
                · have := HR.out.2.2.2.2; omega
              · have HR := Aside0.mk hrest
                clear hrest
                simp only [szV, Option.getD_none, Option.isSome_none]
                go_wp2_with fail
                refine bodyPost_ret (results_tmp4 rfl _ _ _) rfl ?_
                refine ⟨g, x, 0, rfl, .inl ⟨rfl, fun s hs he => ?_⟩, HB10.out⟩
                refine HR.out s hs ?_ (fun z hz => ?_)
                · simp only [netP]; rw [HT8.out.1, HT8.out.2]; exact he
                · intro c hc _ ho
                  have : rd (List.replicate parts8.length 0) (c : Int) = 0 := by
                    simp only [rd, Int.toNat_natCast, List.getD_eq_getElem?_getD, List.getElem?_replicate]; split <;> rfl
                  omega
            · have HN := Aside0.mk hnone
              clear hnone
              go_wp2_with fail
              refine bodyPost_ret (results_tmp4 rfl _ _ _) rfl ?_
              refine ⟨g, x, 0, rfl, .inl ⟨rfl, ?_⟩, HB9.out⟩
              have h := HN.out
              rw [HT8.out.1, HT8.out.2] at h
              exact h
end Go.Proofs.Ytadjoaipmcbieaa
namespace Go.Proofs.Ytadjoaipmcbieaa
open Go.RowKit Go.Proofs.YtadjoaipmcbieaaW.PrintWords Go.Proofs.YtadjoaipmcbieaaW.PrintLast Go.Proofs.YtadjoaipmcbieaaW.PrintMore A
open Go.Maps
set_option linter.unusedSimpArgs false
set_option linter.unusedVariables false
/-- What is told of two lists: an error's number, a term. -/
def ComR (l : List S89) (a b : List Int) (ap : Bool) (e : Int) (t : List Int) : Prop := if chk l a ≠ 0 then e = chk l a ∧ t = [] else if chk l b ≠ 0 then e = chk l b ∧ t = [] else UniR (an l) a (tg ap b) e t
theorem ComR.det {l : List S89} {a b : List Int} {ap : Bool} {e e' : Int} {t t' : List Int} (h : ComR l a b ap e t) (h' : ComR l a b ap e' t') : e = e' ∧ t = t' := by
  unfold ComR at h h'
  split at h
  · rename_i h0; rw [if_pos h0] at h'; exact ⟨by rw [h.1, h'.1], by rw [h.2, h'.2]⟩
  · rename_i h0
    rw [if_neg h0] at h'
    split at h
    · rename_i h1; rw [if_pos h1] at h'; exact ⟨by rw [h.1, h'.1], by rw [h.2, h'.2]⟩
    · rename_i h1; rw [if_neg h1] at h'; exact h.det h'
/-- Whether two lists have nothing in common: an error's number, the answer. -/
def ClaR (l : List S89) (a b : List Int) (e : Int) (c : Bool) : Prop := if chk l a ≠ 0 then e = chk l a ∧ c = false else if chk l b ≠ 0 then e = chk l b ∧ c = false else e = 0 ∧ (c = true ↔ ∀ s, Gd (an l) s → sb s a ≠ sb s (tg true b))
theorem ClaR.det {l : List S89} {a b : List Int} {e e' : Int} {c c' : Bool} (h : ClaR l a b e c) (h' : ClaR l a b e' c') : e = e' ∧ c = c' := by
  unfold ClaR at h h'
  split at h
  · rename_i h0; rw [if_pos h0] at h'; exact ⟨by rw [h.1, h'.1], by rw [h.2, h'.2]⟩
  · rename_i h0
    rw [if_neg h0] at h'
    split at h
    · rename_i h1; rw [if_pos h1] at h'; exact ⟨by rw [h.1, h'.1], by rw [h.2, h'.2]⟩
    · rename_i h1; rw [if_neg h1] at h'; exact ⟨by rw [h.1, h'.1], by rw [Bool.eq_iff_iff, h.2, h'.2]⟩
section
variable {sg : Nat} {l : List S89} {ta tb : List Int} {A B : Option Addr} {ca cb : Nat} {ap : Bool}
set_option maxRecDepth 100000 in
set_option maxHeartbeats 4000000 in
theorem solve_bad (w : World) (hs : SigC w sg l) (hl : GoodL l) (hta : Kd.C (Kd.int .i64) w A ta.length ta) (htb : Kd.C (Kd.int .i64) w B tb.length tb) (ea eb : Int) (hea : ea = chk l ta) (heb : eb = chk l tb) (hbad : ea ≠ 0 ∨ eb ≠ 0) :
    Calls Try.prog 89 #[.pointer (some ⟨sg, 0, none⟩), .slice A ta.length ca, .slice B tb.length cb, .bool ap] w fun e w' => e = .returned (.tuple #[.pointer none, .int .i64 0, .int .i64 0, .int .i64 (if ea ≠ 0 then ea else eb)]) ∧ Below w.heap.size w w' := by
  have HS := Aside0.mk hs
  have HL := Aside0.mk hl
  have HTA := Aside0.mk hta
  have HTB := Aside0.mk htb
  have HCA := Aside0.mk hea
  have HCB := Aside0.mk heb
  have HBAD := Aside0.mk hbad
  have k0 : (w.alloc (.cells #[.slice A ta.length ca, .slice B tb.length cb] 25)).heap[w.heap.size]? = _ := heap_alloc_new w _
  have hb0 : Below w.heap.size w (w.alloc (.cells #[.slice A ta.length ca, .slice B tb.length cb] 25)) := below_alloc (Below.refl _ _) _
  have HK0 := Aside0.mk k0
  have HB0 := Aside0.mk hb0
  obtain ⟨er, her⟩ : ∃ er, er = if ea ≠ 0 then ea else eb := ⟨_, rfl⟩
  rw [← her]
  have HER := Aside0.mk her
  clear hs hl hta htb hea heb k0 hb0 hbad her
  go_enter Try.func89, Try.ntmps89
  go_wp2_with fail
  go_loopg [27] 2 (fun m a wr => ∃ k : Nat, a = .int .i64 k ∧ k ≤ 1 ∧ Aside0 (m = 2 - k) ∧ Aside0 (k = 1 → ea = 0) ∧ Aside0 (wr.heap[w.heap.size]? = some (.cells #[.slice A ta.length ca, .slice B tb.length cb] 25 (0, 0))) ∧ Aside0 (Below w.heap.size w wr))
  case atStart => exact ⟨0, rfl, by omega, ⟨rfl⟩, ⟨by omega⟩, HK0, HB0⟩
  case round =>
    clear HK0 HB0
    obtain ⟨k, rfl, hk, HM, HE, HK, HB⟩ := hrel
    have k0 := cell_of_row wr w.heap.size 0 _ _ _ HK.out
    have k1 := cell_of_row wr w.heap.size 1 _ _ _ HK.out
    simp at k0 k1
    have hcase : k = 0 ∨ k = 1 := by omega
    rcases hcase with rfl | rfl
    · go_wp2_with fail
      clear k0 k1
      refine (check_any sg l A ca ta _ (HS.out.below HB.out) HL.out (Kd.C_below HTA.out HB.out)).mono ?_
      rintro e w1 ⟨rfl, hb⟩
      rw [← HCA.out]
      have HK1 := Aside0.mk ((hb.block _ (blk_lt HK.out)).trans HK.out)
      have HB1 := Aside0.mk (below_then HB.out HB.out.size hb)
      clear hb
      by_cases h0 : ea = 0
      · have e1 : (ea != 0) = false := bne_eq_false_iff_eq.2 h0
        have H0 := Aside0.mk h0
        clear h0
        go_wp2_with fail
        go_roundg 1
        case measure => have := HM.out; omega
        case rel => exact ⟨1, rfl, by omega, ⟨rfl⟩, ⟨fun _ => H0.out⟩, HK1, HB1⟩
      · have e1 : (ea != 0) = true := bne_iff_ne.2 h0
        have H0 := Aside0.mk h0
        clear h0
        go_wp2_with fail
        (try simp only [Exit.inBlock, Exit.then])
        refine bodyPost_ret (results_tmp4 rfl _ _ _) rfl ?_
        have her := HER.out
        rw [if_pos H0.out] at her
        subst her
        exact ⟨rfl, HB1.out⟩
    · go_wp2_with fail
      clear k0 k1
      refine (check_any sg l B cb tb _ (HS.out.below HB.out) HL.out (Kd.C_below HTB.out HB.out)).mono ?_
      rintro e w1 ⟨rfl, hb⟩
      rw [← HCB.out]
      have HB1 := Aside0.mk (below_then HB.out HB.out.size hb)
      clear hb
      have HE0 : Aside0 (ea = 0) := ⟨by have := HE.out; simpa using this⟩
      have h0 : eb ≠ 0 := by rcases HBAD.out with h | h; exact absurd HE0.out h; exact h
      have e1 : (eb != 0) = true := bne_iff_ne.2 h0
      clear h0
      go_wp2_with fail
      (try simp only [Exit.inBlock, Exit.then])
      refine bodyPost_ret (results_tmp4 rfl _ _ _) rfl ?_
      have her := HER.out
      rw [if_neg (fun h => h HE0.out)] at her
      subst her
      exact ⟨rfl, HB1.out⟩
theorem num_new (w : World) : NumM (w.alloc (.map #[] 0)) w.heap.size [] := by
  have h0 := World.ownsMap_made w Try.prog 3 (plainElem (H := Unit) Try.prog 3)
  exact ⟨_, h0, rfl, fun c => ⟨rfl, rfl⟩⟩
set_option maxRecDepth 100000 in
set_option maxHeartbeats 4000000 in
theorem common_any (w : World) (hs : SigC w sg l) (hl : GoodL l) (hta : Kd.C (Kd.int .i64) w A ta.length ta) (htb : Kd.C (Kd.int .i64) w B tb.length tb) :
    Calls Try.prog 86 #[.pointer (some ⟨sg, 0, none⟩), .slice A ta.length ca, .slice B tb.length cb, .bool ap] w fun e w' => ∃ (v : Value) (er : Int) (t : List Int), e = .returned (.tuple #[v, .int .i64 er]) ∧ ComR l ta tb ap er t ∧ Kd.R (Kd.int .i64) 3 w' w.heap.size (fun _ => True) v t ∧ Below w.heap.size w w' := by
  by_cases hbad : chk l ta ≠ 0 ∨ chk l tb ≠ 0
  · obtain ⟨er, her⟩ : ∃ er, er = if chk l ta ≠ 0 then chk l ta else chk l tb := ⟨_, rfl⟩
    have hne : er ≠ 0 := by
      rw [her]; split
      · assumption
      · rename_i h; rcases hbad with h' | h'
        · exact absurd h' h
        · exact h'
    have hcr : ComR l ta tb ap er [] := by
      unfold ComR
      by_cases h : chk l ta ≠ 0
      · rw [if_pos h] at her ⊢; exact ⟨her, rfl⟩
      · rw [if_neg h] at her ⊢
        rw [if_pos (by rcases hbad with h' | h'; exact absurd h' h; exact h')]; exact ⟨her, rfl⟩
    have HCR := Aside0.mk hcr
    have e1 : (er != 0) = true := bne_iff_ne.2 hne
    have hsb := solve_bad (sg := sg) (A := A) (B := B) (ca := ca) (cb := cb) (ap := ap) w hs hl hta htb _ _ rfl rfl hbad
    rw [← her] at hsb
    have HSB := Aside0.mk hsb
    clear hsb her hne hbad hcr hs hl hta htb
    have hmm := @run_makeMap Try.prog
    go_enter Try.func86, Try.ntmps86
    go_wp2_with fail
    refine HSB.out.mono ?_
    rintro e w1 ⟨rfl, hb⟩
    go_wp2_with fail
    go_ret2
    exact ⟨_, er, [], rfl, HCR.out, Kd.R_nil _ _ _ _ _, hb⟩
  · have hca : chk l ta = 0 := by
      rcases Decidable.em (chk l ta = 0) with h | h
      · exact h
      · exact absurd (.inl h) hbad
    have hcb : chk l tb = 0 := by
      rcases Decidable.em (chk l tb = 0) with h | h
      · exact h
      · exact absurd (.inr h) hbad
    have hcr : ∀ er t, UniR (an l) ta (tg ap tb) er t → ComR l ta tb ap er t := fun er t h => by unfold ComR; rw [if_neg (fun h => h hca), if_neg (fun h => h hcb)]; exact h
    have HCR := Aside0.mk hcr
    have HSO := Aside0.mk (solve_ok (sg := sg) (A := A) (B := B) (ca := ca) (cb := cb) (ap := ap) w hs hl hta htb hca hcb)
    clear hbad hcr hs hl hta htb hca hcb
    have hmm := @run_makeMap Try.prog
    go_enter Try.func86, Try.ntmps86
    go_wp2_with fail
    refine HSO.out.mono ?_
    rintro e w1 ⟨g, x, n, rfl, hP, hb⟩
    have HB := Aside0.mk hb
    clear hb
    rcases hP with ⟨rfl, hnone⟩ | hJ
    · have HN := Aside0.mk hnone
      clear hnone
      go_wp2_with fail
      go_ret2
      exact ⟨_, 60, [], rfl, HCR.out _ _ (.none HN.out), Kd.R_nil _ _ _ _ _, HB.out⟩
    · obtain ⟨gq, cq, ga, N, c, parts, R, ys, tms, y, T, hF, hG, hU, hx, hN, hT, hM, hn⟩ := hJ
      have hTp : 1 ≤ T.length := by have := hT.len; simpa using this
      have HF := Aside0.mk hF
      have HG := Aside0.mk hG
      have HU := Aside0.mk hU
      have HT := Aside0.mk hT
      have HM := Aside0.mk hM
      have HNN := Aside0.mk hn
      clear hF hG hU hT hM
      by_cases hlong : 2000 < T.length
      · obtain rfl : n = 2001 := by omega
        clear hn
        go_wp2_with fail
        go_ret2
        exact ⟨_, 20, [], rfl, HCR.out _ _ (.long HM.out hlong), Kd.R_nil _ _ _ _ _, HB.out⟩
      · obtain ⟨k, hk⟩ : ∃ k : Nat, n = (k : Int) ∧ 1 ≤ k ∧ k ≤ 2000 := ⟨T.length, by omega, by omega, by omega⟩
        obtain ⟨rfl, hk1, hk2⟩ := hk
        have e1 : ((k : Int) == 0) = false := beq_eq_false_iff_ne.2 (by omega)
        have e2 : decide (2000 < (k : Int)) = false := decide_eq_false (by omega)
        have hTl : T.length ≤ 2000 := by omega
        have HLY := Aside0.mk (ly_law HU.out T.length x T [] [] (show x < (netP parts (tmF tms)).n by rw [show (netP parts (tmF tms)).n = parts.length from rfl, HG.out.pn]; exact hx) HT.out (Nat.le_refl _))
        have HTL := Aside0.mk hTl
        clear hn hlong hTl
        go_wp2_with fail
        have hL : LySt w1 (w1.alloc (.map #[] 0)) w.heap.size g (.slice (some ⟨gq, 0, none⟩) N cq) ga N c parts R (.slice none 0 0) [] w1.heap.size [] :=
          ⟨⟨ys, HF.out.below (below_alloc (Below.refl _ _) _)⟩, Kd.R_nil _ _ _ _ _, num_new w1, Nat.le_refl _⟩
        refine (lay_any w.heap.size g gq cq ga N c w1.heap.size parts (tmF tms) R w1 HG.out (by omega) T.length [] x [] (rn [] T) (rns [] T) (.slice none 0 0) _ HLY.out hx (by rw [rn_length]; have := HTL.out; omega) (by simp) hL).mono ?_
        rintro e w2 ⟨v, rfl, hL2⟩
        obtain ⟨ys2, hF2⟩ := hL2.f
        have HL2 := Aside0.mk hL2
        have HF2 := Aside0.mk hF2
        clear hL2 hF2 hL
        go_wp2_with fail
        go_ret2
        exact ⟨v, 0, rn [] T, rfl, HCR.out _ _ (.ok HM.out HTL.out), Kd.R_lower HL2.out.o HB.out.size, HB.out.trans HF2.out.b⟩
theorem Unify_any (w : World) (hs : SigC w sg l) (hl : GoodL l) (hta : Kd.C (Kd.int .i64) w A ta.length ta) (htb : Kd.C (Kd.int .i64) w B tb.length tb) :
    Calls Try.prog 54 #[.pointer (some ⟨sg, 0, none⟩), .slice A ta.length ca, .slice B tb.length cb] w fun e w' => ∃ (v : Value) (er : Int) (t : List Int), e = .returned (.tuple #[v, .int .i64 er]) ∧ ComR l ta tb false er t ∧ Kd.R (Kd.int .i64) 3 w' w.heap.size (fun _ => True) v t ∧ Below w.heap.size w w' := by
  have HC := Aside0.mk (common_any (ca := ca) (cb := cb) (ap := false) w hs hl hta htb)
  clear hs hl hta htb
  go_enter Try.func54, Try.ntmps54
  go_wp2_with fail
  refine HC.out.mono ?_
  rintro e w1 ⟨v, er, t, rfl, hR, hr, hb⟩
  have H := Aside0.mk (And.intro hR (And.intro hr hb))
  clear hR hr hb
  go_wp2_with fail
  go_ret2
  exact ⟨v, er, t, rfl, H.out⟩
theorem Overlap_any (w : World) (hs : SigC w sg l) (hl : GoodL l) (hta : Kd.C (Kd.int .i64) w A ta.length ta) (htb : Kd.C (Kd.int .i64) w B tb.length tb) :
    Calls Try.prog 56 #[.pointer (some ⟨sg, 0, none⟩), .slice A ta.length ca, .slice B tb.length cb] w fun e w' => ∃ (v : Value) (er : Int) (t : List Int), e = .returned (.tuple #[v, .int .i64 er]) ∧ ComR l ta tb true er t ∧ Kd.R (Kd.int .i64) 3 w' w.heap.size (fun _ => True) v t ∧ Below w.heap.size w w' := by
  have HC := Aside0.mk (common_any (ca := ca) (cb := cb) (ap := true) w hs hl hta htb)
  clear hs hl hta htb
  go_enter Try.func56, Try.ntmps56
  go_wp2_with fail
  refine HC.out.mono ?_
  rintro e w1 ⟨v, er, t, rfl, hR, hr, hb⟩
  have H := Aside0.mk (And.intro hR (And.intro hr hb))
  clear hR hr hb
  go_wp2_with fail
  go_ret2
  exact ⟨v, er, t, rfl, H.out⟩
theorem Clash_any (w : World) (hs : SigC w sg l) (hl : GoodL l) (hta : Kd.C (Kd.int .i64) w A ta.length ta) (htb : Kd.C (Kd.int .i64) w B tb.length tb) :
    Calls Try.prog 59 #[.pointer (some ⟨sg, 0, none⟩), .slice A ta.length ca, .slice B tb.length cb] w fun e w' => ∃ (er : Int) (cl : Bool), e = .returned (.tuple #[.bool cl, .int .i64 er]) ∧ ClaR l ta tb er cl ∧ Below w.heap.size w w' := by
  by_cases hbad : chk l ta ≠ 0 ∨ chk l tb ≠ 0
  · obtain ⟨er, her⟩ : ∃ er, er = if chk l ta ≠ 0 then chk l ta else chk l tb := ⟨_, rfl⟩
    have hne : er ≠ 0 := by
      rw [her]; split
      · assumption
      · rename_i h; rcases hbad with h' | h'
        · exact absurd h' h
        · exact h'
    have hcr : ClaR l ta tb er false := by
      unfold ClaR
      by_cases h : chk l ta ≠ 0
      · rw [if_pos h] at her ⊢; exact ⟨her, rfl⟩
      · rw [if_neg h] at her ⊢
        rw [if_pos (by rcases hbad with h' | h'; exact absurd h' h; exact h')]; exact ⟨her, rfl⟩
    have HCR := Aside0.mk hcr
    have e1 : (er == 0) = false := beq_eq_false_iff_ne.2 hne
    have hsb := solve_bad (sg := sg) (A := A) (B := B) (ca := ca) (cb := cb) (ap := true) w hs hl hta htb _ _ rfl rfl hbad
    rw [← her] at hsb
    have HSB := Aside0.mk hsb
    clear hsb her hne hbad hcr hs hl hta htb
    go_enter Try.func59, Try.ntmps59
    go_wp2_with fail
    refine HSB.out.mono ?_
    rintro e w1 ⟨rfl, hb⟩
    go_wp2_with fail
    go_ret2
    exact ⟨er, false, rfl, HCR.out, hb⟩
  · have hca : chk l ta = 0 := by
      rcases Decidable.em (chk l ta = 0) with h | h
      · exact h
      · exact absurd (.inl h) hbad
    have hcb : chk l tb = 0 := by
      rcases Decidable.em (chk l tb = 0) with h | h
      · exact h
      · exact absurd (.inr h) hbad
    have hcr : ∀ c, (c = true ↔ ∀ s, Gd (an l) s → sb s ta ≠ sb s (tg true tb)) → ClaR l ta tb 0 c := fun c h => by unfold ClaR; rw [if_neg (fun h => h hca), if_neg (fun h => h hcb)]; exact ⟨rfl, h⟩
    have HCR := Aside0.mk hcr
    have HSO := Aside0.mk (solve_ok (sg := sg) (A := A) (B := B) (ca := ca) (cb := cb) (ap := true) w hs hl hta htb hca hcb)
    clear hbad hcr hs hl hta htb hca hcb
    go_enter Try.func59, Try.ntmps59
    go_wp2_with fail
    refine HSO.out.mono ?_
    rintro e w1 ⟨g, x, n, rfl, hP, hb⟩
    rcases hP with ⟨rfl, hnone⟩ | hJ
    · have HN := Aside0.mk (And.intro hnone hb)
      clear hnone hb
      go_wp2_with fail
      go_ret2
      exact ⟨0, true, rfl, HCR.out true ⟨fun _ => HN.out.1, fun _ => rfl⟩, HN.out.2⟩
    · obtain ⟨gq, cq, ga, N, c, parts, R, ys, tms, y, T, hF, hG, hU, hx, hN, hT, hM, hn⟩ := hJ
      have hTp : 1 ≤ T.length := by have := hT.len; simpa using this
      have e1 : (n == 0) = false := beq_eq_false_iff_ne.2 (by omega)
      have HM := Aside0.mk (And.intro hM hb)
      clear hF hG hU hT hM hb hn hTp
      go_wp2_with fail
      go_ret2
      exact ⟨0, false, rfl, HCR.out false ⟨fun h => by simp at h, fun h => absurd h HM.out.1.some⟩, HM.out.2⟩
end
end Go.Proofs.Ytadjoaipmcbieaa
namespace Go.Proofs.Ytadjoaipmcbieaa
open Go.RowKit Go.Proofs.YtadjoaipmcbieaaW.PrintWords Go.Proofs.YtadjoaipmcbieaaW.PrintLast Go.Proofs.YtadjoaipmcbieaaW.PrintMore A
set_option linter.unusedSimpArgs false
set_option linter.unusedVariables false
theorem t_var {n : Int} (h : n < 0) : IsT (an L3) 1 [n] := .cons (by rw [an_neg h]; exact .nil)
theorem t_zero : IsT (an L3) 1 [0] := .cons .nil
theorem t_suc {xs : List Int} (h : IsT (an L3) 1 xs) : IsT (an L3) 1 (1 :: xs) := .cons h
theorem sb_two (s : Int → List Int) (n m : Int) (hn : n < 0) (r : List Int) (h : 0 ≤ m) : sb s (m :: n :: r) = m :: (s n ++ sb s r) := by rw [sb_sym h, sb_cons, if_pos hn]
theorem C_new2 (w : World) (o : Obj) (e : TypeId) (xs : List Int) (h : xs.length ≤ 9223372036854775807) : Kd.C (Kd.int .i64) ((w.alloc o).alloc (.cells (nums .i64 xs).toArray e)) (some ⟨w.heap.size + 1, 0, none⟩) xs.length xs := by
  have h2 := C_new (w.alloc o) e xs h
  rw [show (w.alloc o).heap.size = w.heap.size + 1 by simp] at h2
  exact h2
/-- add(x, z) and add(s(y), u), apart. -/
theorem over3 : ComR L3 [2, -1, 0] [2, 1, -1, -2] true 0 [2, 1, -1, 0] := by
  have hM : Mgi (an L3) [2, -1, 0] (tg true [2, 1, -1, -2]) [2, 1, -1, 0] := by
    have e2 : tg true [2, 1, -1, -2] = [2, 1, -1001, -1002] := rfl
    rw [e2]
    refine ⟨⟨fun n => if n = -1 then [1, -1] else if n = -1001 then [-1] else if n = -1002 then [0] else [n], fun n hn => ?_, rfl, rfl⟩, fun s hs he => ?_⟩
    · simp only
      split
      · exact t_suc (t_var (by omega))
      · split
        · exact t_var (by omega)
        · split
          · exact t_zero
          · exact t_var hn
    · have h1 := hs (-1) (by omega)
      have h2 := hs (-1001) (by omega)
      have h3 := hs (-1002) (by omega)
      rw [sb_two s _ _ (by omega) _ (by omega), sb_sym (by omega), sb_nil, sb_sym (by omega), sb_two s _ _ (by omega) _ (by omega), sb_var (by omega)] at he
      have he2 := (List.cons.inj he).2
      have key := flat_eq (b := an L3) (xs := [s (-1), [0]]) (ys := [1 :: s (-1001), s (-1002)]) rfl (by intro x hx; simp at hx; rcases hx with rfl | rfl; exact h1; exact t_zero) (by intro x hx; simp at hx; rcases hx with rfl | rfl; exact t_suc h2; exact h3) (by simpa using he2)
      simp only [List.cons.injEq, and_true] at key
      refine ⟨fun n => if n = -1 then s (-1001) else [n], fun n hn => ?_, ?_⟩
      · simp only; split
        · exact h2
        · exact t_var hn
      · rw [sb_sym (by omega), sb_two _ _ _ (by omega) _ (by omega), sb_sym (by omega), sb_nil, sb_two s _ _ (by omega) _ (by omega), sb_sym (by omega), sb_nil, key.1]; rfl
  have h := UniR.ok hM (by decide)
  unfold ComR
  rw [if_neg (by decide), if_neg (by decide)]
  exact h
/-- add(x, z) and add(s(x), y): x would lie in itself. -/
theorem none3 : ComR L3 [2, -1, 0] [2, 1, -1, -2] false 60 [] := by
  unfold ComR
  rw [if_neg (by decide), if_neg (by decide)]
  refine .none (fun s hs he => ?_)
  rw [show tg false [2, 1, -1, -2] = [2, 1, -1, -2] from rfl] at he
  have h1 := hs (-1) (by omega)
  have h2 := hs (-2) (by omega)
  rw [sb_two s _ _ (by omega) _ (by omega), sb_sym (by omega), sb_nil, sb_sym (by omega), sb_two s _ _ (by omega) _ (by omega), sb_var (by omega)] at he
  have he2 := (List.cons.inj he).2
  have key := flat_eq (b := an L3) (xs := [s (-1), [0]]) (ys := [1 :: s (-1), s (-2)]) rfl (by intro x hx; simp at hx; rcases hx with rfl | rfl; exact h1; exact t_zero) (by intro x hx; simp at hx; rcases hx with rfl | rfl; exact t_suc h1; exact h2) (by simpa using he2)
  simp only [List.cons.injEq, and_true] at key
  have := congrArg List.length key.1
  simp at this
theorem clash3 : ClaR L3 [1, -1] [0] 0 true := by
  unfold ClaR
  rw [if_neg (by decide), if_neg (by decide)]
  refine ⟨rfl, fun _ s hs he => ?_, fun _ => rfl⟩
  rw [show tg true [0] = [0] from rfl, sb_two s _ _ (by omega) _ (by omega), sb_sym (by omega)] at he
  have := (List.cons.inj he).1
  omega
set_option maxRecDepth 100000 in
set_option maxHeartbeats 2000000 in
theorem awake06 (w : World) : Calls Try.prog 53 #[] w fun e w' => e = .returned (.bool true) ∧ Below w.heap.size w w' := by
  go_enter Try.func53, Try.ntmps53
  go_wp2_with (go_at_call 26; refine (made_any (some ⟨w.heap.size, 0, none⟩) 3 L3 _ (C_newL w) (by decide)).mono ?_; rintro e w1 ⟨g, v, rfl, hs1, hr1, hb1⟩)
  rw [made3] at hs1
  have HB1 : Aside0 (Below w.heap.size w w1) := ⟨below_then (below_alloc (Below.refl _ _) _) (by simp) hb1⟩
  have HS : Aside0 (∀ W, Below w1.heap.size w1 W → SigC W g L3) := ⟨fun W hW => hs1.below hW⟩
  clear hs1 hr1 hb1
  refine (Overlap_any (sg := g) (l := L3) (ta := [2, -1, 0]) (tb := [2, 1, -1, -2]) (A := some ⟨w1.heap.size, 0, none⟩) (B := some ⟨w1.heap.size + 1, 0, none⟩) (ca := 3) (cb := 4) _ (HS.out _ (below_alloc (below_alloc (Below.refl _ _) _) _)) good3 (Kd.C_below (C_new w1 3 [2, -1, 0] (by decide)) (below_alloc (Below.refl _ _) _)) (C_new2 w1 _ 3 [2, 1, -1, -2] (by decide))).mono ?_
  rintro e w2 ⟨v2, er, t, rfl, hc, hr, hb⟩
  obtain ⟨rfl, rfl⟩ := over3.det hc
  obtain ⟨A2, c2, rfl, hc2, hC2⟩ := Kd.R_reads hr
  have HC2 := Aside0.mk hC2
  have HB2 : Aside0 (Below w1.heap.size w1 w2) := ⟨below_then (below_alloc (below_alloc (Below.refl _ _) _) _) (by simp; omega) hb⟩
  have HCC := Aside0.mk hc2
  have hz2 := HB2.out.size
  clear hc hr hb hC2 hc2
  go_wp2_with fail
  refine (Unify_any (sg := g) (l := L3) (ta := [2, -1, 0]) (tb := [2, 1, -1, -2]) (A := some ⟨w2.heap.size, 0, none⟩) (B := some ⟨w2.heap.size + 1, 0, none⟩) (ca := 3) (cb := 4) _ (HS.out _ ((HB2.out.alloc hz2 _).alloc (by simp; omega) _)) good3 (Kd.C_below (C_new w2 3 [2, -1, 0] (by decide)) (below_alloc (Below.refl _ _) _)) (C_new2 w2 _ 3 [2, 1, -1, -2] (by decide))).mono ?_
  rintro e w3 ⟨v3, er3, t3, rfl, hc, hr, hb⟩
  obtain ⟨rfl, rfl⟩ := none3.det hc
  have HB23 : Aside0 (Below w2.heap.size w2 w3) := ⟨below_then (below_alloc (below_alloc (Below.refl _ _) _) _) (by simp; omega) hb⟩
  have HB3 : Aside0 (Below w1.heap.size w1 w3) := ⟨below_then HB2.out HB2.out.size HB23.out⟩
  have HC3 := Aside0.mk (Kd.C_below HC2.out HB23.out)
  have hz3 := HB3.out.size
  obtain ⟨A3, c3, e3⟩ := Kd.R_slice hr
  subst e3
  clear hc hr hb HC2
  go_wp2_with fail
  refine (Clash_any (sg := g) (l := L3) (ta := [1, -1]) (tb := [0]) (A := some ⟨w3.heap.size, 0, none⟩) (B := some ⟨w3.heap.size + 1, 0, none⟩) (ca := 2) (cb := 1) _ (HS.out _ ((HB3.out.alloc hz3 _).alloc (by simp; omega) _)) good3 (Kd.C_below (C_new w3 3 [1, -1] (by decide)) (below_alloc (Below.refl _ _) _)) (C_new2 w3 _ 3 [0] (by decide))).mono ?_
  rintro e w4 ⟨er4, cl, rfl, hc, hb⟩
  obtain ⟨rfl, rfl⟩ := clash3.det hc
  have HB34 : Aside0 (Below w3.heap.size w3 w4) := ⟨below_then (below_alloc (below_alloc (Below.refl _ _) _) _) (by simp; omega) hb⟩
  have HB4 : Aside0 (Below w1.heap.size w1 w4) := ⟨below_then HB3.out HB3.out.size HB34.out⟩
  have HC4 := Aside0.mk (Kd.C_below HC3.out HB34.out)
  have hz4 := HB4.out.size
  clear hc hb HC3
  go_wp2_with fail
  refine (same_n A2 4 c2 [2, 1, -1, 0] (some ⟨w4.heap.size, 0, none⟩) 4 4 [2, 1, -1, 0] _ (Kd.C_below HC4.out (below_alloc (Below.refl _ _) _)) HCC.out (C_new w4 3 [2, 1, -1, 0] (by decide)) (by decide)).mono ?_
  rintro e w5 ⟨rfl, hd5⟩
  rw [show decide (([2, 1, -1, 0] : List Int) = [2, 1, -1, 0]) = true by rfl]
  have hb5 := hd5.below
  have HB5 : Aside0 (Below w1.heap.size w1 w5) := ⟨below_then (HB4.out.alloc hz4 _) (by simp; omega) hb5⟩
  clear hb5 hd5
  go_wp2_with fail
  go_ret
  exact ⟨rfl, below_then HB1.out HB1.out.size HB5.out⟩
end Go.Proofs.Ytadjoaipmcbieaa

/-! Y9 -/
namespace Go.Proofs.Ytadjoaipmcbieaa
open Go.RowKit Go.Proofs.YtadjoaipmcbieaaW.PrintWords Go.Proofs.YtadjoaipmcbieaaW.PrintLast Go.Proofs.YtadjoaipmcbieaaW.PrintMore A
set_option linter.unusedSimpArgs false
set_option linter.unusedVariables false
theorem NtOk.now {w0 W : World} {base : Nat} {vt va : Value} {gu gr N : Nat} {ts : List Int} {args : List (List Int)} (h : NtOk w0 base vt va gu gr N ts args) (hk : Kept w0 W (fun k => k = gu ∨ k = gr)) : NtOk W base vt va gu gr N ts args :=
  ⟨Kd.R_kept h.t hk (fun k hk e => by omega), Kd.R_kept h.a hk (fun k hk e => by omega), h.al, h.le, h.big⟩
theorem NSt.here {w0 W : World} {base g : Nat} {vl vt va : Value} {gu cu gr cr N : Nat} {up rep : List Int} (h : NSt w0 W base g vl vt va gu cu gr cr N up rep) : NSt W W base g vl vt va gu cu gr cr N up rep :=
  ⟨h.blk, h.hb, h.u, h.r, h.ne, Below.refl _ _, Kept.refl _ _⟩
/-- The joined net of two terms, and what its root unfolds to. -/
structure DJn (w0 W : World) (l : List S89) (A B : List Int) (ap : Bool) (v : Value) (n : Int) : Prop where
  r : ∃ (g gu cu gr cr N : Nat) (vl vt va : Value) (up rep ts : List Int) (args : List (List Int)) (tm : Nat → List Int) (R : Nat → Nat) (T : List Int), v = .pointer (some ⟨g, 0, none⟩) ∧
    DOk W w0.heap.size g vl vt va gu cu gr cr N up rep ts args tm R ∧ NSt W W w0.heap.size g vl vt va gu cu gr cr N up rep ∧ 0 < N ∧ Unf (netR N ts args tm) R (repL rep) [0] T ∧ Mgi (an l) A (tg ap B) T ∧ n = min (T.length : Int) 2001
/-- What solved answers of two terms. -/
def DSolP (w0 W : World) (l : List S89) (A B : List Int) (ap : Bool) (v : Value) (n : Int) : Prop := (n = 0 ∧ v = .pointer none ∧ ∀ s, Gd (an l) s → sb s A ≠ sb s (tg ap B)) ∨ DJn w0 W l A B ap v n
theorem i0 : ((0 : Nat) : Int) = 0 := rfl
set_option maxRecDepth 100000 in
set_option maxHeartbeats 4000000 in
theorem solved_ok (L0 : Option Addr) (cl : Nat) (l : List S89) (A0 B0 : Option Addr) (ca cb : Nat) (A B : List Int) (ap : Bool) (w : World) (hr : Kd.C k89 w L0 l.length l) (hc : l.length ≤ cl) (hl : GoodL l)
    (hta : Kd.C (Kd.int .i64) w A0 A.length A) (htb : Kd.C (Kd.int .i64) w B0 B.length B) (hda : A.length ≤ ca) (hdb : B.length ≤ cb) (hca : chk l A = 0) (hcb : chk l B = 0) :
    Calls Try.prog 88 #[.slice L0 l.length cl, .slice A0 A.length ca, .slice B0 B.length cb, .bool ap] w fun e w' => ∃ (v : Value) (n : Int), e = .returned (.tuple #[v, .int .i64 n]) ∧ DSolP w w' l A B ap v n ∧ Below w.heap.size w w' := by
  have HLA := Aside0.mk (laid_any L0 cl l A0 B0 ca cb A B ap w hr hc hl hta htb hda hdb hca hcb)
  have hm : ∀ x : Nat, x < A.length + B.length → -99 ≤ rd (A ++ B) x := fun x hx => by
    by_cases ha : x < A.length
    · rw [rd_appl ha]; exact (chk_num hca ha).1
    · rw [rd_appr (by omega)]; exact (chk_num hcb (by omega)).1
  have HM := Aside0.mk hm
  have HL := Aside0.mk hl
  have hA2 := chk_len hca
  have hB2 := chk_len hcb
  have HTA := Aside0.mk (chk_ter hl hca)
  have HTB := Aside0.mk (chk_ter hl hcb)
  have hpa : 0 < A.length := HTA.out.pos
  have hpb : 0 < B.length := HTB.out.pos
  clear hr hl hta htb hca hcb hm
  go_enter Try.func88, Try.ntmps88
  go_wp2_with fail
  refine HLA.out.mono ?_
  rintro e w1 ⟨g, gu, cu, gr, cr, vt, va, args, up, rep, rfl, hN, hT, hLd, hul, hrt, hb⟩
  have HS := Aside0.mk hN
  have HT := Aside0.mk hT
  have HLd := Aside0.mk hLd
  have HRT := Aside0.mk (rootsAB (ap := ap) HM.out hul hrt)
  have HU := Aside0.mk (uniAB (ap := ap) HL.out HTA.out HTB.out HM.out hLd)
  have HSM := Aside0.mk (hLd.small HL.out HTA.out HTB.out)
  have HB := Aside0.mk hb
  have HEN := Aside0.mk (tmAB_ends (ap := ap) HL.out HTA.out HTB.out)
  clear hN hT hLd hul hrt hb HLA
  have hJ := join_any w.heap.size g gu cu gr cr (A.length + B.length + 200) (.slice L0 l.length cl) vt va (A ++ B) args (an l) (tmAB l A B ap) (rootAB A B ap) up rep 0 A.length w1 HS.out HT.out HRT.out HU.out (fun x => ⟨(HSM.out x).1, fun a ha => ((HSM.out x).2 a ha).1⟩)
  rw [i0] at hJ
  have HJ := Aside0.mk hJ
  clear hJ
  obtain ⟨N, hNN⟩ : ∃ N, N = A.length + B.length + 200 := ⟨_, rfl⟩
  have hN1 : A.length < N := by omega
  have hN5 : N ≤ 5000 := by omega
  rw [← hNN] at HS HT HU HSM HJ
  have HNN := Aside0.mk hNN
  clear hNN
  go_wp2_with fail
  refine HJ.out.mono ?_
  rintro e w2 ⟨okb, R, up2, rep2, rfl, hS2, hres⟩
  have HS2 := Aside0.mk hS2
  have HB2 : Aside0 (Below w.heap.size w w2) := ⟨HB.out.trans hS2.b⟩
  clear hS2 HJ
  rcases hres with ⟨rfl, hR2, hU2⟩ | ⟨rfl, hnone⟩
  · have HR2 := Aside0.mk hR2
    have HU2 := Aside0.mk hU2
    clear hR2 hU2
    have hwg : w.heap.size ≤ w2.heap.size := HB2.out.size
    obtain ⟨-, -, -, c3, -⟩ := HS2.out.cells
    have mk := make_zero2 N (by omega)
    have HT2 := Aside0.mk (HT.out.now HS2.out.k)
    have HD : Aside0 (DOk w2 w.heap.size g (.slice L0 l.length cl) vt va gu cu gr cr N up2 rep2 (A ++ B) args (tmAB l A B ap) R) :=
      ⟨HT2.out, HS2.out.lts, HR2.out, HU2.out.lt, fun x hx hp => by
        obtain ⟨f1, f2, f3⟩ := HU2.out.rep2 _ (HU2.out.lt x hx) (HU2.out.idem x hx) hp
        simp only [repL] at f1 f2 f3
        have hs := symR f2
        exact ⟨(rd rep2 (R x)).toNat, by omega, hs.1, by rw [← hs.2]; exact f2⟩, HSM.out⟩
    go_wp2_with fail
    clear c3 mk
    have HSZ : Aside0 (DSz w2 (w2.alloc (.cells (nums .i64 (List.replicate N 0)).toArray 3)) w.heap.size g (.slice L0 l.length cl) vt va gu cu gr cr N up2 rep2 w2.heap.size N (List.replicate N 0)) :=
      ⟨HS2.out.here.below (below_alloc (Below.refl _ _) _), Kd.R_mono (own_zeros w2 N (Nat.le_refl _) (by omega)) (fun _ _ => trivial)⟩
    obtain ⟨K', r, hz, hpost⟩ := sz_law HU2.out (N + 1) (List.replicate N 0) 0 (by have := zc_le (List.replicate N 0); simp at this; omega) (szOk_zero (netR N (A ++ B) args (tmAB l A B ap)) R (repL rep2)) (by show 0 < N; omega)
    have HPO := Aside0.mk hpost
    have hcall := dsize_any (w0 := w2) w2.heap.size N HD.out (N + 1) (List.replicate N 0) 0 K' r _ hz (small_zero _) (by omega) HSZ.out
    rw [i0] at hcall
    have HC := Aside0.mk hcall
    clear hz hpost hcall
    refine HC.out.mono ?_
    rintro e w3 ⟨rfl, hS3⟩
    have HS3 := Aside0.mk hS3.s
    have HB3 : Aside0 (Below w.heap.size w w3) := ⟨HB2.out.trans hS3.s.b⟩
    clear hS3 HSZ HC
    rcases HPO.out.2 with ⟨m, T, rfl, hrest⟩ | ⟨rfl, hrest⟩
    · have HR := Aside0.mk hrest
      have hm1 : m = min (0 + (T.length : Int)) 2001 := hrest.2.2.2.2
      have hm0 : 0 ≤ m := by omega
      have em : decide (m < 0) = false := decide_eq_false (by omega)
      have HMM := Aside0.mk hm1
      clear hrest hm1
      rw [Option.getD_some]
      go_wp2_with fail
      go_ret2
      refine ⟨_, m, rfl, .inr ⟨g, gu, cu, gr, cr, N, _, vt, va, up2, rep2, A ++ B, args, tmAB l A B ap, R, T, rfl, ⟨HT2.out.now HS3.out.k, HS3.out.lts, HR2.out, HD.out.lt, HD.out.rp, HD.out.arg⟩, HS3.out.here, by omega, HR.out.2.2.2.1, ?_, by have := HMM.out; omega⟩, HB3.out⟩
      have h := HU2.out.mgi (by show 0 < N; omega) (by show A.length < N; omega) HR.out.2.2.2.1
      simp only [netR] at h
      rw [HEN.out.1, HEN.out.2] at h
      exact h
    · have HR := Aside0.mk hrest
      clear hrest
      rw [Option.getD_none]
      go_wp2_with fail
      go_ret2
      refine ⟨_, 0, rfl, .inl ⟨rfl, rfl, fun s hs he => ?_⟩, HB3.out⟩
      refine HR.out s hs ?_ (fun z hz => ?_)
      · simp only [netR]; rw [HEN.out.1, HEN.out.2]; exact he
      · intro c hc _ ho
        have : rd (List.replicate N 0) (c : Int) = 0 := by
          simp only [rd, Int.toNat_natCast, List.getD_eq_getElem?_getD, List.getElem?_replicate]; split <;> rfl
        omega
  · have HN := Aside0.mk hnone
    clear hnone
    go_wp2_with fail
    go_ret2
    refine ⟨_, 0, rfl, .inl ⟨rfl, rfl, ?_⟩, HB2.out⟩
    have h := HN.out
    rw [HEN.out.1, HEN.out.2] at h
    exact h
end Go.Proofs.Ytadjoaipmcbieaa

/-! Z0 -/
namespace Go.Proofs.Ytadjoaipmcbieaa
open Go.RowKit Go.Proofs.YtadjoaipmcbieaaW.PrintWords Go.Proofs.YtadjoaipmcbieaaW.PrintLast Go.Proofs.YtadjoaipmcbieaaW.PrintMore A
set_option linter.unusedSimpArgs false
set_option linter.unusedVariables false
theorem rd_split (xs : List Int) {i : Nat} (h : i < xs.length) : xs = xs.take i ++ rd xs i :: xs.drop (i + 1) := by
  conv => lhs; rw [← List.take_append_drop i xs, drop_rd xs i h]
theorem take_rd (xs : List Int) {i : Nat} (h : i < xs.length) : xs.take (i + 1) = xs.take i ++ [rd xs i] := by
  rw [List.take_add_one, List.getElem?_eq_getElem h]
  simp [rd, List.getD_eq_getElem?_getD, h]
theorem idx_take {xs : List Int} (hd : xs.Nodup) {j : Nat} (h : j < xs.length) : xs.idxOf (rd xs j) = j := by
  have e := rd_split xs h
  have hn : rd xs j ∉ xs.take j := by
    rw [e, List.nodup_append] at hd
    intro hm
    exact hd.2.2 _ hm _ (by simp) rfl
  obtain ⟨x, hx⟩ : ∃ x, x = rd xs j := ⟨_, rfl⟩
  rw [← hx] at hn e ⊢
  rw [e, idx_out hn]
  simp; omega
theorem plain_l1 (t ns out : List Int) (i : Nat) (hi : i < t.length) (hd : ns.Nodup) (hb : ns.length ≤ 5000) (r : Option (List Int)) : ∀ (d j k : Nat) (x6 : Int), j + d = ns.length → d < k → x6 = (if rd t i ∈ ns.take j then (ns.idxOf (rd t i) : Int) else -1) →
    (∀ k', k ≤ k' + d + 1 → k' < k → (if (if rd t i ∈ ns then (ns.idxOf (rd t i) : Int) else -1) < 0 then (ropewalkref06_plain.l0 k' t (ns ++ [rd t i]) (out ++ [-((ns.length : Int)) - 1]) (wrap64 ((i : Int) + 1))) else (ropewalkref06_plain.l0 k' t ns (out ++ [-(ns.idxOf (rd t i) : Int) - 1]) (wrap64 ((i : Int) + 1)))) = r) → out.length < 17592186044416 →
    ropewalkref06_plain.l1 k t ns out i x6 j = r := by
  intro d
  induction d with
  | zero =>
    intro j k x6 hj hk hx hr ho
    obtain ⟨k, rfl⟩ : ∃ m, k = m + 1 := ⟨k - 1, by omega⟩
    have h := hr k (by omega) (by omega)
    rw [List.take_of_length_le (by omega)] at hx
    simp only [ropewalkref06_plain.l1]
    rw [if_neg (show ¬ (j : Int) < ns.length by omega), hx]
    by_cases hm : rd t i ∈ ns
    · rw [if_pos hm] at h ⊢
      rw [if_neg (by omega)] at h ⊢
      rw [if_pos ho]
      have hl := List.idxOf_lt_length_of_mem hm
      rw [wrap_id (x := (ns.idxOf (rd t i) : Int) + 1) (by omega) (by omega), wrap_id (x := -((ns.idxOf (rd t i) : Int) + 1)) (by omega) (by omega), show -((ns.idxOf (rd t i) : Int) + 1) = -(ns.idxOf (rd t i) : Int) - 1 by omega]
      exact h
    · rw [if_neg hm] at h ⊢
      rw [if_pos (by omega)] at h ⊢
      rw [if_pos (by omega), if_pos (by omega), if_pos (by omega), if_pos ho]
      rw [wrap_id (x := (ns.length : Int) + 1) (by omega) (by omega), wrap_id (x := -((ns.length : Int) + 1)) (by omega) (by omega), show -((ns.length : Int) + 1) = -(ns.length : Int) - 1 by omega]
      exact h
  | succ d ih =>
    intro j k x6 hj hk hx hr ho
    obtain ⟨k, rfl⟩ : ∃ m, k = m + 1 := ⟨k - 1, by omega⟩
    have hjl : j < ns.length := by omega
    simp only [ropewalkref06_plain.l1]
    rw [if_pos (show (j : Int) < ns.length by omega), if_pos (by omega), if_pos (by omega), if_pos (by omega)]
    have hw : wrap64 ((j : Int) + 1) = ((j + 1 : Nat) : Int) := by rw [wrap_id (by omega) (by omega)]; rfl
    rw [hw]
    have ht := take_rd ns hjl
    by_cases he : rd ns j = rd t i
    · rw [if_pos he]
      refine ih (j + 1) k _ (by omega) (by omega) ?_ (fun k' h1 h2 => hr k' (by omega) (by omega)) ho
      rw [if_pos (by rw [ht, he]; simp), ← he, idx_take hd hjl]
    · rw [if_neg he]
      refine ih (j + 1) k _ (by omega) (by omega) ?_ (fun k' h1 h2 => hr k' (by omega) (by omega)) ho
      rw [hx, ht]
      have e : (rd t i ∈ ns.take j ++ [rd ns j]) ↔ rd t i ∈ ns.take j := by
        simp only [List.mem_append, List.mem_singleton]
        exact ⟨fun h => h.elim id (fun h => absurd h.symm he), Or.inl⟩
      simp only [e]
theorem plain_l0 (t : List Int) (ht : t.length ≤ 5000) : ∀ (d i : Nat) (ns out : List Int), i + d = t.length → ns.Nodup → (∀ n ∈ ns, n < 0) → ns.length ≤ i → out.length = i →
    ∃ k, ropewalkref06_plain.l0 k t ns out i = some (out ++ rn ns (t.drop i)) := by
  intro d
  induction d with
  | zero =>
    intro i ns out hi hd hn hl ho
    refine ⟨1, ?_⟩
    simp only [ropewalkref06_plain.l0]
    rw [if_neg (by omega), List.drop_of_length_le (by omega)]
    simp [rn]
  | succ d ih =>
    intro i ns out hi hd hn hl ho
    have hil : i < t.length := by omega
    have hdr := drop_rd t i hil
    have hw : wrap64 ((i : Int) + 1) = ((i + 1 : Nat) : Int) := by rw [wrap_id (by omega) (by omega)]; rfl
    by_cases h0 : 0 ≤ rd t i
    · obtain ⟨k, hk⟩ := ih (i + 1) ns (out ++ [rd t i]) (by omega) hd hn (by omega) (by simp [ho])
      refine ⟨k + 1, ?_⟩
      simp only [ropewalkref06_plain.l0]
      rw [if_pos (by omega), if_pos (by omega), if_pos (by omega), if_pos (by omega), hw, hk, hdr]
      simp only [rn]
      rw [if_pos h0]; simp
    · by_cases hm : rd t i ∈ ns
      · obtain ⟨k, hk⟩ := ih (i + 1) ns (out ++ [-(ns.idxOf (rd t i) : Int) - 1]) (by omega) hd hn (by omega) (by simp [ho])
        refine ⟨k + ns.length + 1 + 1, ?_⟩
        simp only [ropewalkref06_plain.l0]
        rw [if_pos (by omega), if_pos (by omega), if_neg (by omega)]
        refine plain_l1 t ns out i hil hd (by omega) _ ns.length 0 _ (-1) (by omega) (by omega) (by simp) (fun k' h1 h2 => ?_) (by omega)
        rw [if_pos hm, if_neg (by omega), hw, at_rounds (g := fun k => ropewalkref06_plain.l0 k t ns (out ++ [-(ns.idxOf (rd t i) : Int) - 1]) ((i + 1 : Nat) : Int)) (fun k => (ropewalkref06_plain.mono_l k).1 _ _ _ _) (show k ≤ k' by omega) hk, hdr]
        simp only [rn]
        rw [if_neg h0, if_pos hm]; simp
      · obtain ⟨k, hk⟩ := ih (i + 1) (ns ++ [rd t i]) (out ++ [-(ns.length : Int) - 1]) (by omega) (by rw [List.nodup_append]; exact ⟨hd, by simp, fun a ha b hb => by rw [List.mem_singleton.1 hb]; exact fun e => hm (e ▸ ha)⟩)
          (fun n h => by rcases List.mem_append.1 h with h | h; exact hn n h; rw [List.mem_singleton.1 h]; omega) (by simp; omega) (by simp [ho])
        refine ⟨k + ns.length + 1 + 1, ?_⟩
        simp only [ropewalkref06_plain.l0]
        rw [if_pos (by omega), if_pos (by omega), if_neg (by omega)]
        refine plain_l1 t ns out i hil hd (by omega) _ ns.length 0 _ (-1) (by omega) (by omega) (by simp) (fun k' h1 h2 => ?_) (by omega)
        rw [if_neg hm, if_pos (by omega), hw, at_rounds (g := fun k => ropewalkref06_plain.l0 k t (ns ++ [rd t i]) (out ++ [-(ns.length : Int) - 1]) ((i + 1 : Nat) : Int)) (fun k => (ropewalkref06_plain.mono_l k).1 _ _ _ _) (show k ≤ k' by omega) hk, hdr]
        simp only [rn]
        rw [if_neg h0, if_neg hm]; simp
theorem plain_f (t : List Int) (ht : t.length ≤ 5000) : ∃ k, ropewalkref06_plain.f k t = some (rn [] t) := by
  obtain ⟨k, h⟩ := plain_l0 t ht t.length 0 [] [] (by omega) List.nodup_nil (fun _ h => by simp at h) (by simp) rfl
  refine ⟨k, ?_⟩
  unfold ropewalkref06_plain.f
  have e : ((0 : Nat) : Int) = 0 := rfl
  rw [e] at h
  rw [h]; simp
theorem plain_ok (A0 : Option Addr) (c0 : Nat) (t : List Int) (w : World) (hr : Kd.C (Kd.int .i64) w A0 t.length t) (hc : t.length ≤ c0) (ht : t.length ≤ 5000) :
    Calls Try.prog 107 #[.slice A0 t.length c0] w fun e w' => ∃ v : Value, e = .returned v ∧ Kd.R (Kd.int .i64) 3 w' w.heap.size (fun _ => True) v (rn [] t) ∧ Below w.heap.size w w' := by
  obtain ⟨k, h⟩ := plain_f t ht
  exact ropewalkref06_plain.calls k A0 c0 t _ w hr hc h
set_option maxRecDepth 100000 in
set_option maxHeartbeats 4000000 in
theorem Common_ok (L0 : Option Addr) (cl : Nat) (l : List S89) (A0 B0 : Option Addr) (ca cb : Nat) (A B : List Int) (ap : Bool) (w : World) (hr : Kd.C k89 w L0 l.length l) (hc : l.length ≤ cl) (hl : GoodL l)
    (hta : Kd.C (Kd.int .i64) w A0 A.length A) (htb : Kd.C (Kd.int .i64) w B0 B.length B) (hda : A.length ≤ ca) (hdb : B.length ≤ cb) (hca : chk l A = 0) (hcb : chk l B = 0) :
    Calls Try.prog 87 #[.slice L0 l.length cl, .slice A0 A.length ca, .slice B0 B.length cb, .bool ap] w fun e w' => ∃ (v : Value) (er : Int) (t : List Int), e = .returned (.tuple #[v, .int .i64 er]) ∧ ComR l A B ap er t ∧ Kd.R (Kd.int .i64) 3 w' w.heap.size (fun _ => True) v t ∧ Below w.heap.size w w' := by
  have hcr : ∀ er t, UniR (an l) A (tg ap B) er t → ComR l A B ap er t := fun er t h => by unfold ComR; rw [if_neg (fun h => h hca), if_neg (fun h => h hcb)]; exact h
  have HCR := Aside0.mk hcr
  have HSO := Aside0.mk (solved_ok L0 cl l A0 B0 ca cb A B ap w hr hc hl hta htb hda hdb hca hcb)
  clear hcr hr hl hta htb hca hcb
  go_enter Try.func87, Try.ntmps87
  go_wp2_with fail
  refine HSO.out.mono ?_
  rintro e w1 ⟨v, n, rfl, hP, hb⟩
  have HB := Aside0.mk hb
  clear hb
  rcases hP with ⟨rfl, rfl, hnone⟩ | hJ
  · have HN := Aside0.mk hnone
    clear hnone
    go_wp2_with fail
    go_ret2
    exact ⟨_, 60, [], rfl, HCR.out _ _ (.none HN.out), Kd.R_nil _ _ _ _ _, HB.out⟩
  · obtain ⟨g, gu, cu, gr, cr, N, vl, vt, va, up, rep, ts, args, tm, R, T, rfl, hD, hS, hN0, hT, hM, hn⟩ := hJ
    have hTp : 1 ≤ T.length := by have := hT.len; simpa using this
    have HD := Aside0.mk hD
    have HS := Aside0.mk hS
    have HT := Aside0.mk hT
    have HM := Aside0.mk hM
    clear hD hS hT hM
    by_cases hlong : 2000 < T.length
    · obtain rfl : n = 2001 := by omega
      clear hn
      go_wp2_with fail
      go_ret2
      exact ⟨_, 20, [], rfl, HCR.out _ _ (.long HM.out hlong), Kd.R_nil _ _ _ _ _, HB.out⟩
    · obtain ⟨k, hk⟩ : ∃ k : Nat, n = (k : Int) ∧ 1 ≤ k ∧ k ≤ 2000 := ⟨T.length, by omega, by omega, by omega⟩
      obtain ⟨rfl, hk1, hk2⟩ := hk
      have e1 : ((k : Int) == 0) = false := beq_eq_false_iff_ne.2 (by omega)
      have e2 : decide (2000 < (k : Int)) = false := decide_eq_false (by omega)
      have hTl : T.length ≤ 2000 := by omega
      have HTL := Aside0.mk hTl
      have hcall := dtold_any HD.out T.length T 0 [] (.slice none 0 0) w1 (Nat.le_refl _) HT.out hN0 (by simp; omega) ⟨HS.out, Kd.R_nil _ _ _ _ _⟩
      rw [i0] at hcall
      have HC := Aside0.mk hcall
      clear hn hlong hcall
      go_wp2_with fail
      refine HC.out.mono ?_
      rintro e w2 ⟨v, rfl, hT2⟩
      rw [List.nil_append] at hT2
      obtain ⟨A2, c2, rfl, hc2, hC2⟩ := Kd.R_reads hT2.v
      have HB2 : Aside0 (Below w.heap.size w w2) := ⟨HB.out.trans hT2.s.b⟩
      have HP := Aside0.mk (plain_ok A2 c2 T w2 hC2 hc2 (by omega))
      clear hT2 hC2 HC
      go_wp2_with fail
      refine HP.out.mono ?_
      rintro e w3 ⟨v3, rfl, hr3, hb3⟩
      have HR3 := Aside0.mk hr3
      have HB3 := Aside0.mk (below_then HB2.out HB2.out.size hb3)
      clear hr3 hb3 HP
      go_wp2_with fail
      go_ret2
      exact ⟨v3, 0, rn [] T, rfl, HCR.out _ _ (.ok HM.out HTL.out), Kd.R_lower HR3.out HB2.out.size, HB3.out⟩
end Go.Proofs.Ytadjoaipmcbieaa

/-! P2 -/
namespace Go.Proofs.Ytadjoaipmcbieaa
open Go.RowKit Go.Proofs.YtadjoaipmcbieaaW.PrintWords Go.Proofs.YtadjoaipmcbieaaW.PrintLast Go.Proofs.YtadjoaipmcbieaaW.PrintMore A
set_option linter.unusedSimpArgs false
set_option linter.unusedVariables false
/-- With enough rounds it answers so. -/
def Ev1 {α : Type} (g : Nat → Option α) (r : α) : Prop := ∃ F, ∀ k, F ≤ k → g k = some r
theorem Ev1.out {α : Type} {g : Nat → Option α} {r : α} (h : Ev1 g r) : ∃ k, g k = some r := let ⟨F, hF⟩ := h; ⟨F, hF F (Nat.le_refl _)⟩
theorem Ev1.succ {α : Type} {g : Nat → Option α} {r : α} (h : Ev1 (fun k => g (k + 1)) r) : Ev1 g r := by
  obtain ⟨F, hF⟩ := h
  refine ⟨F + 1, fun k hk => ?_⟩
  obtain ⟨m, rfl⟩ : ∃ m, k = m + 1 := ⟨k - 1, by omega⟩
  exact hF m (by omega)
theorem Ev1.of {α : Type} {g : Nat → Option α} {r : α} (h : ∀ k, g k = some r) : Ev1 g r := ⟨0, fun k _ => h k⟩
theorem Ev1.eq {α : Type} {g g' : Nat → Option α} {r : α} (h : Ev1 g r) (e : ∀ k, g' k = g k) : Ev1 g' r := let ⟨F, hF⟩ := h; ⟨F, fun k hk => (e k).trans (hF k hk)⟩
theorem take_rd' (xs : List Int) {i : Nat} (h : i < xs.length) : xs.take (i + 1) = xs.take i ++ [rd xs i] := by
  rw [List.take_add_one, List.getElem?_eq_getElem h]
  simp [rd, List.getD_eq_getElem?_getD, h]
theorem wsuc {i : Nat} (h : i < 9223372036854775807) : wrap64 ((i : Int) + 1) = ((i + 1 : Nat) : Int) := by rw [wrap_id (by omega) (by omega)]; rfl
theorem in_l0 (xs : List Int) (x : Int) (hx : xs.length ≤ 17592186044416) : ∀ (d i : Nat), i + d = xs.length → Ev1 (fun k => ropewalkref02_In.l0 k xs x i) (decide (x ∈ xs.drop i)) := by
  intro d
  induction d with
  | zero =>
    intro i hi
    refine Ev1.succ (Ev1.of fun k => ?_)
    simp only [ropewalkref02_In.l0]
    rw [if_neg (by omega), List.drop_of_length_le (by omega)]; simp
  | succ d ih =>
    intro i hi
    have hil : i < xs.length := by omega
    refine Ev1.succ ((ih (i + 1) (by omega)).imp fun F hF k hk => ?_)
    have h := hF k hk
    simp only at h
    simp only [ropewalkref02_In.l0]
    rw [if_pos (by omega), if_pos (by omega), wsuc (by omega), drop_rd xs i hil]
    by_cases e : rd xs i = x
    · rw [if_pos e, ← e]; simp
    · rw [if_neg e, h]
      have e2 : ¬ x = rd xs i := fun h => e h.symm
      simp [e2]
theorem in_f (xs : List Int) (x : Int) (hx : xs.length ≤ 17592186044416) : Ev1 (fun k => ropewalkref02_In.f k xs x) (decide (x ∈ xs)) := by
  have h := in_l0 xs x hx xs.length 0 (by omega)
  rw [List.drop_zero] at h
  exact h.eq fun k => rfl
theorem isv_f (n : Int) : ropewalkref02_IsVariable.f n = some (decide (n < 0 ∧ -99 ≤ n)) := by
  unfold ropewalkref02_IsVariable.f
  by_cases h : n < 0
  · rw [if_pos h]; simp [h]
  · rw [if_neg h]; simp [h]
theorem vars_l0 (t : List Int) (ht : t.length ≤ 17592186044416) : ∀ (d i : Nat) (acc : List Int), i + d = t.length → acc.Nodup → VarL acc → Ev1 (fun k => ropewalkref02_Variables.l0 k t acc i) (vd acc (t.drop i)) := by
  intro d
  induction d with
  | zero =>
    intro i acc hi hd hv
    refine Ev1.succ (Ev1.of fun k => ?_)
    simp only [ropewalkref02_Variables.l0]
    rw [if_neg (by omega), List.drop_of_length_le (by omega)]; rfl
  | succ d ih =>
    intro i acc hi hd hv
    have hil : i < t.length := by omega
    have hl := nodup_le 99 acc hd hv
    rw [drop_rd t i hil]
    by_cases h : rd t i < 0 ∧ -99 ≤ rd t i
    · have hw : wrap64 (-(rd t i)) = -(rd t i) := wrap_id (by omega) (by omega)
      obtain ⟨F, hF⟩ := in_f acc (-(rd t i)) (by omega)
      dsimp only at hF
      by_cases hm : -(rd t i) ∈ acc
      · obtain ⟨G, hG⟩ := ih (i + 1) acc (by omega) hd hv
        refine ⟨F + G + 1, fun k hk => ?_⟩
        obtain ⟨m, rfl⟩ : ∃ m, k = m + 1 := ⟨k - 1, by omega⟩
        simp only [ropewalkref02_Variables.l0, vd]
        rw [if_pos (by omega), if_pos (by omega), isv_f, Option.bind_some, decide_eq_true h, if_pos rfl, hw, wsuc (by omega), hF m (by omega), Option.bind_some, decide_eq_true hm, if_pos rfl, if_neg (fun h2 => h2.2 hm)]
        exact hG m (by omega)
      · have hd' : (acc ++ [-(rd t i)]).Nodup := by
          rw [List.nodup_append]; exact ⟨hd, by simp, fun a ha b hb => by rw [List.mem_singleton.1 hb]; exact fun e => hm (e ▸ ha)⟩
        have hv' : VarL (acc ++ [-(rd t i)]) := fun x hx => by
          rcases List.mem_append.1 hx with hx | hx
          · exact hv x hx
          · rw [List.mem_singleton.1 hx]; omega
        obtain ⟨G, hG⟩ := ih (i + 1) _ (by omega) hd' hv'
        dsimp only at hG
        refine ⟨F + G + 1, fun k hk => ?_⟩
        obtain ⟨m, rfl⟩ : ∃ m, k = m + 1 := ⟨k - 1, by omega⟩
        simp only [ropewalkref02_Variables.l0, vd]
        rw [if_pos (by omega), if_pos (by omega), isv_f, Option.bind_some, decide_eq_true h, if_pos rfl, hw, wsuc (by omega), hF m (by omega), Option.bind_some, decide_eq_false hm, if_neg (by decide), if_pos (by omega), if_pos ⟨h, hm⟩]
        exact hG m (by omega)
    · obtain ⟨G, hG⟩ := ih (i + 1) acc (by omega) hd hv
      refine ⟨G + 1, fun k hk => ?_⟩
      obtain ⟨m, rfl⟩ : ∃ m, k = m + 1 := ⟨k - 1, by omega⟩
      simp only [ropewalkref02_Variables.l0, vd]
      rw [if_pos (by omega), if_pos (by omega), isv_f, Option.bind_some, decide_eq_false h, if_neg (by decide), wsuc (by omega), if_neg (fun h2 => h h2.1)]
      exact hG m (by omega)
theorem vars_f (t : List Int) (ht : t.length ≤ 17592186044416) : Ev1 (fun k => ropewalkref02_Variables.f k t) (vd [] t) := by
  have h := vars_l0 t ht t.length 0 [] (by omega) List.nodup_nil (fun x hx => by simp at hx)
  rw [List.drop_zero] at h
  exact h
/-- The order of all lists' variables, as it is gathered. -/
def gat (ls : List (List Int)) : List Int := (ls.map fun t => (vd [] t).map (- ·)).flatten
theorem gat_vd (ls : List (List Int)) (acc : List Int) : vd acc (gat ls) = vd acc ls.flatten := by
  induction ls generalizing acc with
  | nil => rfl
  | cons t ls ih =>
    simp only [gat, List.map_cons, List.flatten_cons] at ih ⊢
    rw [vd_append, vd_append, vd_vd t [] acc (fun x hx => by simp at hx), ih]
theorem vd_short (t : List Int) : (vd [] t).length ≤ 99 := vd_len List.nodup_nil (fun x hx => by simp at hx)
theorem gat_len (ls : List (List Int)) : (gat ls).length ≤ 99 * ls.length := by
  induction ls with
  | nil => simp [gat]
  | cons t ls ih =>
    simp only [gat, List.map_cons, List.flatten_cons, List.length_append, List.length_map, List.length_cons] at ih ⊢
    have := vd_short t
    omega
theorem gat_append (ls ms : List (List Int)) : gat (ls ++ ms) = gat ls ++ gat ms := by simp [gat]
theorem plain_l1' (ls : List (List Int)) (hls : 99 * ls.length ≤ 17592186044415) (x3 : List Int) (x4 : Nat) (h4 : x4 < ls.length) (v : List Int) (hv : VarL v) (hx : x3.length + v.length ≤ 17592186044415) {r : List (List Int)} (hr : Ev1 (fun k => ropewalkref02_Plain.l0 k ls (x3 ++ v.map (- ·)) ((x4 + 1 : Nat) : Int)) r) :
    ∀ (d j : Nat), j + d = v.length → Ev1 (fun k => ropewalkref02_Plain.l1 k ls (x3 ++ (v.take j).map (- ·)) x4 v j) r := by
  intro d
  induction d with
  | zero =>
    intro j hj
    obtain ⟨F, hF⟩ := hr
    dsimp only at hF
    refine ⟨F + 1, fun k hk => ?_⟩
    obtain ⟨m, rfl⟩ : ∃ m, k = m + 1 := ⟨k - 1, by omega⟩
    simp only [ropewalkref02_Plain.l1]
    rw [if_neg (by omega), List.take_of_length_le (by omega), wsuc (by omega)]
    exact hF m (by omega)
  | succ d ih =>
    intro j hj
    obtain ⟨F, hF⟩ := ih (j + 1) (by omega)
    dsimp only at hF
    have hjl : j < v.length := by omega
    have hm := hv _ (rd_mem hjl)
    refine ⟨F + 1, fun k hk => ?_⟩
    obtain ⟨m, rfl⟩ : ∃ m, k = m + 1 := ⟨k - 1, by omega⟩
    have h := hF m (by omega)
    simp only [ropewalkref02_Plain.l1]
    rw [if_pos (by omega), if_pos (by omega), if_pos (by simp only [List.length_append, List.length_map, List.length_take]; omega), wrap_id (x := -(rd v j)) (by omega) (by omega), wsuc (by omega), List.append_assoc]
    have e : (v.take (j + 1)).map (- ·) = (v.take j).map (- ·) ++ [-(rd v j)] := by
      rw [take_rd' v hjl, List.map_append]; rfl
    rw [e] at h
    exact h
theorem plain_l0' (ls : List (List Int)) (hls : 99 * ls.length ≤ 17592186044415) (hl : ∀ t ∈ ls, t.length ≤ 17592186044415) {r : List (List Int)} (hr : Ev1 (fun k => ropewalkref02_Plain.l2 k ls (vd [] ls.flatten) [] 0) r) : ∀ (d i : Nat), i + d = ls.length → Ev1 (fun k => ropewalkref02_Plain.l0 k ls (gat (ls.take i)) i) r := by
  intro d
  induction d with
  | zero =>
    intro i hi
    obtain ⟨F, hF⟩ := hr
    dsimp only at hF
    obtain ⟨G, hG⟩ := vars_f (gat ls) (by have := gat_len ls; omega)
    dsimp only at hG
    refine ⟨F + G + 1, fun k hk => ?_⟩
    obtain ⟨m, rfl⟩ : ∃ m, k = m + 1 := ⟨k - 1, by omega⟩
    simp only [ropewalkref02_Plain.l0]
    rw [if_neg (by omega), List.take_of_length_le (by omega), hG m (by omega), Option.bind_some, gat_vd]
    exact hF m (by omega)
  | succ d ih =>
    intro i hi
    have hil : i < ls.length := by omega
    have hmem : rd_L4 ls i ∈ ls := by
      unfold rd_L4
      rw [Int.toNat_natCast, List.getD_eq_getElem?_getD, List.getElem?_eq_getElem hil]; exact List.getElem_mem hil
    have et : ls.take (i + 1) = ls.take i ++ [rd_L4 ls i] := by
      rw [List.take_add_one, List.getElem?_eq_getElem hil]
      simp [rd_L4, List.getD_eq_getElem?_getD, hil]
    have hgl := gat_len (ls.take i)
    rw [List.length_take] at hgl
    have hvl := vd_short (rd_L4 ls i)
    have hih := ih (i + 1) (by omega)
    rw [et, gat_append] at hih
    have e1 : gat [rd_L4 ls i] = (vd [] (rd_L4 ls i)).map (- ·) := by simp [gat]
    rw [e1] at hih
    obtain ⟨F, hF⟩ := plain_l1' ls hls (gat (ls.take i)) i hil (vd [] (rd_L4 ls i)) (vd_var _ _ (fun x hx => by simp at hx)) (by omega) hih (vd [] (rd_L4 ls i)).length 0 (by omega)
    dsimp only at hF
    obtain ⟨G, hG⟩ := vars_f (rd_L4 ls i) (by have := hl _ hmem; omega)
    dsimp only at hG
    refine ⟨F + G + 1, fun k hk => ?_⟩
    obtain ⟨m, rfl⟩ : ∃ m, k = m + 1 := ⟨k - 1, by omega⟩
    simp only [ropewalkref02_Plain.l0]
    rw [if_pos (by omega), if_pos (by omega), hG m (by omega), Option.bind_some]
    have h := hF m (by omega)
    simp only [List.take_zero, List.map_nil, List.append_nil] at h
    exact h
theorem idx_take' {xs : List Int} (hd : xs.Nodup) {j : Nat} (h : j < xs.length) : xs.idxOf (rd xs j) = j := by
  have e : xs = xs.take j ++ rd xs j :: xs.drop (j + 1) := by conv => lhs; rw [← List.take_append_drop j xs, drop_rd xs j h]
  have hn : rd xs j ∉ xs.take j := by
    rw [e, List.nodup_append] at hd
    intro hm
    exact hd.2.2 _ hm _ (by simp) rfl
  obtain ⟨x, hx⟩ : ∃ x, x = rd xs j := ⟨_, rfl⟩
  rw [← hx] at hn e ⊢
  rw [e, idx_out hn]
  simp; omega
/-- A number, as far as the order has been looked through. -/
def cw (o : List Int) (j : Nat) (v : Int) : Int := if (v < 0 ∧ -99 ≤ v) ∧ -v ∈ o.take j then -(o.idxOf (-v) : Int) - 1 else v
theorem plain_l4' (ls : List (List Int)) (o : List Int) (hd : o.Nodup) (hv : VarL o) (x8 : List (List Int)) (x9 : Nat) (h9 : x9 < ls.length) (p : Nat) (hp : p < (rd_L4 ls x9).length) (b0 : List Int) (hb : p < b0.length) {r : List (List Int)}
    (hr : Ev1 (fun k => ropewalkref02_Plain.l3 k ls o x8 x9 (b0.set p (nw o (rd (rd_L4 ls x9) p))) ((p + 1 : Nat) : Int)) r) (hpl : p < 17592186044415) :
    ∀ (d j : Nat), j + d = o.length → Ev1 (fun k => ropewalkref02_Plain.l4 k ls o x8 x9 (b0.set p (cw o j (rd (rd_L4 ls x9) p))) p j) r := by
  have hol := nodup_le 99 o hd hv
  generalize hvv : rd (rd_L4 ls x9) p = v at *
  intro d
  induction d with
  | zero =>
    intro j hj
    obtain ⟨F, hF⟩ := hr
    dsimp only at hF
    refine ⟨F + 1, fun k hk => ?_⟩
    obtain ⟨m, rfl⟩ : ∃ m, k = m + 1 := ⟨k - 1, by omega⟩
    have e : cw o j v = nw o v := by unfold cw nw; rw [List.take_of_length_le (by omega)]
    simp only [ropewalkref02_Plain.l4]
    rw [if_neg (by omega), e, wsuc (by omega)]
    exact hF m (by omega)
  | succ d ih =>
    intro j hj
    obtain ⟨F, hF⟩ := ih (j + 1) (by omega)
    dsimp only at hF
    have hjl : j < o.length := by omega
    have hm := hv _ (rd_mem hjl)
    have ht := take_rd' o hjl
    refine ⟨F + 1, fun k hk => ?_⟩
    obtain ⟨m, rfl⟩ : ∃ m, k = m + 1 := ⟨k - 1, by omega⟩
    have h := hF m (by omega)
    simp only [ropewalkref02_Plain.l4]
    rw [if_pos (by omega), if_pos (by omega), if_pos (by omega), if_pos (by omega), if_pos (by omega), if_pos (by omega), hvv, wrap_id (x := -(rd o j)) (by omega) (by omega)]
    by_cases he : v = -(rd o j)
    · rw [if_pos he, if_pos (by rw [List.length_set]; omega), wsuc (by omega), wrap_id (x := -(((j + 1 : Nat) : Int))) (by omega) (by omega), Int.toNat_natCast, List.set_set]
      have e : cw o (j + 1) v = -(((j + 1 : Nat) : Int)) := by
        unfold cw
        rw [if_pos ⟨by omega, by rw [ht, he]; simp⟩, he, Int.neg_neg, idx_take' hd hjl]; omega
      rw [e] at h
      exact h
    · rw [if_neg he, wsuc (by omega)]
      have e : cw o (j + 1) v = cw o j v := by
        unfold cw
        have e2 : -v ∈ o.take (j + 1) ↔ -v ∈ o.take j := by
          rw [ht]
          simp only [List.mem_append, List.mem_singleton]
          exact ⟨fun h => h.elim id (fun h => absurd (by omega) he), Or.inl⟩
        simp only [e2]
      rw [e] at h
      exact h
theorem set_mid (t : List Int) (f : Int → Int) {p : Nat} (hp : p < t.length) : ((t.take p).map f ++ t.drop p).set p (f (rd t p)) = (t.take (p + 1)).map f ++ t.drop (p + 1) := by
  rw [take_rd' t hp, List.set_append_right _ _ (by simp; omega), drop_rd t p hp]
  have e : p - ((t.take p).map f).length = 0 := by simp; omega
  rw [e, List.set_cons_zero]; simp
theorem plain_l3' (ls : List (List Int)) (hls : 99 * ls.length ≤ 17592186044415) (o : List Int) (hd : o.Nodup) (hv : VarL o) (x8 : List (List Int)) (x9 : Nat) (h9 : x9 < ls.length) (h8 : x8.length = x9) {r : List (List Int)}
    (hr : Ev1 (fun k => ropewalkref02_Plain.l2 k ls o (x8 ++ [(rd_L4 ls x9).map (nw o)]) ((x9 + 1 : Nat) : Int)) r) (ht : (rd_L4 ls x9).length ≤ 17592186044415) :
    ∀ (d p : Nat), p + d = (rd_L4 ls x9).length → Ev1 (fun k => ropewalkref02_Plain.l3 k ls o x8 x9 (((rd_L4 ls x9).take p).map (nw o) ++ (rd_L4 ls x9).drop p) p) r := by
  intro d
  induction d with
  | zero =>
    intro p hp
    obtain ⟨F, hF⟩ := hr
    dsimp only at hF
    refine ⟨F + 1, fun k hk => ?_⟩
    obtain ⟨m, rfl⟩ : ∃ m, k = m + 1 := ⟨k - 1, by omega⟩
    simp only [ropewalkref02_Plain.l3]
    rw [if_neg (by simp; omega), if_pos (by omega), List.take_of_length_le (by omega), List.drop_of_length_le (by omega), List.append_nil, wsuc (by omega)]
    exact hF m (by omega)
  | succ d ih =>
    intro p hp
    have hpl : p < (rd_L4 ls x9).length := by omega
    have h3 := ih (p + 1) (by omega)
    rw [← set_mid (rd_L4 ls x9) (nw o) hpl] at h3
    obtain ⟨F, hF⟩ := plain_l4' ls o hd hv x8 x9 h9 p hpl (((rd_L4 ls x9).take p).map (nw o) ++ (rd_L4 ls x9).drop p) (by simp; omega) h3 (by omega) o.length 0 (by omega)
    dsimp only at hF
    have e0 : cw o 0 (rd (rd_L4 ls x9) p) = rd (rd_L4 ls x9) p := by unfold cw; rw [if_neg (fun h => by simpa using h.2)]
    have e1 : (((rd_L4 ls x9).take p).map (nw o) ++ (rd_L4 ls x9).drop p).set p (rd (rd_L4 ls x9) p) = ((rd_L4 ls x9).take p).map (nw o) ++ (rd_L4 ls x9).drop p := by
      rw [List.set_append_right _ _ (by simp; omega), drop_rd _ p hpl]
      have e : p - (((rd_L4 ls x9).take p).map (nw o)).length = 0 := by simp; omega
      rw [e, List.set_cons_zero]
    rw [e0, e1] at hF
    refine ⟨F + 1, fun k hk => ?_⟩
    obtain ⟨m, rfl⟩ : ∃ m, k = m + 1 := ⟨k - 1, by omega⟩
    simp only [ropewalkref02_Plain.l3]
    rw [if_pos (by simp; omega)]
    exact hF m (by omega)
theorem plain_l2' (ls : List (List Int)) (hls : 99 * ls.length ≤ 17592186044415) (hl : ∀ t ∈ ls, t.length ≤ 17592186044415) (o : List Int) (hd : o.Nodup) (hv : VarL o) : ∀ (d i : Nat), i + d = ls.length → Ev1 (fun k => ropewalkref02_Plain.l2 k ls o ((ls.take i).map (fun t => t.map (nw o))) i) (ls.map fun t => t.map (nw o)) := by
  intro d
  induction d with
  | zero =>
    intro i hi
    refine ⟨1, fun k hk => ?_⟩
    obtain ⟨m, rfl⟩ : ∃ m, k = m + 1 := ⟨k - 1, by omega⟩
    simp only [ropewalkref02_Plain.l2]
    rw [if_neg (by omega), List.take_of_length_le (by omega)]
  | succ d ih =>
    intro i hi
    have hil : i < ls.length := by omega
    have hmem : rd_L4 ls i ∈ ls := by
      unfold rd_L4
      rw [Int.toNat_natCast, List.getD_eq_getElem?_getD, List.getElem?_eq_getElem hil]; exact List.getElem_mem hil
    have et : ls.take (i + 1) = ls.take i ++ [rd_L4 ls i] := by
      rw [List.take_add_one, List.getElem?_eq_getElem hil]
      simp [rd_L4, List.getD_eq_getElem?_getD, hil]
    have h2 := ih (i + 1) (by omega)
    rw [et, List.map_append] at h2
    have hlm := hl _ hmem
    obtain ⟨F, hF⟩ := plain_l3' ls hls o hd hv ((ls.take i).map (fun t => t.map (nw o))) i hil (by simp; omega) h2 hlm (rd_L4 ls i).length 0 (by omega)
    dsimp only at hF
    refine ⟨F + 1, fun k hk => ?_⟩
    obtain ⟨m, rfl⟩ : ∃ m, k = m + 1 := ⟨k - 1, by omega⟩
    have h := hF m (by omega)
    simp only [ropewalkref02_Plain.l2]
    rw [if_pos (by omega), Option.bind_some, if_pos (by omega), if_pos (by simp; omega)]
    simpa using h
/-- The document's Plain, in numbers. -/
theorem plain2_f (ls : List (List Int)) (hls : 99 * ls.length ≤ 17592186044415) (hl : ∀ t ∈ ls, t.length ≤ 17592186044415) : Ev1 (fun k => ropewalkref02_Plain.f k ls) (ls.map fun t => t.map (nw (vd [] ls.flatten))) := by
  have hd : (vd [] ls.flatten).Nodup := vd_nodup _ _ List.nodup_nil
  have hv : VarL (vd [] ls.flatten) := vd_var _ _ (fun x hx => by simp at hx)
  have h2 := plain_l2' ls hls hl _ hd hv ls.length 0 (by omega)
  have h0 := plain_l0' ls hls hl (r := ls.map fun t => t.map (nw (vd [] ls.flatten))) (by simpa using h2) ls.length 0 (by omega)
  refine h0.eq fun k => ?_
  unfold ropewalkref02_Plain.f
  simp [gat]
end Go.Proofs.Ytadjoaipmcbieaa

/-! P3 -/
namespace Go.Proofs.Ytadjoaipmcbieaa
open Go.RowKit Go.Proofs.YtadjoaipmcbieaaW.PrintWords Go.Proofs.YtadjoaipmcbieaaW.PrintLast Go.Proofs.YtadjoaipmcbieaaW.PrintMore A
set_option linter.unusedSimpArgs false
set_option linter.unusedVariables false
/-- What stands for a variable. -/
def bnd (out : List S83) (v : Int) : Option (List Int) := (out.find? fun b => b.f0 == v).map (·.f1)
/-- A bind among some, by rising variables. -/
def ins : List S83 → S83 → List S83
  | [], b => [b]
  | x :: xs, b => if b.f0 < x.f0 then b :: x :: xs else x :: ins xs b
/-- The binds of a pattern (from a place on). -/
def mtc (l : List S89) (T : List Int) : List Int → Nat → List S83 → Option (List S83)
  | [], _, out => some out
  | n :: ps, k, out => if 0 ≤ n then (if rd T k = n then mtc l T ps (k + 1) out else none)
    else match bnd out (-n) with
      | some old => if old = subL l T k then mtc l T ps (k + (subL l T k).length) out else none
      | none => mtc l T ps (k + (subL l T k).length) (ins out ⟨-n, subL l T k⟩)
theorem ins_len (b : S83) : ∀ (xs : List S83), (ins xs b).length = xs.length + 1
  | [] => rfl
  | x :: xs => by simp only [ins]; split <;> simp [ins_len b xs]
theorem ins_mem {b x : S83} : ∀ {xs : List S83}, x ∈ ins xs b → x = b ∨ x ∈ xs
  | [], h => .inl (by simpa [ins] using h)
  | y :: xs, h => by
    simp only [ins] at h
    split at h
    · rcases List.mem_cons.1 h with h | h
      · exact .inl h
      · exact .inr h
    · rcases List.mem_cons.1 h with h | h
      · exact .inr (by simp [h])
      · rcases ins_mem h with h | h
        · exact .inl h
        · exact .inr (by simp [h])
theorem bnd_mem {out : List S83} {v : Int} {t : List Int} (h : bnd out v = some t) : ∃ b, b ∈ out ∧ b.f0 = v ∧ b.f1 = t := by
  unfold bnd at h
  cases hf : out.find? (fun b => b.f0 == v) with
  | none => rw [hf] at h; cases h
  | some b =>
    rw [hf] at h
    have := List.find?_some hf
    exact ⟨b, List.mem_of_find?_eq_some hf, by simpa using this, by simpa using h⟩
theorem rd83_drop {xs : List S83} {i : Nat} (h : i < xs.length) : xs.drop i = rd_T83 xs i :: xs.drop (i + 1) := by
  rw [List.drop_eq_getElem_cons h]
  simp [rd_T83, List.getD_eq_getElem?_getD, h]
theorem bound_l0 (xs : List S83) (v : Int) (hx : xs.length ≤ 4398046511104) : ∀ (d i : Nat), i + d = xs.length → Ev1 (fun k => ropewalkref05_Bound.l0 k xs v i) (match bnd (xs.drop i) v with | some t => (t, true) | none => ([], false)) := by
  intro d
  induction d with
  | zero =>
    intro i hi
    refine ⟨1, fun k hk => ?_⟩
    obtain ⟨m, rfl⟩ : ∃ m, k = m + 1 := ⟨k - 1, by omega⟩
    simp only [ropewalkref05_Bound.l0]
    rw [if_neg (by omega), List.drop_of_length_le (by omega)]; rfl
  | succ d ih =>
    intro i hi
    have hil : i < xs.length := by omega
    obtain ⟨F, hF⟩ := ih (i + 1) (by omega)
    dsimp only at hF
    refine ⟨F + 1, fun k hk => ?_⟩
    obtain ⟨m, rfl⟩ : ∃ m, k = m + 1 := ⟨k - 1, by omega⟩
    simp only [ropewalkref05_Bound.l0]
    rw [if_pos (by omega), if_pos (by omega), rd83_drop hil]
    by_cases e : (rd_T83 xs i).f0 = v
    · rw [if_pos e]
      have e1 : bnd (rd_T83 xs i :: xs.drop (i + 1)) v = some (rd_T83 xs i).f1 := by
        unfold bnd
        rw [List.find?_cons_of_pos (by simp [e])]; rfl
      rw [e1]
    · rw [if_neg e, wsuc (by omega), hF m (by omega)]
      have e1 : bnd (rd_T83 xs i :: xs.drop (i + 1)) v = bnd (xs.drop (i + 1)) v := by
        unfold bnd
        rw [List.find?_cons_of_neg (by simp [e])]
      rw [e1]
theorem bound_f (xs : List S83) (v : Int) (hx : xs.length ≤ 4398046511104) : Ev1 (fun k => ropewalkref05_Bound.f k xs v) (match bnd xs v with | some t => (t, true) | none => ([], false)) := by
  have h := bound_l0 xs v hx xs.length 0 (by omega)
  rw [List.drop_zero] at h
  exact h
theorem into_l0 (xs : List S83) (b : S83) (hx : xs.length ≤ 100000) : ∀ (d i : Nat) (put : Bool) (out : List S83), i + d = xs.length → out.length + (if put = true then 0 else 1) ≤ i + 1 →
    Ev1 (fun k => ropewalkref05_into.l0 k xs out put i b.f0 b.f1) (out ++ (if put = true then xs.drop i else ins (xs.drop i) b)) := by
  intro d
  induction d with
  | zero =>
    intro i put out hi ho
    refine ⟨1, fun k hk => ?_⟩
    obtain ⟨m, rfl⟩ : ∃ m, k = m + 1 := ⟨k - 1, by omega⟩
    simp only [ropewalkref05_into.l0]
    rw [if_neg (by omega), List.drop_of_length_le (by omega)]
    cases put
    · rw [if_neg (by decide)] at ho
      rw [if_neg (by decide), if_pos (by omega), if_neg (by decide)]; rfl
    · rw [if_pos rfl, if_pos rfl]; simp
  | succ d ih =>
    intro i put out hi ho
    have hil : i < xs.length := by omega
    rw [rd83_drop hil]
    cases put
    · rw [if_neg (by decide)] at ho ⊢
      by_cases e : b.f0 < (rd_T83 xs i).f0
      · obtain ⟨F, hF⟩ := ih (i + 1) true (out ++ [b] ++ [rd_T83 xs i]) (by omega) (by simp; omega)
        dsimp only at hF
        refine ⟨F + 1, fun k hk => ?_⟩
        obtain ⟨m, rfl⟩ : ∃ m, k = m + 1 := ⟨k - 1, by omega⟩
        simp only [ropewalkref05_into.l0, ins]
        rw [if_pos (by omega), if_neg (by decide), if_pos (by omega), if_pos e, if_pos (by omega), Option.bind_some, if_pos (by simp; omega), wsuc (by omega), if_pos e]
        have h := hF m (by omega)
        rw [if_pos rfl] at h
        rw [show (⟨(rd_T83 xs i).f0, (rd_T83 xs i).f1⟩ : S83) = rd_T83 xs i from rfl, show (⟨b.f0, b.f1⟩ : S83) = b from rfl, h]
        simp
      · obtain ⟨F, hF⟩ := ih (i + 1) false (out ++ [rd_T83 xs i]) (by omega) (by simp; omega)
        dsimp only at hF
        refine ⟨F + 1, fun k hk => ?_⟩
        obtain ⟨m, rfl⟩ : ∃ m, k = m + 1 := ⟨k - 1, by omega⟩
        simp only [ropewalkref05_into.l0, ins]
        rw [if_pos (by omega), if_neg (by decide), if_pos (by omega), if_neg e, if_pos (by omega), wsuc (by omega), if_neg e]
        have h := hF m (by omega)
        rw [if_neg (by decide)] at h
        rw [show (⟨(rd_T83 xs i).f0, (rd_T83 xs i).f1⟩ : S83) = rd_T83 xs i from rfl, h]
        simp
    · rw [if_pos rfl] at ho ⊢
      obtain ⟨F, hF⟩ := ih (i + 1) true (out ++ [rd_T83 xs i]) (by omega) (by simp; omega)
      dsimp only at hF
      refine ⟨F + 1, fun k hk => ?_⟩
      obtain ⟨m, rfl⟩ : ∃ m, k = m + 1 := ⟨k - 1, by omega⟩
      simp only [ropewalkref05_into.l0]
      rw [if_pos (by omega), if_pos trivial, if_pos (by omega), if_pos (by omega), wsuc (by omega)]
      have h := hF m (by omega)
      rw [if_pos rfl] at h
      rw [show (⟨(rd_T83 xs i).f0, (rd_T83 xs i).f1⟩ : S83) = rd_T83 xs i from rfl, h]
      simp
theorem into_f (xs : List S83) (b : S83) (hx : xs.length ≤ 100000) : Ev1 (fun k => ropewalkref05_into.f k xs b.f0 b.f1) (ins xs b) := by
  have h := into_l0 xs b hx xs.length 0 false [] (by omega) (by simp)
  rw [List.drop_zero, if_neg (by decide), List.nil_append] at h
  exact h
theorem same_ev (xs ys : List Int) (hx : xs.length ≤ 9223372036854775807) : Ev1 (fun k => ropewalkref02_Same.f k xs ys) (decide (xs = ys)) :=
  ⟨_, fun k hk => at_rounds (g := fun k => ropewalkref02_Same.f k xs ys) (fun k => ropewalkref02_Same.mono xs ys k) hk (same_f xs ys hx)⟩
/-- What Match tells of the binds. -/
def mtV : Option (List S83) → List S83 × Bool
  | some out => (out, true)
  | none => ([], false)
section
variable {l : List S89} {P T : List Int}
/-- What is left of the pattern stands before what is left of the term. -/
def Fit (l : List S89) (ps ts : List Int) : Prop := ∃ j us r, IsT (an l) j ps ∧ ts = us ++ r ∧ IsT (an l) j us
theorem Fit.sym {n : Int} {ps ts : List Int} (h : Fit l (n :: ps) (n :: ts)) : Fit l ps ts := by
  obtain ⟨j, us, r, h1, h2, h3⟩ := h
  obtain ⟨m, rfl, h4⟩ := h1.uncons
  cases us with
  | nil => cases h3.of_nil
  | cons u us =>
    simp only [List.cons_append, List.cons.injEq] at h2
    obtain ⟨rfl, rfl⟩ := h2
    obtain ⟨m', e, h5⟩ := h3.uncons
    obtain rfl : m = m' := by omega
    exact ⟨_, us, r, h4, rfl, h5⟩
theorem Fit.ne {n : Int} {ps ts : List Int} (h : Fit l (n :: ps) ts) : ts ≠ [] := by
  obtain ⟨j, us, r, h1, h2, h3⟩ := h
  obtain ⟨m, rfl, _⟩ := h1.uncons
  have := h3.pos
  intro e
  rw [e] at h2
  have := congrArg List.length h2
  simp at this; omega
theorem Fit.var {n : Int} {ps ts : List Int} (h : Fit l (n :: ps) ts) (hn : n < 0) : ∃ u r, ts = u ++ r ∧ Ter l u ∧ Fit l ps r := by
  obtain ⟨j, us, r, h1, h2, h3⟩ := h
  obtain ⟨m, rfl, h4⟩ := h1.uncons
  rw [an_neg hn, Nat.zero_add] at h4
  rw [Nat.add_comm] at h3
  obtain ⟨u, vs, rfl, h5, h6⟩ := h3.split
  exact ⟨u, vs ++ r, by rw [h2, List.append_assoc], h5, m, vs, r, h4, rfl, h6⟩
theorem match_l0 (hl : GoodL l) (hT : Ter l T) (ht : T.length ≤ 2000) (hP : P.length ≤ 2000) (hPl : ∀ n ∈ P, -99 ≤ n) : ∀ (d i k : Nat) (out : List S83), i + d = P.length → k ≤ T.length → Fit l (P.drop i) (T.drop k) → out.length ≤ i → (∀ b ∈ out, b.f1.length ≤ 2000) →
    Ev1 (fun f => ropewalkref05_Match.l0 f l P T out k i) (mtV (mtc l T (P.drop i) k out)) := by
  intro d
  induction d with
  | zero =>
    intro i k out hi hk hf ho hO
    refine ⟨1, fun f hf => ?_⟩
    obtain ⟨m, rfl⟩ : ∃ m, f = m + 1 := ⟨f - 1, by omega⟩
    simp only [ropewalkref05_Match.l0]
    rw [if_neg (by omega), List.drop_of_length_le (by omega)]; rfl
  | succ d ih =>
    intro i k out hi hk hf ho hO
    have hil : i < P.length := by omega
    have hm : rd P i ∈ P := rd_mem hil
    have hlow := hPl _ hm
    rw [drop_rd P i hil] at hf ⊢
    have hkl : k < T.length := by
      have := hf.ne
      rcases Nat.lt_or_ge k T.length with h | h
      · exact h
      · exact absurd (List.drop_of_length_le h) this
    by_cases h0 : 0 ≤ rd P i
    · by_cases e : rd T k = rd P i
      · rw [drop_rd T k hkl, e] at hf
        obtain ⟨F, hF⟩ := ih (i + 1) (k + 1) out (by omega) (by omega) hf.sym (by omega) hO
        dsimp only at hF
        refine ⟨F + 1, fun f hf => ?_⟩
        obtain ⟨m, rfl⟩ : ∃ m, f = m + 1 := ⟨f - 1, by omega⟩
        simp only [ropewalkref05_Match.l0, mtc]
        rw [if_pos (by omega), if_pos (by omega), if_pos (by omega), if_pos (by omega), if_pos (by omega), if_pos e, wsuc (by omega), wsuc (by omega), if_pos h0, if_pos e]
        exact hF m (by omega)
      · refine ⟨1, fun f hf => ?_⟩
        obtain ⟨m, rfl⟩ : ∃ m, f = m + 1 := ⟨f - 1, by omega⟩
        simp only [ropewalkref05_Match.l0, mtc]
        rw [if_pos (by omega), if_pos (by omega), if_pos (by omega), if_pos (by omega), if_pos (by omega), if_neg e, if_pos h0, if_neg e]; rfl
    · obtain ⟨u, r, e, hu, hf2⟩ := hf.var (by omega)
      have hs : subL l T k = u := subL_of hl e hu
      have hlen : k + u.length ≤ T.length := by
        have := congrArg List.length e
        simp at this; omega
      have hdr : T.drop (k + u.length) = r := by rw [← List.drop_drop, e]; simp
      rw [← hdr] at hf2
      obtain ⟨B, hB⟩ := bound_f out (-(rd P i)) (by omega)
      dsimp only at hB
      have hsub : ∀ f, T.length < f → ropewalkref02_Sub.f f l T k = some u := fun f hf => by rw [rsub hl hT ht hkl hf, hs]
      have hw1 : wrap64 (-(rd P i)) = -(rd P i) := wrap_id (by omega) (by omega)
      have hw2 : wrap64 ((k : Int) + (u.length : Int)) = ((k + u.length : Nat) : Int) := by rw [wrap_id (by omega) (by omega)]; rfl
      have hmt : mtc l T (rd P i :: P.drop (i + 1)) k out = match bnd out (-(rd P i)) with
        | some old => if old = u then mtc l T (P.drop (i + 1)) (k + u.length) out else none
        | none => mtc l T (P.drop (i + 1)) (k + u.length) (ins out ⟨-(rd P i), u⟩) := by
          rw [mtc, if_neg h0, hs]
      rw [hmt]
      cases hb : bnd out (-(rd P i)) with
      | some old =>
        rw [hb] at hB
        dsimp only at hB ⊢
        have hol : old.length ≤ 2000 := by
          obtain ⟨b, h1, _, h3⟩ := bnd_mem hb
          rw [← h3]; exact hO b h1
        by_cases heq : old = u
        · rw [if_pos heq]
          obtain ⟨F, hF⟩ := ih (i + 1) (k + u.length) out (by omega) hlen hf2 (by omega) hO
          dsimp only at hF
          obtain ⟨G, hG⟩ := same_ev old u (by rw [heq]; omega)
          dsimp only at hG
          refine ⟨F + G + B + T.length + 2, fun f hf => ?_⟩
          obtain ⟨m, rfl⟩ : ∃ m, f = m + 1 := ⟨f - 1, by omega⟩
          simp only [ropewalkref05_Match.l0]
          rw [if_pos (by omega), if_pos (by omega), if_neg (by omega), hsub m (by omega), Option.bind_some, hw1, hB m (by omega), Option.bind_some, if_pos rfl, hG m (by omega), Option.bind_some, decide_eq_true heq, if_pos rfl, hw2, wsuc (by omega)]
          exact hF m (by omega)
        · rw [if_neg heq]
          obtain ⟨G, hG⟩ := same_ev old u (by omega)
          dsimp only at hG
          refine ⟨G + B + T.length + 2, fun f hf => ?_⟩
          obtain ⟨m, rfl⟩ : ∃ m, f = m + 1 := ⟨f - 1, by omega⟩
          simp only [ropewalkref05_Match.l0]
          rw [if_pos (by omega), if_pos (by omega), if_neg (by omega), hsub m (by omega), Option.bind_some, hw1, hB m (by omega), Option.bind_some, if_pos rfl, hG m (by omega), Option.bind_some, decide_eq_false heq, if_neg (by decide)]
          rfl
      | none =>
        rw [hb] at hB
        dsimp only at hB ⊢
        obtain ⟨F, hF⟩ := ih (i + 1) (k + u.length) (ins out ⟨-(rd P i), u⟩) (by omega) hlen hf2 (by rw [ins_len]; omega) (fun b hb => by
          rcases ins_mem hb with rfl | hb
          · show u.length ≤ 2000; omega
          · exact hO b hb)
        dsimp only at hF
        obtain ⟨G, hG⟩ := into_f out ⟨-(rd P i), u⟩ (by omega)
        dsimp only at hG
        refine ⟨F + G + B + T.length + 2, fun f hf => ?_⟩
        obtain ⟨m, rfl⟩ : ∃ m, f = m + 1 := ⟨f - 1, by omega⟩
        simp only [ropewalkref05_Match.l0]
        rw [if_pos (by omega), if_pos (by omega), if_neg (by omega), hsub m (by omega), Option.bind_some, hw1, hB m (by omega), Option.bind_some, if_neg (by decide), hG m (by omega), Option.bind_some, hw2, wsuc (by omega)]
        exact hF m (by omega)
theorem match_f (hl : GoodL l) (hT : Ter l T) (ht : T.length ≤ 2000) (hc : chk l P = 0) {p : Nat} (hp : p < T.length) : Ev1 (fun f => ropewalkref05_Match.f f l P T p) (mtV (mtc l T P p [])) := by
  obtain ⟨s, r, e, hs⟩ := hT.at_ hp
  have h := match_l0 hl hT ht (chk_len hc) (fun n hn => by
    have h2 := ((chk_iff hl).1 hc).2.2 n hn
    unfold badN at h2
    split at h2
    · omega
    · split at h2 <;> omega) P.length 0 p [] (by omega) (by omega) ⟨1, s, r, by rw [List.drop_zero]; exact chk_ter hl hc, e, hs⟩ (by simp) (fun b hb => by simp at hb)
  rw [List.drop_zero] at h
  exact h
end
end Go.Proofs.Ytadjoaipmcbieaa
