/- The texts K0, E0, E1, joined by wip/slim.py: what the claim's theorem needs of them. (Those named W.. and G.. were printed by the kit's print.py for this seat.) -/
import Derived.Test.YtadjoaipmcbieaaOC5
import Derived.Test.YtadjoaipmcbieaaRows
import Derived.ProofKit
import Derived.JoinedOf
import Derived.OpenShut
import Derived.ChangeOld
import Derived.Carry
import Derived.SizedLaws
import Derived.Deep.Slices
import Derived.Deep.Fields
import Derived.ChangeSame

/-! K0 -/
namespace Go.Proofs.Ytadjoaipmcbieaa.Closed
open Go.RowKit Go
set_option maxRecDepth 100000
/-- Letters by their numbers. -/
def ch (l : List Nat) : List Char := l.map Char.ofNat
def cs : List Char := ch [104, 97, 114, 110, 101, 115, 115, 32, 99, 100, 98, 50, 56, 102, 52, 50, 97, 101, 50, 50, 100, 50, 50, 54, 48, 48, 97, 50, 55, 56, 99, 53, 53, 98, 99, 54, 99, 48, 51, 49, 102, 53, 49, 100, 97, 53, 99, 100, 51, 49, 53, 98, 56, 99, 57, 49, 52, 54, 101, 97, 97, 57, 51, 99, 56, 57, 55, 54, 55, 55, 101, 54, 32, 99, 117, 116, 32, 97, 116, 32, 114, 111, 112, 101, 119, 97, 108, 107, 47, 114, 111, 112, 101, 119, 97, 108, 107, 108, 97, 119, 48, 50, 46, 84, 101, 114, 109, 78, 97, 109, 101, 115, 32, 114, 111, 112, 101, 119, 97, 108, 107, 47, 114, 111, 112, 101, 119, 97, 108, 107, 108, 97, 119, 48, 50, 46, 84, 101, 114, 109, 80, 117, 116, 115, 32, 114, 111, 112, 101, 119, 97, 108, 107, 47, 114, 111, 112, 101, 119, 97, 108, 107, 108, 97, 119, 48, 50, 46, 84, 101, 114, 109, 76, 101, 97, 100, 115, 32, 114, 111, 112, 101, 119, 97, 108, 107, 47, 114, 111, 112, 101, 119, 97, 108, 107, 108, 97, 119, 48, 50, 46, 84, 101, 114, 109, 84, 105, 108, 101, 115, 32, 114, 111, 112, 101, 119, 97, 108, 107, 47, 114, 111, 112, 101, 119, 97, 108, 107, 108, 97, 119, 48, 50, 46, 84, 101, 114, 109, 67, 104, 101, 99, 107, 115, 32, 114, 111, 112, 101, 119, 97, 108, 107, 47, 114, 111, 112, 101, 119, 97, 108, 107, 108, 97, 119, 48, 50, 46, 84, 101, 114, 109, 66, 97, 99, 107, 32, 114, 111, 112, 101, 119, 97, 108, 107, 47, 114, 111, 112, 101, 119, 97, 108, 107, 108, 97, 119, 48, 50, 46, 84, 101, 114, 109, 67, 117, 116, 115, 32, 114, 111, 112, 101, 119, 97, 108, 107, 47, 114, 111, 112, 101, 119, 97, 108, 107, 108, 97, 119, 48, 50, 46, 84, 101, 114, 109, 80, 108, 97, 105, 110, 115, 32, 114, 111, 112, 101, 119, 97, 108, 107, 47, 114, 111, 112, 101, 119, 97, 108, 107, 108, 97, 119, 48, 50, 46, 84, 101, 114, 109, 78, 105, 108, 32, 114, 111, 112, 101, 119, 97, 108, 107, 47, 114, 111, 112, 101, 119, 97, 108, 107, 108, 97, 119, 48, 54, 46, 85, 110, 105, 102, 121, 78, 97, 109, 101, 115, 32, 114, 111, 112, 101, 119, 97, 108, 107, 47, 114, 111, 112, 101, 119, 97, 108, 107, 108, 97, 119, 48, 54, 46, 85, 110, 105, 102, 121, 84, 101, 108, 108, 115, 32, 114, 111, 112, 101, 119, 97, 108, 107, 47, 114, 111, 112, 101, 119, 97, 108, 107, 108, 97, 119, 48, 54, 46, 85, 110, 105, 102, 121, 79, 118, 101, 114, 108, 97, 112, 115, 32, 114, 111, 112, 101, 119, 97, 108, 107, 47, 114, 111, 112, 101, 119, 97, 108, 107, 108, 97, 119, 48, 54, 46, 85, 110, 105, 102, 121, 73, 110, 115, 116, 97, 110, 99, 101, 32, 114, 111, 112, 101, 119, 97, 108, 107, 47, 114, 111, 112, 101, 119, 97, 108, 107, 108, 97, 119, 48, 54, 46, 85, 110, 105, 102, 121, 83, 101, 108, 102, 32, 114, 111, 112, 101, 119, 97, 108, 107, 47, 114, 111, 112, 101, 119, 97, 108, 107, 108, 97, 119, 48, 54, 46, 85, 110, 105, 102, 121, 78, 105, 108, 32, 114, 111, 112, 101, 119, 97, 108, 107, 47, 114, 111, 112, 101, 119, 97, 108, 107, 108, 97, 119, 48, 53, 46, 77, 97, 116, 99, 104, 78, 97, 109, 101, 115, 32, 114, 111, 112, 101, 119, 97, 108, 107, 47, 114, 111, 112, 101, 119, 97, 108, 107, 108, 97, 119, 48, 53, 46, 77, 97, 116, 99, 104, 70, 105, 116, 115, 32, 114, 111, 112, 101, 119, 97, 108, 107, 47, 114, 111, 112, 101, 119, 97, 108, 107, 108, 97, 119, 48, 53, 46, 77, 97, 116, 99, 104, 65, 112, 112, 108, 105, 101, 115, 32, 114, 111, 112, 101, 119, 97, 108, 107, 47, 114, 111, 112, 101, 119, 97, 108, 107, 108, 97, 119, 48, 53, 46, 77, 97, 116, 99, 104, 65, 108, 105, 107, 101, 32, 114, 111, 112, 101, 119, 97, 108, 107, 47, 114, 111, 112, 101, 119, 97, 108, 107, 108, 97, 119, 48, 53, 46, 77, 97, 116, 99, 104, 66, 97, 99, 107, 32, 114, 111, 112, 101, 119, 97, 108, 107, 47, 114, 111, 112, 101, 119, 97, 108, 107, 108, 97, 119, 48, 53, 46, 77, 97, 116, 99, 104, 73, 110, 115, 116, 97, 110, 99, 101, 32, 114, 111, 112, 101, 119, 97, 108, 107, 47, 114, 111, 112, 101, 119, 97, 108, 107, 108, 97, 119, 48, 53, 46, 77, 97, 116, 99, 104, 78, 105, 108]
theorem io : Try.prog.initOrder = String.ofList cs := by kernel_rfl
theorem io' : Try.prog.initOrder.toList = cs := by rw [io, String.toList_ofList]
def wd : List (List Char) := [ch [99, 117, 116], ch [97, 116], ch [114, 111, 112, 101, 119, 97, 108, 107, 47, 114, 111, 112, 101, 119, 97, 108, 107, 108, 97, 119, 48, 50, 46, 84, 101, 114, 109, 78, 97, 109, 101, 115], ch [114, 111, 112, 101, 119, 97, 108, 107, 47, 114, 111, 112, 101, 119, 97, 108, 107, 108, 97, 119, 48, 50, 46, 84, 101, 114, 109, 80, 117, 116, 115], ch [114, 111, 112, 101, 119, 97, 108, 107, 47, 114, 111, 112, 101, 119, 97, 108, 107, 108, 97, 119, 48, 50, 46, 84, 101, 114, 109, 76, 101, 97, 100, 115], ch [114, 111, 112, 101, 119, 97, 108, 107, 47, 114, 111, 112, 101, 119, 97, 108, 107, 108, 97, 119, 48, 50, 46, 84, 101, 114, 109, 84, 105, 108, 101, 115], ch [114, 111, 112, 101, 119, 97, 108, 107, 47, 114, 111, 112, 101, 119, 97, 108, 107, 108, 97, 119, 48, 50, 46, 84, 101, 114, 109, 67, 104, 101, 99, 107, 115], ch [114, 111, 112, 101, 119, 97, 108, 107, 47, 114, 111, 112, 101, 119, 97, 108, 107, 108, 97, 119, 48, 50, 46, 84, 101, 114, 109, 66, 97, 99, 107], ch [114, 111, 112, 101, 119, 97, 108, 107, 47, 114, 111, 112, 101, 119, 97, 108, 107, 108, 97, 119, 48, 50, 46, 84, 101, 114, 109, 67, 117, 116, 115], ch [114, 111, 112, 101, 119, 97, 108, 107, 47, 114, 111, 112, 101, 119, 97, 108, 107, 108, 97, 119, 48, 50, 46, 84, 101, 114, 109, 80, 108, 97, 105, 110, 115], ch [114, 111, 112, 101, 119, 97, 108, 107, 47, 114, 111, 112, 101, 119, 97, 108, 107, 108, 97, 119, 48, 50, 46, 84, 101, 114, 109, 78, 105, 108], ch [114, 111, 112, 101, 119, 97, 108, 107, 47, 114, 111, 112, 101, 119, 97, 108, 107, 108, 97, 119, 48, 54, 46, 85, 110, 105, 102, 121, 78, 97, 109, 101, 115], ch [114, 111, 112, 101, 119, 97, 108, 107, 47, 114, 111, 112, 101, 119, 97, 108, 107, 108, 97, 119, 48, 54, 46, 85, 110, 105, 102, 121, 84, 101, 108, 108, 115], ch [114, 111, 112, 101, 119, 97, 108, 107, 47, 114, 111, 112, 101, 119, 97, 108, 107, 108, 97, 119, 48, 54, 46, 85, 110, 105, 102, 121, 79, 118, 101, 114, 108, 97, 112, 115], ch [114, 111, 112, 101, 119, 97, 108, 107, 47, 114, 111, 112, 101, 119, 97, 108, 107, 108, 97, 119, 48, 54, 46, 85, 110, 105, 102, 121, 73, 110, 115, 116, 97, 110, 99, 101], ch [114, 111, 112, 101, 119, 97, 108, 107, 47, 114, 111, 112, 101, 119, 97, 108, 107, 108, 97, 119, 48, 54, 46, 85, 110, 105, 102, 121, 83, 101, 108, 102], ch [114, 111, 112, 101, 119, 97, 108, 107, 47, 114, 111, 112, 101, 119, 97, 108, 107, 108, 97, 119, 48, 54, 46, 85, 110, 105, 102, 121, 78, 105, 108], ch [114, 111, 112, 101, 119, 97, 108, 107, 47, 114, 111, 112, 101, 119, 97, 108, 107, 108, 97, 119, 48, 53, 46, 77, 97, 116, 99, 104, 78, 97, 109, 101, 115], ch [114, 111, 112, 101, 119, 97, 108, 107, 47, 114, 111, 112, 101, 119, 97, 108, 107, 108, 97, 119, 48, 53, 46, 77, 97, 116, 99, 104, 70, 105, 116, 115], ch [114, 111, 112, 101, 119, 97, 108, 107, 47, 114, 111, 112, 101, 119, 97, 108, 107, 108, 97, 119, 48, 53, 46, 77, 97, 116, 99, 104, 65, 112, 112, 108, 105, 101, 115], ch [114, 111, 112, 101, 119, 97, 108, 107, 47, 114, 111, 112, 101, 119, 97, 108, 107, 108, 97, 119, 48, 53, 46, 77, 97, 116, 99, 104, 65, 108, 105, 107, 101], ch [114, 111, 112, 101, 119, 97, 108, 107, 47, 114, 111, 112, 101, 119, 97, 108, 107, 108, 97, 119, 48, 53, 46, 77, 97, 116, 99, 104, 66, 97, 99, 107], ch [114, 111, 112, 101, 119, 97, 108, 107, 47, 114, 111, 112, 101, 119, 97, 108, 107, 108, 97, 119, 48, 53, 46, 77, 97, 116, 99, 104, 73, 110, 115, 116, 97, 110, 99, 101], ch [114, 111, 112, 101, 119, 97, 108, 107, 47, 114, 111, 112, 101, 119, 97, 108, 107, 108, 97, 119, 48, 53, 46, 77, 97, 116, 99, 104, 78, 105, 108]]
def hw : List Char := ch [104, 97, 114, 110, 101, 115, 115]
def sw : List Char := ch [99, 100, 98, 50, 56, 102, 52, 50, 97, 101, 50, 50, 100, 50, 50, 54, 48, 48, 97, 50, 55, 56, 99, 53, 53, 98, 99, 54, 99, 48, 51, 49, 102, 53, 49, 100, 97, 53, 99, 100, 51, 49, 53, 98, 56, 99, 57, 49, 52, 54, 101, 97, 97, 57, 51, 99, 56, 57, 55, 54, 55, 55, 101, 54]
theorem ws0 : wordsSigns cs = hw :: sw :: wd := by kernel_rfl
theorem bm {h s : List Char} {r : List (List Char)} (h1 : (h == "harness".toList) = true) (h2 : isSumSigns s = true) : behindMainWord (h :: s :: r) = r := by
  unfold behindMainWord; simp only [h1, h2, Bool.true_or, Bool.and_true, if_true]
theorem ws : behindMainWord (wordsSigns Try.prog.initOrder.toList) = wd := by
  rw [io', ws0]; exact bm (by kernel_rfl) (by kernel_rfl)
theorem c_sl : stripLifts liftWords wd = ([], wd) := by kernel_rfl
theorem hc : (wd.head? == some "cut".toList) = true := by kernel_rfl
theorem hl : Try.prog.headLifts = [] := by
  unfold Program.headLifts; rw [ws, c_sl]; simp only [hc, if_true]
theorem make_of {P : Program} {w : List (List Char)} (h : behindMainWord (wordsSigns P.initOrder.toList) = w) (hw : ∃ c r, w = c :: r) (hg : ∀ c, w.head? = some c → (c == "gc".toList) = false ∧ (c == "spec".toList) = false ∧ (c == "cut".toList) = true) : P.make = some Make.cut := by
  obtain ⟨c, r, rfl⟩ := hw
  obtain ⟨g1, g2, g3⟩ := hg c rfl
  unfold Program.make
  rw [h]
  simp only [g1, g2, g3, Bool.false_or, Bool.true_or, if_true]
  simp
theorem c_make : Try.prog.make = some Make.cut := make_of ws ⟨_, _, rfl⟩ (by
  intro c hc; cases hc; exact ⟨by kernel_rfl, by kernel_rfl, by kernel_rfl⟩)
theorem l1 : (wd.head? == some "carried".toList) = false := by kernel_rfl
theorem c_lifts : Try.prog.liftsFinal = false := by
  unfold Program.liftsFinal; rw [hl, ws]
  simp only [l1, Bool.false_and, Bool.false_or]
  rfl
theorem c_later : Try.prog.laysLater = false := by kernel_rfl
theorem c_bears : Try.prog.bearsReflect = false := by kernel_rfl
theorem c_door : Try.prog.doorFits [] = true := by kernel_rfl
theorem wd_cons : ∃ c r, wd = c :: r := ⟨_, _, rfl⟩
theorem may_of {P : Program} {w : List (List Char)} (h : behindMainWord (wordsSigns P.initOrder.toList) = w) (hw : ∃ c r, w = c :: r) (hs : stripLifts liftWords w = ([], w)) (hh : (w.head? == some "cut".toList) = true)
    (h1 : P.laysLater = false) (h2 : P.bearsReflect = false) (h3 : P.doorFits [] = true) : P.mayEnter = true := by
  obtain ⟨c, r, rfl⟩ := hw
  unfold Program.mayEnter
  rw [h]
  simp only [hs, h1, h2, h3, hh, Bool.not_false, Bool.or_true, Bool.and_true, Bool.true_and]
  simp
theorem c_may : Try.prog.mayEnter = true := may_of ws wd_cons c_sl hc c_later c_bears c_door
theorem s_laid : laidOutB Try.prog = true := by kernel_rfl
theorem s_maps : mapsRowed Try.prog = true := by kernel_rfl
theorem s_stops : Try.prog.stops = [] := by kernel_rfl
theorem s_knobs : Try.prog.stopKnobs = [] := by kernel_rfl
theorem s_keys : Try.prog.plainKeys = true := by kernel_rfl
theorem s_heard : Try.prog.stopsHeard = true := by kernel_rfl
/-- The row's own part. -/
def rest (P : Program) (f : FuncId) (fn : Func) (s : ChangeSpec) (c : OpenClaim) : Bool :=
  c.wf (OpenSpec.ofChange s) && true && true &&
  fn.params.all (P.readableRec ·) && namedTie P c.named s.vars &&
  (c.stops == []) && true && (c.knobs == []) && true &&
  (c.inPlace == P.inPlace f) && (c.unfollowed == P.unfollowed f) && (c.recurses == P.recurses f) && (c.named == P.varsNamed f) &&
  (c.maps == (fn.params.toList ++ s.plain.varTypes P).any (P.mapsRec ·)) && (c.ifaces == (fn.params.toList ++ s.plain.varTypes P).any (P.ifacesRec ·)) && (c.mapsOut == P.mapsAmong fn.resultTypes.toList) &&
  (c.loops == (fn.params.toList ++ s.plain.varTypes P).any (P.loopsFrom ·)) && (c.wideKeys == (fn.params.toList ++ s.plain.varTypes P ++ fn.resultTypes.toList).any (P.wideKeysFrom ·)) &&
  s.vars.all (P.varReadable ·) && fn.resultTypes.all (fun t => P.readableRec t && decide (t < P.types.size)) && (c.ifacesOut == fn.resultTypes.toList.any (P.ifacesRec ·)) && (c.loopsOut == fn.resultTypes.toList.any (P.loopsFrom ·)) && (c.plainKeys == true) && c.shortTexts.isNone && true && true && (c.lifted == false) && (some Make.cut == some c.make) && (c.kinds == (if c.domain.isEmpty then [] else fn.params.toList.map fun t => match P.underlying t with | some (.int k) => some k | _ => none)) && (c.pinned == c.pinnedBy) &&
  (c.veiled == (fn.params.toList ++ s.plain.varTypes P ++ fn.resultTypes.toList).any (P.veiledRec ·)) && c.veiledFits P fn.params.toList (fn.params.toList ++ s.plain.varTypes P ++ fn.resultTypes.toList)
theorem closed_of {f : FuncId} {fn : Func} {s : ChangeSpec} {c : OpenClaim} (h : rest Try.prog f fn s c = true) : joinedFacts Try.prog f fn s c = true := by
  unfold joinedFacts
  rw [s_laid, s_maps, s_stops, s_knobs, s_keys, s_heard, c_may, c_lifts, c_make]
  exact h
end Go.Proofs.Ytadjoaipmcbieaa.Closed

/-! E0 -/
namespace Go.Proofs.Ytadjoaipmcbieaa
open Go.ChangeShapes Go.WideShapes Go.ChangeAt Go.Deep
open Go.RowKit Go.Proofs.YtadjoaipmcbieaaW.PrintWords Go.Proofs.YtadjoaipmcbieaaW.PrintLast Go.Proofs.YtadjoaipmcbieaaW.PrintMore A
section
variable {H : Type} {enc : TypeId × Value → H} {w : World} {base : Nat} {spare : Nat → Bool} {held : Bool}
theorem cells3 : Try.prog.cellsOf 3 = 1 := by kernel_rfl
theorem cells25 : Try.prog.cellsOf 25 = 1 := by kernel_rfl
end
end Go.Proofs.Ytadjoaipmcbieaa

/-! E1 -/
namespace Go.Proofs.Ytadjoaipmcbieaa
open Go.ChangeShapes Go.WideShapes Go.ChangeAt Go.Deep
open Go.RowKit Go.Proofs.YtadjoaipmcbieaaW.PrintWords Go.Proofs.YtadjoaipmcbieaaW.PrintLast Go.Proofs.YtadjoaipmcbieaaW.PrintMore A
section
variable {H : Type} {enc : TypeId × Value → H} {w : World} {base : Nat} {spare : Nat → Bool} {held : Bool}
theorem bulk_one (d : DataW H) : 1 ≤ Rows.uptoBulk d := by
  cases d with
  | lit l => cases l <;> simp [Rows.uptoBulk]
  | nil => simp [Rows.uptoBulk]
  | ptr d => simp [Rows.uptoBulk]
  | slice elems spare => simp [Rows.uptoBulk]
  | agg parts => simp [Rows.uptoBulk]
  | iface t d => simp [Rows.uptoBulk]
  | map entries => simp [Rows.uptoBulk]
  | held h => simp [Rows.uptoBulk]
theorem bulk_part {d : DataW H} {l : List (DataW H)} (h : d ∈ l) : Rows.uptoBulk d ≤ Rows.uptoBulkAll l := by
  induction l with
  | nil => cases h
  | cons x r ih =>
    simp only [Rows.uptoBulkAll]
    cases List.mem_cons.1 h with
    | inl e => subst e; omega
    | inr e => have := ih e; omega
theorem bulk_len (l : List (DataW H)) : l.length ≤ Rows.uptoBulkAll l := by
  induction l with
  | nil => simp [Rows.uptoBulkAll]
  | cons x r ih => have := bulk_one x; simp only [Rows.uptoBulkAll, List.length_cons]; omega
/-- A list of numbers that is read. -/
def NumsIn (w : World) (v : Value) (t : List Int) : Prop := ∃ (A : Option Addr) (c : Nat), v = .slice A t.length c ∧ t.length ≤ c ∧ Kd.C (Kd.int .i64) w A t.length t
theorem open_numsB {t : TypeId} {fuel : Nat} {v : Value} {x : DataW H × List MemPlace} (ht : Try.prog.underlying t = some (.slice 3)) (h : DataW.trod enc Try.prog w base spare held fuel t [v] = some x) :
    ∃ T : List Int, NumsIn w v T ∧ T.length ≤ Rows.uptoBulk x.1 := by
  rcases open_ints ht Try.underlying3 cells3 h with ⟨h0, hx⟩ | ⟨a, len, cap, zs, hcs, _, hl, hm, hz, hx, hcell, _⟩
  · obtain rfl := List.singleton_inj.1 h0
    exact ⟨[], ⟨none, 0, rfl, Nat.le_refl _, Kd.C_nil _ _⟩, by simp⟩
  · obtain rfl := List.singleton_inj.1 hcs
    have hzl : len ≤ zs.length := by rw [hz]; split <;> omega
    have hT : (zs.take len).length = len := by simp [hzl]
    refine ⟨zs.take len, ⟨some a, cap, by rw [hT], by rw [hT]; exact hl, ?_⟩, ?_⟩
    · rw [hT]
      refine ⟨hT, by unfold maxLen at hm; omega, fun _ => ⟨a, rfl, fun j p hj => ⟨[.int .i64 p], rfl, rfl, fun i u hu => ?_⟩⟩⟩
      have hjl : j < len := by have := (List.getElem?_eq_some_iff.1 hj).1; omega
      cases i with
      | zero =>
        simp at hu
        subst hu
        rw [show j * (Kd.int .i64).sz + 0 = j from by show j * 1 + 0 = j; omega, hcell j (by omega)]
        have : (zs.take len)[j]? = zs[j]? := by rw [List.getElem?_take, if_pos hjl]
        rw [this] at hj
        simp [List.getD_eq_getElem?_getD, hj]
      | succ i => simp at hu
    · subst hx
      have h2 := bulk_len (H := H) (lits .i64 (zs.take len))
      have h3 : (lits (H := H) .i64 (zs.take len)).length = len := by simp [lits, hzl]
      simp only [Rows.uptoBulk]
      rw [hT]; omega
theorem underlying54' : Try.prog.underlying 54 = some (.slice 25) := Try.underlying54
theorem open_terms {fuel : Nat} {v : Value} {x : DataW H × List MemPlace} (h : DataW.trod enc Try.prog w base spare held fuel 54 [v] = some x) (hb : Rows.uptoBulk x.1 ≤ 1048576) :
    ∃ (A : Option Addr) (c : Nat) (ls : List (List Int)), v = .slice A ls.length c ∧ ls.length ≤ c ∧ Kd.C (Kd.slice 3 (Kd.int .i64)) w A ls.length ls ∧ ls.length ≤ 1048576 ∧ ∀ t ∈ ls, t.length ≤ 1048576 := by
  rcases Go.Deep.open_slice1 underlying54' cells25 h with ⟨h0, _⟩ | ⟨a, len, cap, m, n, V, D, Pl, hcs, hbb, hl, hm, hmm, hx, hi⟩
  · obtain rfl := List.singleton_inj.1 h0
    exact ⟨none, 0, [], rfl, Nat.le_refl _, Kd.C_nil _ _, by simp, by simp⟩
  · obtain rfl := List.singleton_inj.1 hcs
    have hlm : len ≤ m := by rw [hmm]; split <;> omega
    subst hx
    simp only [Rows.uptoBulk] at hb
    have hlen := bulk_len (H := H) ((List.range len).map D)
    rw [List.length_map, List.length_range] at hlen
    have key : ∀ i, ∃ T : List Int, i < len → (w.cell? (a.add i) = some (V i) ∧ NumsIn w (V i) T ∧ T.length ≤ 1048576) := by
      intro i
      by_cases hil : i < len
      · obtain ⟨h1, h2⟩ := hi i (by omega)
        obtain ⟨T, h3, h4⟩ := open_numsB Try.underlying25 h2
        have h5 := bulk_part (H := H) (d := D i) (l := (List.range len).map D) (List.mem_map.2 ⟨i, List.mem_range.2 hil, rfl⟩)
        exact ⟨T, fun _ => ⟨h1, h3, by simp only at h4; omega⟩⟩
      · exact ⟨[], fun h => absurd h hil⟩
    let f : Nat → List Int := fun i => Classical.choose (key i)
    have hf : ∀ i, i < len → _ := fun i => Classical.choose_spec (key i)
    change ∀ i, i < len → (w.cell? (a.add i) = some (V i) ∧ NumsIn w (V i) (f i) ∧ (f i).length ≤ 1048576) at hf
    clear_value f
    refine ⟨some a, cap, (List.range len).map f, by simp, by simpa using hl, ⟨rfl, by unfold maxLen at hm; simp; omega, fun _ => ⟨a, rfl, fun j p hj => ?_⟩⟩, by simp; omega, fun t ht => ?_⟩
    · have hjl : j < len := by have := (List.getElem?_eq_some_iff.1 hj).1; simpa using this
      obtain rfl : f j = p := by simpa [hjl] using hj
      obtain ⟨h1, ⟨A, c, e, h3, h4⟩, _⟩ := hf j hjl
      refine ⟨[.slice A (f j).length c], rfl, ⟨A, c, rfl, h3, h4⟩, fun i u hu => ?_⟩
      have hi0 : i = 0 := by
        have := (List.getElem?_eq_some_iff.1 hu).1
        simpa using this
      subst hi0
      obtain rfl : .slice A (f j).length c = u := by simpa using hu
      rw [show j * (Kd.slice 3 (Kd.int .i64)).sz + 0 = j from by show j * 1 + 0 = j; omega, h1, e]
    · obtain ⟨i, hi2, rfl⟩ := List.mem_map.1 ht
      exact (hf i (List.mem_range.1 hi2)).2.2
end
end Go.Proofs.Ytadjoaipmcbieaa
