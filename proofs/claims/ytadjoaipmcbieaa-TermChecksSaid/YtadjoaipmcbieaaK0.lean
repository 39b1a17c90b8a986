/- What every row's 'closed' says of the program alone, each proved once; the row's own part is 'rest'. -/
import Derived.Test.YtadjoaipmcbieaaRows
import Derived.WalkKit
import Derived.ProofKit
import Derived.JoinedOf
namespace Go.Proofs.Ytadjoaipmcbieaa.Closed
open Go.RowKit Go
set_option maxRecDepth 100000
def cs : List Char := ['h', 'a', 'r', 'n', 'e', 's', 's', ' ', 'c', 'd', 'b', '2', '8', 'f', '4', '2', 'a', 'e', '2', '2', 'd', '2', '2', '6', '0', '0', 'a', '2', '7', '8', 'c', '5', '5', 'b', 'c', '6', 'c', '0', '3', '1', 'f', '5', '1', 'd', 'a', '5', 'c', 'd', '3', '1', '5', 'b', '8', 'c', '9', '1', '4', '6', 'e', 'a', 'a', '9', '3', 'c', '8', '9', '7', '6', '7', '7', 'e', '6', ' ', 'c', 'u', 't', ' ', 'a', 't', ' ', 'r', 'o', 'p', 'e', 'w', 'a', 'l', 'k', '/', 'r', 'o', 'p', 'e', 'w', 'a', 'l', 'k', 'l', 'a', 'w', '0', '2', '.', 'T', 'e', 'r', 'm', 'N', 'a', 'm', 'e', 's', ' ', 'r', 'o', 'p', 'e', 'w', 'a', 'l', 'k', '/', 'r', 'o', 'p', 'e', 'w', 'a', 'l', 'k', 'l', 'a', 'w', '0', '2', '.', 'T', 'e', 'r', 'm', 'P', 'u', 't', 's', ' ', 'r', 'o', 'p', 'e', 'w', 'a', 'l', 'k', '/', 'r', 'o', 'p', 'e', 'w', 'a', 'l', 'k', 'l', 'a', 'w', '0', '2', '.', 'T', 'e', 'r', 'm', 'L', 'e', 'a', 'd', 's', ' ', 'r', 'o', 'p', 'e', 'w', 'a', 'l', 'k', '/', 'r', 'o', 'p', 'e', 'w', 'a', 'l', 'k', 'l', 'a', 'w', '0', '2', '.', 'T', 'e', 'r', 'm', 'T', 'i', 'l', 'e', 's', ' ', 'r', 'o', 'p', 'e', 'w', 'a', 'l', 'k', '/', 'r', 'o', 'p', 'e', 'w', 'a', 'l', 'k', 'l', 'a', 'w', '0', '2', '.', 'T', 'e', 'r', 'm', 'C', 'h', 'e', 'c', 'k', 's', ' ', 'r', 'o', 'p', 'e', 'w', 'a', 'l', 'k', '/', 'r', 'o', 'p', 'e', 'w', 'a', 'l', 'k', 'l', 'a', 'w', '0', '2', '.', 'T', 'e', 'r', 'm', 'B', 'a', 'c', 'k', ' ', 'r', 'o', 'p', 'e', 'w', 'a', 'l', 'k', '/', 'r', 'o', 'p', 'e', 'w', 'a', 'l', 'k', 'l', 'a', 'w', '0', '2', '.', 'T', 'e', 'r', 'm', 'C', 'u', 't', 's', ' ', 'r', 'o', 'p', 'e', 'w', 'a', 'l', 'k', '/', 'r', 'o', 'p', 'e', 'w', 'a', 'l', 'k', 'l', 'a', 'w', '0', '2', '.', 'T', 'e', 'r', 'm', 'P', 'l', 'a', 'i', 'n', 's', ' ', 'r', 'o', 'p', 'e', 'w', 'a', 'l', 'k', '/', 'r', 'o', 'p', 'e', 'w', 'a', 'l', 'k', 'l', 'a', 'w', '0', '2', '.', 'T', 'e', 'r', 'm', 'N', 'i', 'l', ' ', 'r', 'o', 'p', 'e', 'w', 'a', 'l', 'k', '/', 'r', 'o', 'p', 'e', 'w', 'a', 'l', 'k', 'l', 'a', 'w', '0', '6', '.', 'U', 'n', 'i', 'f', 'y', 'N', 'a', 'm', 'e', 's', ' ', 'r', 'o', 'p', 'e', 'w', 'a', 'l', 'k', '/', 'r', 'o', 'p', 'e', 'w', 'a', 'l', 'k', 'l', 'a', 'w', '0', '6', '.', 'U', 'n', 'i', 'f', 'y', 'T', 'e', 'l', 'l', 's', ' ', 'r', 'o', 'p', 'e', 'w', 'a', 'l', 'k', '/', 'r', 'o', 'p', 'e', 'w', 'a', 'l', 'k', 'l', 'a', 'w', '0', '6', '.', 'U', 'n', 'i', 'f', 'y', 'O', 'v', 'e', 'r', 'l', 'a', 'p', 's', ' ', 'r', 'o', 'p', 'e', 'w', 'a', 'l', 'k', '/', 'r', 'o', 'p', 'e', 'w', 'a', 'l', 'k', 'l', 'a', 'w', '0', '6', '.', 'U', 'n', 'i', 'f', 'y', 'I', 'n', 's', 't', 'a', 'n', 'c', 'e', ' ', 'r', 'o', 'p', 'e', 'w', 'a', 'l', 'k', '/', 'r', 'o', 'p', 'e', 'w', 'a', 'l', 'k', 'l', 'a', 'w', '0', '6', '.', 'U', 'n', 'i', 'f', 'y', 'S', 'e', 'l', 'f', ' ', 'r', 'o', 'p', 'e', 'w', 'a', 'l', 'k', '/', 'r', 'o', 'p', 'e', 'w', 'a', 'l', 'k', 'l', 'a', 'w', '0', '6', '.', 'U', 'n', 'i', 'f', 'y', 'N', 'i', 'l', ' ', 'r', 'o', 'p', 'e', 'w', 'a', 'l', 'k', '/', 'r', 'o', 'p', 'e', 'w', 'a', 'l', 'k', 'l', 'a', 'w', '0', '5', '.', 'M', 'a', 't', 'c', 'h', 'N', 'a', 'm', 'e', 's', ' ', 'r', 'o', 'p', 'e', 'w', 'a', 'l', 'k', '/', 'r', 'o', 'p', 'e', 'w', 'a', 'l', 'k', 'l', 'a', 'w', '0', '5', '.', 'M', 'a', 't', 'c', 'h', 'F', 'i', 't', 's', ' ', 'r', 'o', 'p', 'e', 'w', 'a', 'l', 'k', '/', 'r', 'o', 'p', 'e', 'w', 'a', 'l', 'k', 'l', 'a', 'w', '0', '5', '.', 'M', 'a', 't', 'c', 'h', 'A', 'p', 'p', 'l', 'i', 'e', 's', ' ', 'r', 'o', 'p', 'e', 'w', 'a', 'l', 'k', '/', 'r', 'o', 'p', 'e', 'w', 'a', 'l', 'k', 'l', 'a', 'w', '0', '5', '.', 'M', 'a', 't', 'c', 'h', 'A', 'l', 'i', 'k', 'e', ' ', 'r', 'o', 'p', 'e', 'w', 'a', 'l', 'k', '/', 'r', 'o', 'p', 'e', 'w', 'a', 'l', 'k', 'l', 'a', 'w', '0', '5', '.', 'M', 'a', 't', 'c', 'h', 'B', 'a', 'c', 'k', ' ', 'r', 'o', 'p', 'e', 'w', 'a', 'l', 'k', '/', 'r', 'o', 'p', 'e', 'w', 'a', 'l', 'k', 'l', 'a', 'w', '0', '5', '.', 'M', 'a', 't', 'c', 'h', 'I', 'n', 's', 't', 'a', 'n', 'c', 'e', ' ', 'r', 'o', 'p', 'e', 'w', 'a', 'l', 'k', '/', 'r', 'o', 'p', 'e', 'w', 'a', 'l', 'k', 'l', 'a', 'w', '0', '5', '.', 'M', 'a', 't', 'c', 'h', 'N', 'i', 'l']
theorem io : Try.prog.initOrder = String.ofList cs := by kernel_rfl
theorem io' : Try.prog.initOrder.toList = cs := by rw [io, String.toList_ofList]
def wd : List (List Char) := [['c', 'u', 't'], ['a', 't'], ['r', 'o', 'p', 'e', 'w', 'a', 'l', 'k', '/', 'r', 'o', 'p', 'e', 'w', 'a', 'l', 'k', 'l', 'a', 'w', '0', '2', '.', 'T', 'e', 'r', 'm', 'N', 'a', 'm', 'e', 's'], ['r', 'o', 'p', 'e', 'w', 'a', 'l', 'k', '/', 'r', 'o', 'p', 'e', 'w', 'a', 'l', 'k', 'l', 'a', 'w', '0', '2', '.', 'T', 'e', 'r', 'm', 'P', 'u', 't', 's'], ['r', 'o', 'p', 'e', 'w', 'a', 'l', 'k', '/', 'r', 'o', 'p', 'e', 'w', 'a', 'l', 'k', 'l', 'a', 'w', '0', '2', '.', 'T', 'e', 'r', 'm', 'L', 'e', 'a', 'd', 's'], ['r', 'o', 'p', 'e', 'w', 'a', 'l', 'k', '/', 'r', 'o', 'p', 'e', 'w', 'a', 'l', 'k', 'l', 'a', 'w', '0', '2', '.', 'T', 'e', 'r', 'm', 'T', 'i', 'l', 'e', 's'], ['r', 'o', 'p', 'e', 'w', 'a', 'l', 'k', '/', 'r', 'o', 'p', 'e', 'w', 'a', 'l', 'k', 'l', 'a', 'w', '0', '2', '.', 'T', 'e', 'r', 'm', 'C', 'h', 'e', 'c', 'k', 's'], ['r', 'o', 'p', 'e', 'w', 'a', 'l', 'k', '/', 'r', 'o', 'p', 'e', 'w', 'a', 'l', 'k', 'l', 'a', 'w', '0', '2', '.', 'T', 'e', 'r', 'm', 'B', 'a', 'c', 'k'], ['r', 'o', 'p', 'e', 'w', 'a', 'l', 'k', '/', 'r', 'o', 'p', 'e', 'w', 'a', 'l', 'k', 'l', 'a', 'w', '0', '2', '.', 'T', 'e', 'r', 'm', 'C', 'u', 't', 's'], ['r', 'o', 'p', 'e', 'w', 'a', 'l', 'k', '/', 'r', 'o', 'p', 'e', 'w', 'a', 'l', 'k', 'l', 'a', 'w', '0', '2', '.', 'T', 'e', 'r', 'm', 'P', 'l', 'a', 'i', 'n', 's'], ['r', 'o', 'p', 'e', 'w', 'a', 'l', 'k', '/', 'r', 'o', 'p', 'e', 'w', 'a', 'l', 'k', 'l', 'a', 'w', '0', '2', '.', 'T', 'e', 'r', 'm', 'N', 'i', 'l'], ['r', 'o', 'p', 'e', 'w', 'a', 'l', 'k', '/', 'r', 'o', 'p', 'e', 'w', 'a', 'l', 'k', 'l', 'a', 'w', '0', '6', '.', 'U', 'n', 'i', 'f', 'y', 'N', 'a', 'm', 'e', 's'], ['r', 'o', 'p', 'e', 'w', 'a', 'l', 'k', '/', 'r', 'o', 'p', 'e', 'w', 'a', 'l', 'k', 'l', 'a', 'w', '0', '6', '.', 'U', 'n', 'i', 'f', 'y', 'T', 'e', 'l', 'l', 's'], ['r', 'o', 'p', 'e', 'w', 'a', 'l', 'k', '/', 'r', 'o', 'p', 'e', 'w', 'a', 'l', 'k', 'l', 'a', 'w', '0', '6', '.', 'U', 'n', 'i', 'f', 'y', 'O', 'v', 'e', 'r', 'l', 'a', 'p', 's'], ['r', 'o', 'p', 'e', 'w', 'a', 'l', 'k', '/', 'r', 'o', 'p', 'e', 'w', 'a', 'l', 'k', 'l', 'a', 'w', '0', '6', '.', 'U', 'n', 'i', 'f', 'y', 'I', 'n', 's', 't', 'a', 'n', 'c', 'e'], ['r', 'o', 'p', 'e', 'w', 'a', 'l', 'k', '/', 'r', 'o', 'p', 'e', 'w', 'a', 'l', 'k', 'l', 'a', 'w', '0', '6', '.', 'U', 'n', 'i', 'f', 'y', 'S', 'e', 'l', 'f'], ['r', 'o', 'p', 'e', 'w', 'a', 'l', 'k', '/', 'r', 'o', 'p', 'e', 'w', 'a', 'l', 'k', 'l', 'a', 'w', '0', '6', '.', 'U', 'n', 'i', 'f', 'y', 'N', 'i', 'l'], ['r', 'o', 'p', 'e', 'w', 'a', 'l', 'k', '/', 'r', 'o', 'p', 'e', 'w', 'a', 'l', 'k', 'l', 'a', 'w', '0', '5', '.', 'M', 'a', 't', 'c', 'h', 'N', 'a', 'm', 'e', 's'], ['r', 'o', 'p', 'e', 'w', 'a', 'l', 'k', '/', 'r', 'o', 'p', 'e', 'w', 'a', 'l', 'k', 'l', 'a', 'w', '0', '5', '.', 'M', 'a', 't', 'c', 'h', 'F', 'i', 't', 's'], ['r', 'o', 'p', 'e', 'w', 'a', 'l', 'k', '/', 'r', 'o', 'p', 'e', 'w', 'a', 'l', 'k', 'l', 'a', 'w', '0', '5', '.', 'M', 'a', 't', 'c', 'h', 'A', 'p', 'p', 'l', 'i', 'e', 's'], ['r', 'o', 'p', 'e', 'w', 'a', 'l', 'k', '/', 'r', 'o', 'p', 'e', 'w', 'a', 'l', 'k', 'l', 'a', 'w', '0', '5', '.', 'M', 'a', 't', 'c', 'h', 'A', 'l', 'i', 'k', 'e'], ['r', 'o', 'p', 'e', 'w', 'a', 'l', 'k', '/', 'r', 'o', 'p', 'e', 'w', 'a', 'l', 'k', 'l', 'a', 'w', '0', '5', '.', 'M', 'a', 't', 'c', 'h', 'B', 'a', 'c', 'k'], ['r', 'o', 'p', 'e', 'w', 'a', 'l', 'k', '/', 'r', 'o', 'p', 'e', 'w', 'a', 'l', 'k', 'l', 'a', 'w', '0', '5', '.', 'M', 'a', 't', 'c', 'h', 'I', 'n', 's', 't', 'a', 'n', 'c', 'e'], ['r', 'o', 'p', 'e', 'w', 'a', 'l', 'k', '/', 'r', 'o', 'p', 'e', 'w', 'a', 'l', 'k', 'l', 'a', 'w', '0', '5', '.', 'M', 'a', 't', 'c', 'h', 'N', 'i', 'l']]
def hw : List Char := ['h', 'a', 'r', 'n', 'e', 's', 's']
def sw : List Char := ['c', 'd', 'b', '2', '8', 'f', '4', '2', 'a', 'e', '2', '2', 'd', '2', '2', '6', '0', '0', 'a', '2', '7', '8', 'c', '5', '5', 'b', 'c', '6', 'c', '0', '3', '1', 'f', '5', '1', 'd', 'a', '5', 'c', 'd', '3', '1', '5', 'b', '8', 'c', '9', '1', '4', '6', 'e', 'a', 'a', '9', '3', 'c', '8', '9', '7', '6', '7', '7', 'e', '6']
theorem ws0 : wordsSigns cs = hw :: sw :: wd := by kernel_rfl
theorem bm {h s : List Char} {r : List (List Char)} (h1 : (h == "harness".toList) = true) (h2 : isSumSigns s = true) : behindMainWord (h :: s :: r) = r := by
  unfold behindMainWord; simp only [h1, h2, Bool.true_or, Bool.and_true, if_true]
theorem ws : behindMainWord (wordsSigns Try.prog.initOrder.toList) = wd := by
  rw [io', ws0]; exact bm (by kernel_rfl) (by kernel_rfl)
theorem c_sl : stripLifts liftWords wd = ([], wd) := by kernel_rfl
theorem hc : (wd.head? == some "cut".toList) = true := by kernel_rfl
theorem hl : Try.prog.headLifts = [] := by
  unfold Program.headLifts; rw [ws, c_sl]; simp only [hc, if_true]
theorem make_of {P : Program} {w : List (List Char)} (h : behindMainWord (wordsSigns P.initOrder.toList) = w) (hw : ∃ c r, w = c :: r) (hg : ∀ c, w.head? = some c → (c == "gc".toList) = false ∧ (c == "spec".toList) = false ∧ (c == "cut".toList) = true) : P.make = some Make.cut := by
  obtain ⟨c, r, rfl⟩ := hw
  obtain ⟨g1, g2, g3⟩ := hg c rfl
  unfold Program.make
  rw [h]
  simp only [g1, g2, g3, Bool.false_or, Bool.true_or, if_true]
  simp
theorem c_make : Try.prog.make = some Make.cut := make_of ws ⟨_, _, rfl⟩ (by
  intro c hc; cases hc; exact ⟨by kernel_rfl, by kernel_rfl, by kernel_rfl⟩)
theorem l1 : (wd.head? == some "carried".toList) = false := by kernel_rfl
theorem c_lifts : Try.prog.liftsFinal = false := by
  unfold Program.liftsFinal; rw [hl, ws]
  simp only [l1, Bool.false_and, Bool.false_or]
  rfl
theorem c_later : Try.prog.laysLater = false := by kernel_rfl
theorem c_bears : Try.prog.bearsReflect = false := by kernel_rfl
theorem c_door : Try.prog.doorFits [] = true := by kernel_rfl
theorem wd_cons : ∃ c r, wd = c :: r := ⟨_, _, rfl⟩
theorem may_of {P : Program} {w : List (List Char)} (h : behindMainWord (wordsSigns P.initOrder.toList) = w) (hw : ∃ c r, w = c :: r) (hs : stripLifts liftWords w = ([], w)) (hh : (w.head? == some "cut".toList) = true)
    (h1 : P.laysLater = false) (h2 : P.bearsReflect = false) (h3 : P.doorFits [] = true) : P.mayEnter = true := by
  obtain ⟨c, r, rfl⟩ := hw
  unfold Program.mayEnter
  rw [h]
  simp only [hs, h1, h2, h3, hh, Bool.not_false, Bool.or_true, Bool.and_true, Bool.true_and]
  simp
theorem c_may : Try.prog.mayEnter = true := may_of ws wd_cons c_sl hc c_later c_bears c_door
theorem s_laid : laidOutB Try.prog = true := by kernel_rfl
theorem s_maps : mapsRowed Try.prog = true := by kernel_rfl
theorem s_stops : Try.prog.stops = [] := by kernel_rfl
theorem s_knobs : Try.prog.stopKnobs = [] := by kernel_rfl
theorem s_keys : Try.prog.plainKeys = true := by kernel_rfl
theorem s_heard : Try.prog.stopsHeard = true := by kernel_rfl

/-- The row's own part. -/
def rest (P : Program) (f : FuncId) (fn : Func) (s : ChangeSpec) (c : OpenClaim) : Bool :=
  c.wf (OpenSpec.ofChange s) && true && true &&
  fn.params.all (P.readableRec ·) && namedTie P c.named s.vars &&
  (c.stops == []) && true && (c.knobs == []) && true &&
  (c.inPlace == P.inPlace f) && (c.unfollowed == P.unfollowed f) && (c.recurses == P.recurses f) && (c.named == P.varsNamed f) &&
  (c.maps == (fn.params.toList ++ s.plain.varTypes P).any (P.mapsRec ·)) && (c.ifaces == (fn.params.toList ++ s.plain.varTypes P).any (P.ifacesRec ·)) && (c.mapsOut == P.mapsAmong fn.resultTypes.toList) &&
  (c.loops == (fn.params.toList ++ s.plain.varTypes P).any (P.loopsFrom ·)) && (c.wideKeys == (fn.params.toList ++ s.plain.varTypes P ++ fn.resultTypes.toList).any (P.wideKeysFrom ·)) &&
  s.vars.all (P.varReadable ·) && fn.resultTypes.all (fun t => P.readableRec t && decide (t < P.types.size)) && (c.ifacesOut == fn.resultTypes.toList.any (P.ifacesRec ·)) && (c.loopsOut == fn.resultTypes.toList.any (P.loopsFrom ·)) && (c.plainKeys == true) && c.shortTexts.isNone && true && true && (c.lifted == false) && (some Make.cut == some c.make) && (c.kinds == (if c.domain.isEmpty then [] else fn.params.toList.map fun t => match P.underlying t with | some (.int k) => some k | _ => none)) && (c.pinned == c.pinnedBy) &&
  (c.veiled == (fn.params.toList ++ s.plain.varTypes P ++ fn.resultTypes.toList).any (P.veiledRec ·)) && c.veiledFits P fn.params.toList (fn.params.toList ++ s.plain.varTypes P ++ fn.resultTypes.toList)

theorem closed_of {f : FuncId} {fn : Func} {s : ChangeSpec} {c : OpenClaim} (h : rest Try.prog f fn s c = true) : joinedFacts Try.prog f fn s c = true := by
  unfold joinedFacts
  rw [s_laid, s_maps, s_stops, s_knobs, s_keys, s_heard, c_may, c_lifts, c_make]
  exact h
end Go.Proofs.Ytadjoaipmcbieaa.Closed
