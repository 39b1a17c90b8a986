/- The texts K0, E0, Z1, Z2, Z3, Z4, Z5, Z6, Z7, joined by wip/slim.py: what the claim's theorem needs of them. (Those named W.. and G.. were printed by the kit's print.py for this seat.) -/
import Derived.Test.YtadjoaipmcbieaaOB7
import Derived.Test.YtadjoaipmcbieaaRows
import Derived.ProofKit
import Derived.JoinedOf
import Derived.OpenShut
import Derived.ChangeOld
import Derived.Carry
import Derived.SizedLaws
import Derived.Deep.Slices
import Derived.Deep.Fields
import Derived.ChangeSame

/-! K0 -/
namespace Go.Proofs.Ytadjoaipmcbieaa.Closed
open Go.RowKit Go
set_option maxRecDepth 100000
/-- Letters by their numbers. -/
def ch (l : List Nat) : List Char := l.map Char.ofNat
def cs : List Char := ch [104, 97, 114, 110, 101, 115, 115, 32, 99, 100, 98, 50, 56, 102, 52, 50, 97, 101, 50, 50, 100, 50, 50, 54, 48, 48, 97, 50, 55, 56, 99, 53, 53, 98, 99, 54, 99, 48, 51, 49, 102, 53, 49, 100, 97, 53, 99, 100, 51, 49, 53, 98, 56, 99, 57, 49, 52, 54, 101, 97, 97, 57, 51, 99, 56, 57, 55, 54, 55, 55, 101, 54, 32, 99, 117, 116, 32, 97, 116, 32, 114, 111, 112, 101, 119, 97, 108, 107, 47, 114, 111, 112, 101, 119, 97, 108, 107, 108, 97, 119, 48, 50, 46, 84, 101, 114, 109, 78, 97, 109, 101, 115, 32, 114, 111, 112, 101, 119, 97, 108, 107, 47, 114, 111, 112, 101, 119, 97, 108, 107, 108, 97, 119, 48, 50, 46, 84, 101, 114, 109, 80, 117, 116, 115, 32, 114, 111, 112, 101, 119, 97, 108, 107, 47, 114, 111, 112, 101, 119, 97, 108, 107, 108, 97, 119, 48, 50, 46, 84, 101, 114, 109, 76, 101, 97, 100, 115, 32, 114, 111, 112, 101, 119, 97, 108, 107, 47, 114, 111, 112, 101, 119, 97, 108, 107, 108, 97, 119, 48, 50, 46, 84, 101, 114, 109, 84, 105, 108, 101, 115, 32, 114, 111, 112, 101, 119, 97, 108, 107, 47, 114, 111, 112, 101, 119, 97, 108, 107, 108, 97, 119, 48, 50, 46, 84, 101, 114, 109, 67, 104, 101, 99, 107, 115, 32, 114, 111, 112, 101, 119, 97, 108, 107, 47, 114, 111, 112, 101, 119, 97, 108, 107, 108, 97, 119, 48, 50, 46, 84, 101, 114, 109, 66, 97, 99, 107, 32, 114, 111, 112, 101, 119, 97, 108, 107, 47, 114, 111, 112, 101, 119, 97, 108, 107, 108, 97, 119, 48, 50, 46, 84, 101, 114, 109, 67, 117, 116, 115, 32, 114, 111, 112, 101, 119, 97, 108, 107, 47, 114, 111, 112, 101, 119, 97, 108, 107, 108, 97, 119, 48, 50, 46, 84, 101, 114, 109, 80, 108, 97, 105, 110, 115, 32, 114, 111, 112, 101, 119, 97, 108, 107, 47, 114, 111, 112, 101, 119, 97, 108, 107, 108, 97, 119, 48, 50, 46, 84, 101, 114, 109, 78, 105, 108, 32, 114, 111, 112, 101, 119, 97, 108, 107, 47, 114, 111, 112, 101, 119, 97, 108, 107, 108, 97, 119, 48, 54, 46, 85, 110, 105, 102, 121, 78, 97, 109, 101, 115, 32, 114, 111, 112, 101, 119, 97, 108, 107, 47, 114, 111, 112, 101, 119, 97, 108, 107, 108, 97, 119, 48, 54, 46, 85, 110, 105, 102, 121, 84, 101, 108, 108, 115, 32, 114, 111, 112, 101, 119, 97, 108, 107, 47, 114, 111, 112, 101, 119, 97, 108, 107, 108, 97, 119, 48, 54, 46, 85, 110, 105, 102, 121, 79, 118, 101, 114, 108, 97, 112, 115, 32, 114, 111, 112, 101, 119, 97, 108, 107, 47, 114, 111, 112, 101, 119, 97, 108, 107, 108, 97, 119, 48, 54, 46, 85, 110, 105, 102, 121, 73, 110, 115, 116, 97, 110, 99, 101, 32, 114, 111, 112, 101, 119, 97, 108, 107, 47, 114, 111, 112, 101, 119, 97, 108, 107, 108, 97, 119, 48, 54, 46, 85, 110, 105, 102, 121, 83, 101, 108, 102, 32, 114, 111, 112, 101, 119, 97, 108, 107, 47, 114, 111, 112, 101, 119, 97, 108, 107, 108, 97, 119, 48, 54, 46, 85, 110, 105, 102, 121, 78, 105, 108, 32, 114, 111, 112, 101, 119, 97, 108, 107, 47, 114, 111, 112, 101, 119, 97, 108, 107, 108, 97, 119, 48, 53, 46, 77, 97, 116, 99, 104, 78, 97, 109, 101, 115, 32, 114, 111, 112, 101, 119, 97, 108, 107, 47, 114, 111, 112, 101, 119, 97, 108, 107, 108, 97, 119, 48, 53, 46, 77, 97, 116, 99, 104, 70, 105, 116, 115, 32, 114, 111, 112, 101, 119, 97, 108, 107, 47, 114, 111, 112, 101, 119, 97, 108, 107, 108, 97, 119, 48, 53, 46, 77, 97, 116, 99, 104, 65, 112, 112, 108, 105, 101, 115, 32, 114, 111, 112, 101, 119, 97, 108, 107, 47, 114, 111, 112, 101, 119, 97, 108, 107, 108, 97, 119, 48, 53, 46, 77, 97, 116, 99, 104, 65, 108, 105, 107, 101, 32, 114, 111, 112, 101, 119, 97, 108, 107, 47, 114, 111, 112, 101, 119, 97, 108, 107, 108, 97, 119, 48, 53, 46, 77, 97, 116, 99, 104, 66, 97, 99, 107, 32, 114, 111, 112, 101, 119, 97, 108, 107, 47, 114, 111, 112, 101, 119, 97, 108, 107, 108, 97, 119, 48, 53, 46, 77, 97, 116, 99, 104, 73, 110, 115, 116, 97, 110, 99, 101, 32, 114, 111, 112, 101, 119, 97, 108, 107, 47, 114, 111, 112, 101, 119, 97, 108, 107, 108, 97, 119, 48, 53, 46, 77, 97, 116, 99, 104, 78, 105, 108]
theorem io : Try.prog.initOrder = String.ofList cs := by kernel_rfl
theorem io' : Try.prog.initOrder.toList = cs := by rw [io, String.toList_ofList]
def wd : List (List Char) := [ch [99, 117, 116], ch [97, 116], ch [114, 111, 112, 101, 119, 97, 108, 107, 47, 114, 111, 112, 101, 119, 97, 108, 107, 108, 97, 119, 48, 50, 46, 84, 101, 114, 109, 78, 97, 109, 101, 115], ch [114, 111, 112, 101, 119, 97, 108, 107, 47, 114, 111, 112, 101, 119, 97, 108, 107, 108, 97, 119, 48, 50, 46, 84, 101, 114, 109, 80, 117, 116, 115], ch [114, 111, 112, 101, 119, 97, 108, 107, 47, 114, 111, 112, 101, 119, 97, 108, 107, 108, 97, 119, 48, 50, 46, 84, 101, 114, 109, 76, 101, 97, 100, 115], ch [114, 111, 112, 101, 119, 97, 108, 107, 47, 114, 111, 112, 101, 119, 97, 108, 107, 108, 97, 119, 48, 50, 46, 84, 101, 114, 109, 84, 105, 108, 101, 115], ch [114, 111, 112, 101, 119, 97, 108, 107, 47, 114, 111, 112, 101, 119, 97, 108, 107, 108, 97, 119, 48, 50, 46, 84, 101, 114, 109, 67, 104, 101, 99, 107, 115], ch [114, 111, 112, 101, 119, 97, 108, 107, 47, 114, 111, 112, 101, 119, 97, 108, 107, 108, 97, 119, 48, 50, 46, 84, 101, 114, 109, 66, 97, 99, 107], ch [114, 111, 112, 101, 119, 97, 108, 107, 47, 114, 111, 112, 101, 119, 97, 108, 107, 108, 97, 119, 48, 50, 46, 84, 101, 114, 109, 67, 117, 116, 115], ch [114, 111, 112, 101, 119, 97, 108, 107, 47, 114, 111, 112, 101, 119, 97, 108, 107, 108, 97, 119, 48, 50, 46, 84, 101, 114, 109, 80, 108, 97, 105, 110, 115], ch [114, 111, 112, 101, 119, 97, 108, 107, 47, 114, 111, 112, 101, 119, 97, 108, 107, 108, 97, 119, 48, 50, 46, 84, 101, 114, 109, 78, 105, 108], ch [114, 111, 112, 101, 119, 97, 108, 107, 47, 114, 111, 112, 101, 119, 97, 108, 107, 108, 97, 119, 48, 54, 46, 85, 110, 105, 102, 121, 78, 97, 109, 101, 115], ch [114, 111, 112, 101, 119, 97, 108, 107, 47, 114, 111, 112, 101, 119, 97, 108, 107, 108, 97, 119, 48, 54, 46, 85, 110, 105, 102, 121, 84, 101, 108, 108, 115], ch [114, 111, 112, 101, 119, 97, 108, 107, 47, 114, 111, 112, 101, 119, 97, 108, 107, 108, 97, 119, 48, 54, 46, 85, 110, 105, 102, 121, 79, 118, 101, 114, 108, 97, 112, 115], ch [114, 111, 112, 101, 119, 97, 108, 107, 47, 114, 111, 112, 101, 119, 97, 108, 107, 108, 97, 119, 48, 54, 46, 85, 110, 105, 102, 121, 73, 110, 115, 116, 97, 110, 99, 101], ch [114, 111, 112, 101, 119, 97, 108, 107, 47, 114, 111, 112, 101, 119, 97, 108, 107, 108, 97, 119, 48, 54, 46, 85, 110, 105, 102, 121, 83, 101, 108, 102], ch [114, 111, 112, 101, 119, 97, 108, 107, 47, 114, 111, 112, 101, 119, 97, 108, 107, 108, 97, 119, 48, 54, 46, 85, 110, 105, 102, 121, 78, 105, 108], ch [114, 111, 112, 101, 119, 97, 108, 107, 47, 114, 111, 112, 101, 119, 97, 108, 107, 108, 97, 119, 48, 53, 46, 77, 97, 116, 99, 104, 78, 97, 109, 101, 115], ch [114, 111, 112, 101, 119, 97, 108, 107, 47, 114, 111, 112, 101, 119, 97, 108, 107, 108, 97, 119, 48, 53, 46, 77, 97, 116, 99, 104, 70, 105, 116, 115], ch [114, 111, 112, 101, 119, 97, 108, 107, 47, 114, 111, 112, 101, 119, 97, 108, 107, 108, 97, 119, 48, 53, 46, 77, 97, 116, 99, 104, 65, 112, 112, 108, 105, 101, 115], ch [114, 111, 112, 101, 119, 97, 108, 107, 47, 114, 111, 112, 101, 119, 97, 108, 107, 108, 97, 119, 48, 53, 46, 77, 97, 116, 99, 104, 65, 108, 105, 107, 101], ch [114, 111, 112, 101, 119, 97, 108, 107, 47, 114, 111, 112, 101, 119, 97, 108, 107, 108, 97, 119, 48, 53, 46, 77, 97, 116, 99, 104, 66, 97, 99, 107], ch [114, 111, 112, 101, 119, 97, 108, 107, 47, 114, 111, 112, 101, 119, 97, 108, 107, 108, 97, 119, 48, 53, 46, 77, 97, 116, 99, 104, 73, 110, 115, 116, 97, 110, 99, 101], ch [114, 111, 112, 101, 119, 97, 108, 107, 47, 114, 111, 112, 101, 119, 97, 108, 107, 108, 97, 119, 48, 53, 46, 77, 97, 116, 99, 104, 78, 105, 108]]
def hw : List Char := ch [104, 97, 114, 110, 101, 115, 115]
def sw : List Char := ch [99, 100, 98, 50, 56, 102, 52, 50, 97, 101, 50, 50, 100, 50, 50, 54, 48, 48, 97, 50, 55, 56, 99, 53, 53, 98, 99, 54, 99, 48, 51, 49, 102, 53, 49, 100, 97, 53, 99, 100, 51, 49, 53, 98, 56, 99, 57, 49, 52, 54, 101, 97, 97, 57, 51, 99, 56, 57, 55, 54, 55, 55, 101, 54]
theorem ws0 : wordsSigns cs = hw :: sw :: wd := by kernel_rfl
theorem bm {h s : List Char} {r : List (List Char)} (h1 : (h == "harness".toList) = true) (h2 : isSumSigns s = true) : behindMainWord (h :: s :: r) = r := by
  unfold behindMainWord; simp only [h1, h2, Bool.true_or, Bool.and_true, if_true]
theorem ws : behindMainWord (wordsSigns Try.prog.initOrder.toList) = wd := by
  rw [io', ws0]; exact bm (by kernel_rfl) (by kernel_rfl)
theorem c_sl : stripLifts liftWords wd = ([], wd) := by kernel_rfl
theorem hc : (wd.head? == some "cut".toList) = true := by kernel_rfl
theorem hl : Try.prog.headLifts = [] := by
  unfold Program.headLifts; rw [ws, c_sl]; simp only [hc, if_true]
theorem make_of {P : Program} {w : List (List Char)} (h : behindMainWord (wordsSigns P.initOrder.toList) = w) (hw : ∃ c r, w = c :: r) (hg : ∀ c, w.head? = some c → (c == "gc".toList) = false ∧ (c == "spec".toList) = false ∧ (c == "cut".toList) = true) : P.make = some Make.cut := by
  obtain ⟨c, r, rfl⟩ := hw
  obtain ⟨g1, g2, g3⟩ := hg c rfl
  unfold Program.make
  rw [h]
  simp only [g1, g2, g3, Bool.false_or, Bool.true_or, if_true]
  simp
theorem c_make : Try.prog.make = some Make.cut := make_of ws ⟨_, _, rfl⟩ (by
  intro c hc; cases hc; exact ⟨by kernel_rfl, by kernel_rfl, by kernel_rfl⟩)
theorem l1 : (wd.head? == some "carried".toList) = false := by kernel_rfl
theorem c_lifts : Try.prog.liftsFinal = false := by
  unfold Program.liftsFinal; rw [hl, ws]
  simp only [l1, Bool.false_and, Bool.false_or]
  rfl
theorem c_later : Try.prog.laysLater = false := by kernel_rfl
theorem c_bears : Try.prog.bearsReflect = false := by kernel_rfl
theorem c_door : Try.prog.doorFits [] = true := by kernel_rfl
theorem wd_cons : ∃ c r, wd = c :: r := ⟨_, _, rfl⟩
theorem may_of {P : Program} {w : List (List Char)} (h : behindMainWord (wordsSigns P.initOrder.toList) = w) (hw : ∃ c r, w = c :: r) (hs : stripLifts liftWords w = ([], w)) (hh : (w.head? == some "cut".toList) = true)
    (h1 : P.laysLater = false) (h2 : P.bearsReflect = false) (h3 : P.doorFits [] = true) : P.mayEnter = true := by
  obtain ⟨c, r, rfl⟩ := hw
  unfold Program.mayEnter
  rw [h]
  simp only [hs, h1, h2, h3, hh, Bool.not_false, Bool.or_true, Bool.and_true, Bool.true_and]
  simp
theorem c_may : Try.prog.mayEnter = true := may_of ws wd_cons c_sl hc c_later c_bears c_door
theorem s_laid : laidOutB Try.prog = true := by kernel_rfl
theorem s_maps : mapsRowed Try.prog = true := by kernel_rfl
theorem s_stops : Try.prog.stops = [] := by kernel_rfl
theorem s_knobs : Try.prog.stopKnobs = [] := by kernel_rfl
theorem s_keys : Try.prog.plainKeys = true := by kernel_rfl
theorem s_heard : Try.prog.stopsHeard = true := by kernel_rfl
/-- The row's own part. -/
def rest (P : Program) (f : FuncId) (fn : Func) (s : ChangeSpec) (c : OpenClaim) : Bool :=
  c.wf (OpenSpec.ofChange s) && true && true &&
  fn.params.all (P.readableRec ·) && namedTie P c.named s.vars &&
  (c.stops == []) && true && (c.knobs == []) && true &&
  (c.inPlace == P.inPlace f) && (c.unfollowed == P.unfollowed f) && (c.recurses == P.recurses f) && (c.named == P.varsNamed f) &&
  (c.maps == (fn.params.toList ++ s.plain.varTypes P).any (P.mapsRec ·)) && (c.ifaces == (fn.params.toList ++ s.plain.varTypes P).any (P.ifacesRec ·)) && (c.mapsOut == P.mapsAmong fn.resultTypes.toList) &&
  (c.loops == (fn.params.toList ++ s.plain.varTypes P).any (P.loopsFrom ·)) && (c.wideKeys == (fn.params.toList ++ s.plain.varTypes P ++ fn.resultTypes.toList).any (P.wideKeysFrom ·)) &&
  s.vars.all (P.varReadable ·) && fn.resultTypes.all (fun t => P.readableRec t && decide (t < P.types.size)) && (c.ifacesOut == fn.resultTypes.toList.any (P.ifacesRec ·)) && (c.loopsOut == fn.resultTypes.toList.any (P.loopsFrom ·)) && (c.plainKeys == true) && c.shortTexts.isNone && true && true && (c.lifted == false) && (some Make.cut == some c.make) && (c.kinds == (if c.domain.isEmpty then [] else fn.params.toList.map fun t => match P.underlying t with | some (.int k) => some k | _ => none)) && (c.pinned == c.pinnedBy) &&
  (c.veiled == (fn.params.toList ++ s.plain.varTypes P ++ fn.resultTypes.toList).any (P.veiledRec ·)) && c.veiledFits P fn.params.toList (fn.params.toList ++ s.plain.varTypes P ++ fn.resultTypes.toList)
theorem closed_of {f : FuncId} {fn : Func} {s : ChangeSpec} {c : OpenClaim} (h : rest Try.prog f fn s c = true) : joinedFacts Try.prog f fn s c = true := by
  unfold joinedFacts
  rw [s_laid, s_maps, s_stops, s_knobs, s_keys, s_heard, c_may, c_lifts, c_make]
  exact h
end Go.Proofs.Ytadjoaipmcbieaa.Closed

/-! E0 -/
namespace Go.Proofs.Ytadjoaipmcbieaa
open Go.ChangeShapes Go.WideShapes Go.ChangeAt Go.Deep
open Go.RowKit Go.Proofs.YtadjoaipmcbieaaW.PrintWords Go.Proofs.YtadjoaipmcbieaaW.PrintLast Go.Proofs.YtadjoaipmcbieaaW.PrintMore A
section
variable {H : Type} {enc : TypeId × Value → H} {w : World} {base : Nat} {spare : Nat → Bool} {held : Bool}
theorem cells89 : Try.prog.cellsOf 89 = 3 := by kernel_rfl
theorem cells3 : Try.prog.cellsOf 3 = 1 := by kernel_rfl
theorem bytes3 : Try.prog.bytesOf 3 = 8 := by kernel_rfl
theorem cells9 : Try.prog.cellsOf 9 = 1 := by kernel_rfl
theorem cells4 : Try.prog.cellsOf 4 = 1 := by kernel_rfl
theorem three_of {α : Type} : ∀ {l : List α}, l.length = 3 → ∃ a b c, l = [a, b, c]
  | [a, b, c], _ => ⟨a, b, c, rfl⟩
/-- One symbol, out of its three cells. -/
theorem open_sym {fuel : Nat} {cs : List Value} {x : DataW H × List MemPlace} (h : DataW.trod enc Try.prog w base spare held fuel 89 cs = some x) :
    ∃ s : S89, cs = [.string s.f0, .int .i64 s.f1, .bool s.f2] ∧ s.f0.size ≤ maxLen := by
  obtain ⟨ys, n, _, _, hlen, hyl, hf⟩ := DataW.trod_struct Try.underlying89 h
  rw [cells89] at hlen
  obtain ⟨a, b, c, rfl⟩ := three_of hlen
  obtain ⟨y0, y1, y2, rfl⟩ := three_of hyl
  have h0 : DataW.trod enc Try.prog w base spare held n 9 (List.take (Try.prog.cellsOf 9) [a, b, c]) = some y0 := hf 0 _ rfl
  have h1 : DataW.trod enc Try.prog w base spare held n 3 (List.take (Try.prog.cellsOf 3) [b, c]) = some y1 := hf 1 _ rfl
  have h2 : DataW.trod enc Try.prog w base spare held n 4 (List.take (Try.prog.cellsOf 4) [c]) = some y2 := hf 2 _ rfl
  rw [cells9] at h0
  rw [cells3] at h1
  rw [cells4] at h2
  obtain ⟨s, e0, _, hs⟩ := DataW.trod_string Try.underlying9 h0
  obtain ⟨m, e1, _, _⟩ := DataW.trod_int Try.underlying3 h1
  obtain ⟨b', e2, _⟩ := DataW.trod_bool Try.underlying4 h2
  obtain rfl := List.singleton_inj.1 (show [a] = [_] from e0)
  obtain rfl := List.singleton_inj.1 (show [b] = [_] from e1)
  obtain rfl := List.singleton_inj.1 (show [c] = [_] from e2)
  exact ⟨⟨s, m, b'⟩, rfl, hs⟩
theorem open_syms {fuel : Nat} {v : Value} {x : DataW H × List MemPlace} (h : DataW.trod enc Try.prog w base spare held fuel 23 [v] = some x) :
    ∃ (A : Option Addr) (c : Nat) (L : List S89), v = .slice A L.length c ∧ L.length ≤ c ∧ Kd.C k89 w A L.length L ∧ ∀ s ∈ L, s.f0.size ≤ maxLen := by
  rcases Go.Deep.open_slice Try.underlying23 h with ⟨h0, _⟩ | ⟨a, len, cap, m, n, D, Pl, hcs, hb, hl, hm, hmm, hx, hi⟩
  · obtain rfl := List.singleton_inj.1 h0
    exact ⟨none, 0, [], rfl, Nat.le_refl _, Kd.C_nil _ _, by simp⟩
  · obtain rfl := List.singleton_inj.1 hcs
    have hlm : len ≤ m := by rw [hmm]; split <;> omega
    have key : ∀ i, ∃ s : S89, i < len → ((∀ j u, [Value.string s.f0, .int .i64 s.f1, .bool s.f2][j]? = some u → w.cell? (a.add (i * 3 + j)) = some u) ∧ s.f0.size ≤ maxLen) := by
      intro i
      by_cases hil : i < len
      · obtain ⟨cs', hc, ht⟩ := hi i (by omega)
        obtain ⟨s, rfl, hs⟩ := open_sym ht
        obtain ⟨_, _, hat⟩ := World.cells?_some hc
        rw [cells89] at hat
        refine ⟨s, fun _ => ⟨fun j u hu => ?_, hs⟩⟩
        have hj : j < 3 := (List.getElem?_eq_some_iff.1 hu).1
        rw [← Go.Deep.add_add, hat j hj, hu]
      · exact ⟨z89, fun h => absurd h hil⟩
    let f : Nat → S89 := fun i => Classical.choose (key i)
    have hf : ∀ i, i < len → _ := fun i => Classical.choose_spec (key i)
    change ∀ i, i < len → ((∀ j u, [Value.string (f i).f0, .int .i64 (f i).f1, .bool (f i).f2][j]? = some u → w.cell? (a.add (i * 3 + j)) = some u) ∧ (f i).f0.size ≤ maxLen) at hf
    clear_value f
    refine ⟨some a, cap, (List.range len).map f, by simp, by simpa using hl, ⟨rfl, by unfold maxLen at hm; simp; omega, fun _ => ⟨a, rfl, fun j p hj => ?_⟩⟩, fun s hs => ?_⟩
    · have hjl : j < len := by have := (List.getElem?_eq_some_iff.1 hj).1; simpa using this
      obtain rfl : f j = p := by simpa [hjl] using hj
      exact ⟨[.string (f j).f0, .int .i64 (f j).f1, .bool (f j).f2], rfl, k89_mk _ _, fun i u hu => (hf j hjl).1 i u hu⟩
    · obtain ⟨i, hi2, rfl⟩ := List.mem_map.1 hs
      exact (hf i (List.mem_range.1 hi2)).2
theorem open_nums {t : TypeId} {fuel : Nat} {v : Value} {x : DataW H × List MemPlace} (ht : Try.prog.underlying t = some (.slice 3)) (h : DataW.trod enc Try.prog w base spare held fuel t [v] = some x)
    (hw : ∀ m ∈ x.1.weights Try.prog t, m ≤ reachBytes) :
    ∃ (A : Option Addr) (c : Nat) (T : List Int), v = .slice A T.length c ∧ T.length ≤ c ∧ T.length ≤ 17592186044415 ∧ Kd.C (Kd.int .i64) w A T.length T := by
  rcases open_ints ht Try.underlying3 cells3 h with ⟨h0, _⟩ | ⟨a, len, cap, zs, hcs, _, hl, hm, hz, hx, hcell, _⟩
  · obtain rfl := List.singleton_inj.1 h0
    exact ⟨none, 0, [], rfl, Nat.le_refl _, by simp, Kd.C_nil _ _⟩
  · obtain rfl := List.singleton_inj.1 hcs
    have hzl : len ≤ zs.length := by rw [hz]; split <;> omega
    have hT : (zs.take len).length = len := by simp [hzl]
    refine ⟨some a, cap, zs.take len, by rw [hT], by rw [hT]; exact hl, ?_, ?_⟩
    · subst hx
      have := hw _ (by simp only [DataW.weights, ht]; exact List.mem_cons_self)
      rw [bytes3] at this
      unfold reachBytes at this
      rw [hT]
      simp [lits] at this
      omega
    · rw [hT]
      refine ⟨hT, by unfold maxLen at hm; omega, fun _ => ⟨a, rfl, fun j p hj => ⟨[.int .i64 p], rfl, rfl, fun i u hu => ?_⟩⟩⟩
      have hjl : j < len := by have := (List.getElem?_eq_some_iff.1 hj).1; omega
      cases i with
      | zero =>
        simp at hu
        subst hu
        rw [show j * (Kd.int .i64).sz + 0 = j from by show j * 1 + 0 = j; omega, hcell j (by omega)]
        have : (zs.take len)[j]? = zs[j]? := by rw [List.getElem?_take, if_pos hjl]
        rw [this] at hj
        simp [List.getD_eq_getElem?_getD, hj]
      | succ i => simp at hu
theorem cells23 : Try.prog.cellsOf 23 = 1 := by kernel_rfl
theorem cells25 : Try.prog.cellsOf 25 = 1 := by kernel_rfl
end
end Go.Proofs.Ytadjoaipmcbieaa

/-! Z1 -/
namespace Go.Proofs.Ytadjoaipmcbieaa
open Go.RowKit Go.Proofs.YtadjoaipmcbieaaW.PrintWords Go.Proofs.YtadjoaipmcbieaaW.PrintLast Go.Proofs.YtadjoaipmcbieaaW.PrintMore A
set_option linter.unusedSimpArgs false
set_option linter.unusedVariables false
/-- What is wrong with two terms. -/
def er6 (l : List S89) (A B : List Int) : Int := if chk l A = 0 then chk l B else chk l A
theorem refCheck6_any (Ar : Option Addr) (cr : Nat) (l : List S89) (A1 A2 : Option Addr) (c1 c2 : Nat) (A B : List Int) (w : World) (hr : Kd.C k89 w Ar l.length l) (hc : l.length ≤ cr) (hl : GoodL l)
    (ha : Kd.C (Kd.int .i64) w A1 A.length A) (hda : A.length ≤ c1) (hb : Kd.C (Kd.int .i64) w A2 B.length B) (hdb : B.length ≤ c2) :
    Calls Try.prog 57 #[.slice Ar l.length cr, .slice A1 A.length c1, .slice A2 B.length c2] w fun e w' => e = .returned (.int .i64 (er6 l A B)) ∧ Drawn0 w w' := by
  refine ropewalkref06_Check.calls (2 * A.length + 2 * B.length + 2) Ar cr l A1 c1 A A2 c2 B _ w hr hc ha hda hb hdb ?_
  unfold ropewalkref06_Check.f er6
  rw [rcheck hl A (by omega), rcheck hl B (by omega), Option.bind_some, Option.bind_some]
  split <;> rfl
theorem UniR.len {b : Int → Nat} {A B : List Int} {e : Int} {t : List Int} (h : UniR b A B e t) : t.length ≤ 2000 ∧ (e ≠ 0 → t = []) := by
  cases h with
  | none _ => simp
  | long _ _ => simp
  | ok _ hl => rw [rn_length]; exact ⟨hl, fun h => absurd rfl h⟩
theorem ComR.len {l : List S89} {A B : List Int} {ap : Bool} {e : Int} {t : List Int} (h : ComR l A B ap e t) : t.length ≤ 2000 ∧ (er6 l A B ≠ 0 → e = er6 l A B ∧ t = []) := by
  unfold ComR at h
  unfold er6
  by_cases h1 : chk l A = 0
  · rw [if_neg (fun h => h h1)] at h
    rw [if_pos h1]
    by_cases h2 : chk l B = 0
    · rw [if_neg (fun h => h h2)] at h
      exact ⟨h.len.1, fun h3 => absurd h2 h3⟩
    · rw [if_pos h2] at h
      exact ⟨by rw [h.2]; simp, fun _ => h⟩
  · rw [if_pos h1] at h
    rw [if_neg h1]
    exact ⟨by rw [h.2]; simp, fun _ => h⟩
theorem er6_zero {l : List S89} {A B : List Int} : er6 l A B = 0 ↔ chk l A = 0 ∧ chk l B = 0 := by
  unfold er6
  split
  · exact ⟨fun h => ⟨by assumption, h⟩, fun h => h.2⟩
  · exact ⟨fun h => by contradiction, fun h => h.1⟩
/-- Where asked's loop stands. -/
structure AkSt (w0 w W : World) (la ha lb hb lc hc : Nat) (va vb vc : Value) (ys t : List Int) : Prop where
  a : Rw W la ha va ys
  yl : ys.length = t.length
  b : Rw W lb hb vb t
  c : Rw W lc hc vc t
  l : Below w0.heap.size w0 W
  k : Kept w W (fun k => la ≤ k ∧ k < ha)
section
variable {w0 w W W' : World} {la ha lb hb lc hc : Nat} {va vb vc : Value} {ys t : List Int}
theorem AkSt.below (h : AkSt w0 w W la ha lb hb lc hc va vb vc ys t) (hbw : Below W.heap.size W W') : AkSt w0 w W' la ha lb hb lc hc va vb vc ys t :=
  ⟨h.a.below hbw, h.yl, h.b.below hbw, h.c.below hbw, below_then h.l h.l.size hbw, h.k.below hbw⟩
theorem AkSt.put {g n c : Nat} (h : AkSt w0 w W la ha lb hb lc hc (.slice (some ⟨g, 0, none⟩) n c) vb vc ys t) (h0 : w0.heap.size ≤ la) (hab : ha ≤ lb ∨ hb ≤ la) (hac : ha ≤ lc ∨ hc ≤ la) (i : Nat) (x : Int) :
    AkSt w0 w (W.setCell ⟨g, i, none⟩ (.int .i64 x)) la ha lb hb lc hc (.slice (some ⟨g, 0, none⟩) n c) vb vc (ys.set i x) t := by
  have hg := h.a.at_
  refine ⟨(Kd.R_putg h.a (i : Int) x).1, by rw [List.length_set]; exact h.yl, Kd.R_far h.b (p := ⟨g, i, none⟩) (fun k hk e => ?_) _, Kd.R_far h.c (p := ⟨g, i, none⟩) (fun k hk e => ?_) _, h.l.setCell (p := ⟨g, i, none⟩) (by show w0.heap.size ≤ g; omega) _, h.k.setCell (p := ⟨g, i, none⟩) (.inl hg) _⟩
  · have e' : k = g := e
    omega
  · have e' : k = g := e
    omega
end
set_option maxRecDepth 100000 in
set_option maxHeartbeats 4000000 in
/-- asked, from its first comparison on. -/
theorem asked_ok {w0 w : World} {M : List S89} {Ar A0 A1 A2 A3 : Option Addr} {cr n0 c0 c1 c2 n3 c3 : Nat} {A B t : List Int} {ap : Bool} {er : Int} {va vb : Value} {la ha lb hb : Nat} (hB : Below w0.heap.size w0 w) (h0 : w0.heap.size ≤ la) (a : Rw w la ha va t) (b : Rw w lb hb vb t) (hab : ha ≤ lb ∨ hb ≤ la) (hha : ha ≤ w.heap.size)
    (hC : ComR M A B ap er t) (hr : Kd.C k89 w Ar M.length M) (hcr : M.length ≤ cr) (hl : GoodL M) (hta : Kd.C (Kd.int .i64) w A1 A.length A) (hda : A.length ≤ c1) (htb : Kd.C (Kd.int .i64) w A2 B.length B) (hdb : B.length ≤ c2) :
    Calls Try.prog 55 #[.agg #[.slice A0 n0 c0, .slice A1 A.length c1, .slice A2 B.length c2, .slice A3 n3 c3], .slice Ar M.length cr, .bool ap, va, vb, .int .i64 er, .int .i64 er] w fun e w' => e = .returned (.bool true) ∧ Below w0.heap.size w0 w' ∧ Kept w w' (fun k => la ≤ k ∧ k < ha) := by
  have hlen := hC.len.1
  obtain ⟨Aa, ca, rfl, hca, -⟩ := a.reads
  obtain ⟨Ab, cb, rfl, hcb, -⟩ := b.reads
  have HA := Aside0.mk a
  have HBB := Aside0.mk b
  have HB := Aside0.mk hB
  have HC := Aside0.mk hC
  have HR := Aside0.mk hr
  have HL := Aside0.mk hl
  have HTA := Aside0.mk hta
  have HTB := Aside0.mk htb
  have HAB := Aside0.mk hab
  have HHA := Aside0.mk hha
  have H0 := Aside0.mk h0
  have HS := Aside0.mk hB.size
  clear a b hB hC hr hl hta htb hab hha h0
  go_enter Try.func55, Try.ntmps55
  go_wp2_with fail
  have hb1 : Below w.heap.size w (w.alloc (.cells #[.slice A0 n0 c0, .slice A1 A.length c1, .slice A2 B.length c2, .slice A3 n3 c3] 62)) := below_alloc (Below.refl _ _) _
  have hbx : (w.alloc (.cells #[.slice A0 n0 c0, .slice A1 A.length c1, .slice A2 B.length c2, .slice A3 n3 c3] 62)).heap[w.heap.size]? = _ := heap_alloc_new w _
  have B1 := Aside0.mk hb1
  have BX := Aside0.mk hbx
  clear hb1 hbx
  generalize w.alloc (.cells #[.slice A0 n0 c0, .slice A1 A.length c1, .slice A2 B.length c2, .slice A3 n3 c3] 62) = w1 at *
  refine (refCheck6_any Ar cr M A1 A2 c1 c2 A B _ (Kd.C_below HR.out B1.out) hcr HL.out (Kd.C_below HTA.out B1.out) hda (Kd.C_below HTB.out B1.out) hdb).mono ?_
  rintro e w2 ⟨rfl, hd⟩
  have B2 := Aside0.mk (below_then B1.out B1.out.size hd.below)
  have BX2 := Aside0.mk ((hd.below.block _ (blk_lt BX.out)).trans BX.out)
  clear hd B1 BX
  obtain ⟨er', her⟩ : ∃ e, e = er6 M A B := ⟨_, rfl⟩
  rw [← her]
  have HER := Aside0.mk her
  clear her
  have K2 : Aside0 (Kept w w2 (fun k => la ≤ k ∧ k < ha)) := ⟨Kept.of_below B2.out _⟩
  by_cases hz : er' = 0
  · have e1 : (er' == 0) = true := beq_iff_eq.2 hz
    obtain ⟨q1, q2⟩ := er6_zero.1 (HER.out.symm.trans hz)
    have Q := Aside0.mk (And.intro q1 q2)
    obtain ⟨k1, k2⟩ : w2.cell? ⟨w.heap.size, 1, none⟩ = some (.slice A1 A.length c1) ∧ w2.cell? ⟨w.heap.size, 2, none⟩ = some (.slice A2 B.length c2) := ⟨cell_of_row w2 w.heap.size 1 _ _ _ BX2.out, cell_of_row w2 w.heap.size 2 _ _ _ BX2.out⟩
    clear q1 q2 hz
    go_wp2_with fail
    clear k1 k2 e1
    refine (Common_ok Ar cr M A1 A2 c1 c2 A B ap w2 (Kd.C_below HR.out B2.out) hcr HL.out (Kd.C_below HTA.out B2.out) (Kd.C_below HTB.out B2.out) hda hdb Q.out.1 Q.out.2).mono ?_
    rintro e w3 ⟨vc, er2, t2, rfl, hcom, hrow, hb3⟩
    obtain ⟨rfl, rfl⟩ := HC.out.det hcom
    have HZ : Aside0 (ha ≤ w2.heap.size) := ⟨Nat.le_trans HHA.out B2.out.size⟩
    have HW : Aside0 (AkSt w0 w w3 la ha lb hb w2.heap.size w3.heap.size (.slice Aa t.length ca) (.slice Ab t.length cb) vc t t) :=
      ⟨(HA.out.below B2.out).below hb3, rfl, (HBB.out.below B2.out).below hb3, Rw.mk hrow, below_then (below_then HB.out HS.out B2.out) (Nat.le_trans HS.out B2.out.size) hb3, K2.out.below hb3⟩
    have HAC : Aside0 (ha ≤ w2.heap.size ∨ w3.heap.size ≤ la) := ⟨.inl HZ.out⟩
    clear hcom hrow hb3 HZ K2 BX2 B2
    generalize w2.heap.size = lc at *
    generalize w3.heap.size = hc at *
    go_wp2_with fail
    obtain ⟨Ac, cc, rfl, hcc, -⟩ := HW.out.c.reads
    have hD : decide (t = t) = true := by simp
    refine (same_n Aa t.length ca t Ac t.length cc t _ (HW.out.a.reads.elim fun _ h => h.elim fun _ h => by cases h.1; exact h.2.2) hca (HW.out.c.reads.elim fun _ h => h.elim fun _ h => by cases h.1; exact h.2.2) hcc).mono ?_
    rintro e w4 ⟨rfl, hd⟩
    rw [hD]
    replace HW := Aside0.mk (HW.out.below hd.below)
    clear hd hD
    go_wp2_with fail
    go_loopg [18] t.length (fun m a wr => ∃ (i : Nat) (ys : List Int), a = .int .i64 i ∧ i ≤ t.length ∧ Aside0 (m = t.length - i) ∧ Aside0 (AkSt w0 w wr la ha lb hb lc hc (.slice Aa t.length ca) (.slice Ab t.length cb) (.slice Ac t.length cc) ys t))
    case atStart => exact ⟨0, t, rfl, by omega, ⟨rfl⟩, HW⟩
    case round =>
      clear HW
      obtain ⟨i, ys, rfl, hi, HM, HW⟩ := hrel
      by_cases hlt : i < t.length
      · obtain ⟨g, c', e, _, _⟩ := Kd.R_form HW.out.a (by rw [HW.out.yl]; omega)
        rw [HW.out.yl] at e
        cases e
        obtain ⟨d0, f0⟩ := cell_row HW.out.a hlt rfl
        have HP := Aside0.mk (HW.out.put H0.out HAB.out HAC.out i 999)
        have HI := Aside0.mk hlt
        have hlt2 : (i : Int) < (t.length : Int) := by omega
        go_wp2_with fail
        go_roundg (t.length - (i + 1))
        case measure => have := HI.out; have := HM.out; omega
        case rel => exact ⟨i + 1, ys.set i 999, by go_num, by have := HI.out; omega, ⟨rfl⟩, HP⟩
      · obtain rfl : i = t.length := by omega
        go_wp2_with fail
        have hD : decide (t = t) = true := by simp
        refine (same_n Ab t.length cb t Ac t.length cc t _ (HW.out.b.reads.elim fun _ h => h.elim fun _ h => by cases h.1; exact h.2.2) hcb (HW.out.c.reads.elim fun _ h => h.elim fun _ h => by cases h.1; exact h.2.2) hcc).mono ?_
        rintro e w5 ⟨rfl, hd⟩
        rw [hD]
        replace HW := Aside0.mk (HW.out.below hd.below)
        clear hd hD
        have hEE : (er == er) = true := beq_self_eq_true _
        go_wp2_with fail
        go_ret
        exact ⟨rfl, HW.out.l, HW.out.k⟩
  · have e1 : (er' == 0) = false := beq_eq_false_iff_ne.2 hz
    obtain ⟨q1, q2⟩ := HC.out.len.2 (fun h => hz (HER.out.trans h))
    obtain rfl : er' = er := HER.out.trans q1.symm
    have Q2 := Aside0.mk q2
    clear q1 q2
    go_wp2_with fail
    clear e1
    generalize hvc : Value.slice none 0 0 = vc
    have HW : Aside0 (AkSt w0 w w2 la ha lb hb ha ha (.slice Aa t.length ca) (.slice Ab t.length cb) vc t t) :=
      ⟨HA.out.below B2.out, rfl, HBB.out.below B2.out, by rw [Q2.out, ← hvc]; exact Rw.nil _ _ _, below_then HB.out HS.out B2.out, K2.out⟩
    have HAC : Aside0 (ha ≤ ha ∨ ha ≤ la) := ⟨.inl (Nat.le_refl _)⟩
    clear hvc K2 BX2 B2 hz
    obtain ⟨Ac, cc, rfl, hcc, -⟩ := HW.out.c.reads
    have hD : decide (t = t) = true := by simp
    refine (same_n Aa t.length ca t Ac t.length cc t _ (HW.out.a.reads.elim fun _ h => h.elim fun _ h => by cases h.1; exact h.2.2) hca (HW.out.c.reads.elim fun _ h => h.elim fun _ h => by cases h.1; exact h.2.2) hcc).mono ?_
    rintro e w4 ⟨rfl, hd⟩
    rw [hD]
    replace HW := Aside0.mk (HW.out.below hd.below)
    clear hd hD
    go_wp2_with fail
    go_loopg [18] t.length (fun m a wr => ∃ (i : Nat) (ys : List Int), a = .int .i64 i ∧ i ≤ t.length ∧ Aside0 (m = t.length - i) ∧ Aside0 (AkSt w0 w wr la ha lb hb ha ha (.slice Aa t.length ca) (.slice Ab t.length cb) (.slice Ac t.length cc) ys t))
    case atStart => exact ⟨0, t, rfl, by omega, ⟨rfl⟩, HW⟩
    case round =>
      clear HW
      obtain ⟨i, ys, rfl, hi, HM, HW⟩ := hrel
      by_cases hlt : i < t.length
      · obtain ⟨g, c', e, _, _⟩ := Kd.R_form HW.out.a (by rw [HW.out.yl]; omega)
        rw [HW.out.yl] at e
        cases e
        obtain ⟨d0, f0⟩ := cell_row HW.out.a hlt rfl
        have HP := Aside0.mk (HW.out.put H0.out HAB.out HAC.out i 999)
        have HI := Aside0.mk hlt
        have hlt2 : (i : Int) < (t.length : Int) := by omega
        go_wp2_with fail
        go_roundg (t.length - (i + 1))
        case measure => have := HI.out; have := HM.out; omega
        case rel => exact ⟨i + 1, ys.set i 999, by go_num, by have := HI.out; omega, ⟨rfl⟩, HP⟩
      · obtain rfl : i = t.length := by omega
        go_wp2_with fail
        have hD : decide (t = t) = true := by simp
        refine (same_n Ab t.length cb t Ac t.length cc t _ (HW.out.b.reads.elim fun _ h => h.elim fun _ h => by cases h.1; exact h.2.2) hcb (HW.out.c.reads.elim fun _ h => h.elim fun _ h => by cases h.1; exact h.2.2) hcc).mono ?_
        rintro e w5 ⟨rfl, hd⟩
        rw [hD]
        replace HW := Aside0.mk (HW.out.below hd.below)
        clear hd hD
        have hEE : (er' == er') = true := beq_self_eq_true _
        go_wp2_with fail
        go_ret
        exact ⟨rfl, HW.out.l, HW.out.k⟩
end Go.Proofs.Ytadjoaipmcbieaa

/-! Z2 -/
namespace Go.Proofs.Ytadjoaipmcbieaa
open Go.ChangeShapes Go.WideShapes Go.ChangeAt Go.Deep
open Go.RowKit Go.Proofs.YtadjoaipmcbieaaW.PrintWords Go.Proofs.YtadjoaipmcbieaaW.PrintLast Go.Proofs.YtadjoaipmcbieaaW.PrintMore A
/-- What a law's Case leads to. -/
structure C6 (w : World) (A0 : Option Addr) (c0 : Nat) (L : List S89) (A1 : Option Addr) (c1 : Nat) (A : List Int) (A2 : Option Addr) (c2 : Nat) (B : List Int) (A3 : Option Addr) (c3 : Nat) (T : List Int) : Prop where
  l : Kd.C k89 w A0 L.length L
  lc : L.length ≤ c0
  ln : ∀ x ∈ L, x.f0.size ≤ maxLen
  a : Kd.C (Kd.int .i64) w A1 A.length A
  ac : A.length ≤ c1
  al : A.length ≤ 17592186044415
  b : Kd.C (Kd.int .i64) w A2 B.length B
  bc : B.length ≤ c2
  bl : B.length ≤ 17592186044415
  t : Kd.C (Kd.int .i64) w A3 T.length T
  tc : T.length ≤ c3
  tl : T.length ≤ 17592186044415
section
variable {w w' W W' : World} {A0 : Option Addr} {c0 : Nat} {L : List S89} {A1 : Option Addr} {c1 : Nat} {A : List Int} {A2 : Option Addr} {c2 : Nat} {B : List Int} {A3 : Option Addr} {c3 : Nat} {T : List Int}
theorem C6.below (h : C6 w A0 c0 L A1 c1 A A2 c2 B A3 c3 T) (hb : Below w.heap.size w w') : C6 w' A0 c0 L A1 c1 A A2 c2 B A3 c3 T :=
  ⟨Kd.C_below h.l hb, h.lc, h.ln, Kd.C_below h.a hb, h.ac, h.al, Kd.C_below h.b hb, h.bc, h.bl, Kd.C_below h.t hb, h.tc, h.tl⟩
/-- The box, and what its fields lead to. -/
structure H6 (W : World) (b : Nat) (A0 : Option Addr) (c0 : Nat) (L : List S89) (A1 : Option Addr) (c1 : Nat) (A : List Int) (A2 : Option Addr) (c2 : Nat) (B : List Int) (A3 : Option Addr) (c3 : Nat) (T : List Int) : Prop where
  x : W.heap[b]? = some (.cells #[.slice A0 L.length c0, .slice A1 A.length c1, .slice A2 B.length c2, .slice A3 T.length c3] 62 (0, 0))
  i : C6 W A0 c0 L A1 c1 A A2 c2 B A3 c3 T
variable {b g : Nat} {Ar : Option Addr} {M : List S89}
theorem H6.below (h : H6 W b A0 c0 L A1 c1 A A2 c2 B A3 c3 T) (hb : Below W.heap.size W W') : H6 W' b A0 c0 L A1 c1 A A2 c2 B A3 c3 T := ⟨(hb.block _ (blk_lt h.x)).trans h.x, h.i.below hb⟩
theorem H6.cells (h : H6 W b A0 c0 L A1 c1 A A2 c2 B A3 c3 T) : W.cell? ⟨b, 0, none⟩ = some (.slice A0 L.length c0) ∧ W.cell? ⟨b, 1, none⟩ = some (.slice A1 A.length c1) ∧ W.cell? ⟨b, 2, none⟩ = some (.slice A2 B.length c2) ∧ W.cell? ⟨b, 3, none⟩ = some (.slice A3 T.length c3) := by
  have c0 := cell_of_row W b 0 _ _ _ h.x
  have c1 := cell_of_row W b 1 _ _ _ h.x
  have c2 := cell_of_row W b 2 _ _ _ h.x
  have c3 := cell_of_row W b 3 _ _ _ h.x
  exact ⟨c0, c1, c2, c3⟩
theorem H6.new (h : C6 w A0 c0 L A1 c1 A A2 c2 B A3 c3 T) : H6 (w.alloc (.cells #[.slice A0 L.length c0, .slice A1 A.length c1, .slice A2 B.length c2, .slice A3 T.length c3] 62)) w.heap.size A0 c0 L A1 c1 A A2 c2 B A3 c3 T :=
  ⟨heap_alloc_new w _, h.below (below_alloc (Below.refl _ _) _)⟩
/-- Where a law stands: what it has kept, the box, the signature, the document's list of symbols. -/
structure St6 (w W : World) (g : Nat) (Ar : Option Addr) (M : List S89) (A0 : Option Addr) (c0 : Nat) (L : List S89) (A1 : Option Addr) (c1 : Nat) (A : List Int) (A2 : Option Addr) (c2 : Nat) (B : List Int) (A3 : Option Addr) (c3 : Nat) (T : List Int) : Prop where
  b : Below w.heap.size w W
  h : H6 W w.heap.size A0 c0 L A1 c1 A A2 c2 B A3 c3 T
  s : SigC W g M
  r : Kd.C k89 W Ar M.length M
theorem St6.below (h : St6 w W g Ar M A0 c0 L A1 c1 A A2 c2 B A3 c3 T) (hb : Below W.heap.size W W') : St6 w W' g Ar M A0 c0 L A1 c1 A A2 c2 B A3 c3 T :=
  ⟨below_then h.b h.b.size hb, h.h.below hb, h.s.below hb, Kd.C_below h.r hb⟩
end
section
variable {H : Type} {enc : TypeId × Value → H} {w : World} {base : Nat} {spare : Nat → Bool} {held : Bool}
theorem cells62 : Try.prog.cellsOf 62 = 4 := by kernel_rfl
theorem four_of {α : Type} : ∀ {l : List α}, l.length = 4 → ∃ a b c d, l = [a, b, c, d]
  | [a, b, c, d], _ => ⟨a, b, c, d, rfl⟩
set_option maxRecDepth 100000 in
theorem open_case6 {r : Reach} {b0 : Nat} {v : Value} {d : DataW H} {p : List MemPlace} (hv : Value.okWide Try.prog w r b0 62 v) (h : DataW.Trod enc Try.prog w base spare held 62 v d p)
    (hw : ∀ m ∈ d.weights Try.prog 62, m ≤ reachBytes) :
    ∃ (A0 : Option Addr) (c0 : Nat) (L : List S89) (A1 : Option Addr) (c1 : Nat) (A : List Int) (A2 : Option Addr) (c2 : Nat) (B : List Int) (A3 : Option Addr) (c3 : Nat) (T : List Int),
      v = .agg #[.slice A0 L.length c0, .slice A1 A.length c1, .slice A2 B.length c2, .slice A3 T.length c3] ∧ C6 w A0 c0 L A1 c1 A A2 c2 B A3 c3 T := by
  obtain ⟨cs, rfl, hz⟩ := okWide_struct Try.underlying62 hv
  obtain ⟨l⟩ := cs
  rw [cells62] at hz
  obtain ⟨x0, x1, x2, x3, rfl⟩ := four_of (l := l) hz
  obtain ⟨fuel, hf⟩ := h
  obtain ⟨ys, n, _, hx, _, hlen, hg⟩ := DataW.trod_struct Try.underlying62 hf
  obtain ⟨y0, y1, y2, y3, rfl⟩ := four_of (l := ys) hlen
  have h0 : DataW.trod enc Try.prog w base spare held n 23 (List.take (Try.prog.cellsOf 23) [x0, x1, x2, x3]) = some y0 := hg 0 _ rfl
  have h1 : DataW.trod enc Try.prog w base spare held n 25 (List.take (Try.prog.cellsOf 25) [x1, x2, x3]) = some y1 := hg 1 _ rfl
  have h2 : DataW.trod enc Try.prog w base spare held n 25 (List.take (Try.prog.cellsOf 25) [x2, x3]) = some y2 := hg 2 _ rfl
  have h3 : DataW.trod enc Try.prog w base spare held n 25 (List.take (Try.prog.cellsOf 25) [x3]) = some y3 := hg 3 _ rfl
  rw [cells23] at h0
  rw [cells25] at h1 h2 h3
  have hd : d = .agg [y0.1, y1.1, y2.1, y3.1] := congrArg Prod.fst hx
  subst hd
  simp only [DataW.weights, Try.underlying62] at hw
  have hwj : ∀ (j : Nat) (t : TypeId) (e : DataW H), [23, 25, 25, 25][j]? = some t → [y0.1, y1.1, y2.1, y3.1][j]? = some e → ∀ m ∈ e.weights Try.prog t, m ≤ reachBytes := fun j t e ht he m hm => hw m (DataW.weights_mem_each (j := j) ht he m hm)
  obtain ⟨A0, c0, L, rfl, lc, hl, ln⟩ := open_syms h0
  obtain ⟨A1, c1, A, rfl, tc, tl, ht⟩ := open_nums Try.underlying25 h1 (hwj 1 _ _ rfl rfl)
  obtain ⟨A2, c2, B, rfl, uc, ul, hu⟩ := open_nums Try.underlying25 h2 (hwj 2 _ _ rfl rfl)
  obtain ⟨A3, c3, T, rfl, qc, ql, hp⟩ := open_nums Try.underlying25 h3 (hwj 3 _ _ rfl rfl)
  exact ⟨A0, c0, L, A1, c1, A, A2, c2, B, A3, c3, T, rfl, ⟨hl, lc, ln, ht, tc, tl, hu, uc, ul, hp, qc, ql⟩⟩
end
end Go.Proofs.Ytadjoaipmcbieaa

/-! Z3 -/
namespace Go.Proofs.Ytadjoaipmcbieaa
end Go.Proofs.Ytadjoaipmcbieaa

/-! Z4 -/
namespace Go.Proofs.Ytadjoaipmcbieaa
open Go.RowKit Go.Proofs.YtadjoaipmcbieaaW.PrintWords Go.Proofs.YtadjoaipmcbieaaW.PrintLast Go.Proofs.YtadjoaipmcbieaaW.PrintMore A
set_option linter.unusedSimpArgs false
set_option linter.unusedVariables false
theorem last_of (xs : List Int) (x : Int) : rd (xs ++ [x]) xs.length = x := by
  simp [rd, List.getD_eq_getElem?_getD]
set_option maxRecDepth 100000 in
set_option maxHeartbeats 8000000 in
theorem tells_walk {A0 : Option Addr} {c0 : Nat} {L : List S89} {A1 : Option Addr} {c1 : Nat} {A : List Int} {A2 : Option Addr} {c2 : Nat} {B : List Int} {A3 : Option Addr} {c3 : Nat} {T : List Int} (w : World)
    (h : C6 w A0 c0 L A1 c1 A A2 c2 B A3 c3 T) :
    Calls Try.prog 13 #[.agg #[.slice A0 L.length c0, .slice A1 A.length c1, .slice A2 B.length c2, .slice A3 T.length c3]] w fun e w' => e = .returned (.bool true) ∧ Below w.heap.size w w' := by
  have H0 := Aside0.mk (H6.new h)
  have HN := Aside0.mk h
  have HB0 : Aside0 (Below w.heap.size w (w.alloc (.cells #[.slice A0 L.length c0, .slice A1 A.length c1, .slice A2 B.length c2, .slice A3 T.length c3] 62))) := ⟨below_alloc (Below.refl _ _) _⟩
  clear h
  go_enter Try.func13, Try.ntmps13
  go_wp2_with fail
  generalize w.alloc (.cells #[.slice A0 L.length c0, .slice A1 A.length c1, .slice A2 B.length c2, .slice A3 T.length c3] 62) = w1 at *
  refine (awake06 _).mono ?_
  rintro e w2 ⟨rfl, hb2⟩
  have B2 := Aside0.mk (below_then HB0.out HB0.out.size hb2)
  have H2 := Aside0.mk (H0.out.below hb2)
  clear hb2 H0 HB0
  obtain ⟨k0, k1, k2, k3⟩ := H2.out.cells
  go_wp2_with fail
  clear k0 k1 k2 k3
  refine (made_any A0 c0 L _ H2.out.i.l HN.out.ln).mono ?_
  rintro e w3 ⟨g, v, rfl, hs, hr, hb3⟩
  obtain ⟨Ar, cr, rfl, hcr, hC⟩ := Kd.R_reads hr
  have GD := Aside0.mk (made_good L)
  have S3 : Aside0 (St6 w w3 g Ar (madeL L) A0 c0 L A1 c1 A A2 c2 B A3 c3 T) := ⟨⟨below_then B2.out B2.out.size hb3, H2.out.below hb3, hs, hC⟩⟩
  have S := S3
  have HCR := Aside0.mk hcr
  clear hs hr hb3 hC H2 B2 hcr
  generalize madeL L = M at *
  obtain ⟨k0, k1, k2, k3⟩ := S.out.h.cells
  go_upto_region 5 with fail
  have hlena := S.out.h.i.al
  go_upto_region 6 with (first
    | ((with_reducible refine gate_dst (N := 26) rfl ?_); (try (refine gate_guard (by rfl) ?_; dsimp only)); refine Kd.R_lit (Kd.int .i64) _ 3 ?hg (N := 26) ?hd (xs := ([] : List Int)) (inner := []) (ok := fun _ => True) (okp := fun _ => True) ?hr ?hp (fun _ hk => hk) trivial (Below.refl _ _) (Nat.le_refl _) (by simp) ?_; (case hd => rfl); (case hg => rfl); (case hr => first | (go_simp; done) | (go_simp; rfl)); (case hp => exact (Reps.none _ _)); intro va0 xa ho hb hg_ hnew_; have HOa := Aside0.mk ho; have BXa := Aside0.mk hb; replace S := Aside0.mk (S.out.below hb); obtain ⟨k0, k1, k2, k3⟩ := S.out.h.cells; clear ho hb hg_ hnew_)
    | ((at_builtin; refine Kd.R_append_rows (Kd.int .i64) (Rr := fun x cs => cs = [.int .i64 x]) (w0 := w3) w3.heap.size rfl (.tmp 26) (.tmp 28) 25 3 (.int .i64 0) 8 rfl Try.underlying25 info3 rfl (by decide) (by omega) va0 [] A A1 A.length c1 (fun _ => True) (fun _ => False) rfl rfl HOa.out S.out.h.i.a (fun _ _ h => h) (fun _ hk => hk.elim) (fun _ _ => trivial) BXa.out BXa.out.size (by simp only [List.length_nil]; omega) ?_; intro va1 ya ho hb hg hat; rw [List.nil_append] at ho; have HPa := Aside0.mk ho; have BYa := Aside0.mk hb; clear ho hb hg hat))
    | (at_builtin; refine Kd.R_append (Kd.int .i64) (w0 := w3) w3.heap.size rfl (.tmp 29) (.tmp 30) 25 3 (.int .i64 0) 8 rfl Try.underlying25 info3 rfl (by decide) (by omega) va1 A (77 : Int) [.int .i64 77] (fun _ => True) (fun _ => False) rfl rfl rfl (fun _ hk => hk.elim) (fun _ _ => trivial) HPa.out BYa.out BYa.out.size (by omega) ?_; intro va2 za ho2 hb2 hg2 hat2; obtain ⟨ga, capa, rfl, -, -, -⟩ := Kd.R_form ho2 (by simp); rw [show (A ++ [(77:Int)]).length = A.length + 1 by simp] at ho2; have HRa := Aside0.mk (Rw.mk ho2); have BZa := Aside0.mk hb2; clear ho2 hb2 hg2 hat2 k0 k1 k2 k3))
  have hcapa : A.length + 1 ≤ capa := (Kd.R_reads' HRa.out).2.1
  replace S := Aside0.mk (S3.out.below BZa.out)
  clear BXa BYa HOa HPa
  obtain ⟨k0, k1, k2, k3⟩ := S.out.h.cells
  have hlenb := S.out.h.i.bl
  go_upto_region 7 with (first
    | ((with_reducible refine gate_dst (N := 32) rfl ?_); (try (refine gate_guard (by rfl) ?_; dsimp only)); refine Kd.R_lit (Kd.int .i64) _ 3 ?hg (N := 32) ?hd (xs := ([] : List Int)) (inner := []) (ok := fun _ => True) (okp := fun _ => True) ?hr ?hp (fun _ hk => hk) trivial (Below.refl _ _) (Nat.le_refl _) (by simp) ?_; (case hd => rfl); (case hg => rfl); (case hr => first | (go_simp; done) | (go_simp; rfl)); (case hp => exact (Reps.none _ _)); intro vb0 xb ho hb hg_ hnew_; have HOb := Aside0.mk ho; have BXb := Aside0.mk hb; replace S := Aside0.mk (S.out.below hb); obtain ⟨k0, k1, k2, k3⟩ := S.out.h.cells; clear ho hb hg_ hnew_)
    | ((at_builtin; refine Kd.R_append_rows (Kd.int .i64) (Rr := fun x cs => cs = [.int .i64 x]) (w0 := za) za.heap.size rfl (.tmp 32) (.tmp 34) 25 3 (.int .i64 0) 8 rfl Try.underlying25 info3 rfl (by decide) (by omega) vb0 [] B A2 B.length c2 (fun _ => True) (fun _ => False) rfl rfl HOb.out S.out.h.i.b (fun _ _ h => h) (fun _ hk => hk.elim) (fun _ _ => trivial) BXb.out BXb.out.size (by simp only [List.length_nil]; omega) ?_; intro vb1 yb ho hb hg hat; rw [List.nil_append] at ho; have HPb := Aside0.mk ho; have BYb := Aside0.mk hb; clear ho hb hg hat))
    | (at_builtin; refine Kd.R_append (Kd.int .i64) (w0 := za) za.heap.size rfl (.tmp 35) (.tmp 36) 25 3 (.int .i64 0) 8 rfl Try.underlying25 info3 rfl (by decide) (by omega) vb1 B (78 : Int) [.int .i64 78] (fun _ => True) (fun _ => False) rfl rfl rfl (fun _ hk => hk.elim) (fun _ _ => trivial) HPb.out BYb.out BYb.out.size (by omega) ?_; intro vb2 zb ho2 hb2 hg2 hat2; obtain ⟨gb, capb, rfl, -, -, -⟩ := Kd.R_form ho2 (by simp); rw [show (B ++ [(78:Int)]).length = B.length + 1 by simp] at ho2; have HRb := Aside0.mk (Rw.mk ho2); have BZb := Aside0.mk hb2; clear ho2 hb2 hg2 hat2 k0 k1 k2 k3))
  have hcapb : B.length + 1 ≤ capb := (Kd.R_reads' HRb.out).2.1
  have BD : Aside0 (Below w3.heap.size w3 zb) := ⟨below_then BZa.out BZa.out.size BZb.out⟩
  replace S := Aside0.mk (S3.out.below BD.out)
  replace HRa := Aside0.mk (HRa.out.below BZb.out)
  have ZA : Aside0 (w3.heap.size ≤ za.heap.size) := ⟨BZa.out.size⟩
  have ZB : Aside0 (za.heap.size ≤ zb.heap.size) := ⟨BZb.out.size⟩
  clear BXb BYb HOb HPb BZa BZb
  obtain ⟨-, k1, k2, -⟩ := S.out.h.cells
  have hca0 : A.length ≤ capa := by omega
  have hcb0 : B.length ≤ capb := by omega
  refine start_ (n := 17) (S := fun w' => w'.cell? ⟨w.heap.size, 1, none⟩ = some (.slice A1 A.length c1) ∧ w'.cell? ⟨w.heap.size, 2, none⟩ = some (.slice A2 B.length c2)) (ds := []) #[false, false, false, false, false, false, false, false, false, false, false, false, false, false, false, false, false] (by kernel_rfl) rfl rfl ⟨k1, k2⟩ (fun hHeld => ?_)
  replace S : Aside0 (St6 w zb.drew g Ar M A0 c0 L A1 c1 A A2 c2 B A3 c3 T) := ⟨S.out.below (below_drew (Below.refl _ _))⟩
  replace HRa : Aside0 (Rw zb.drew w3.heap.size za.heap.size (.slice (some ⟨ga, 0, none⟩) (A.length + 1) capa) (A ++ [77])) := ⟨HRa.out.below (below_drew (Below.refl _ _))⟩
  replace HRb : Aside0 (Rw zb.drew za.heap.size zb.heap.size (.slice (some ⟨gb, 0, none⟩) (B.length + 1) capb) (B ++ [78])) := ⟨HRb.out.below (below_drew (Below.refl _ _))⟩
  replace BD : Aside0 (Below w3.heap.size w3 zb.drew) := ⟨BD.out.drew⟩
  replace ZB : Aside0 (za.heap.size ≤ zb.drew.heap.size) := ⟨ZB.out⟩
  have ZC : Aside0 (zb.heap.size ≤ zb.drew.heap.size) := ⟨Nat.le_refl _⟩
  generalize zb.drew = w4 at *
  clear k1 k2
  refine pure_ (i := 0) (N := some 39) (v := ?_) (a' := ?_) #[true, false, false, false, false, false, false, false, false, false, false, false, false, false, false, false, false] rfl rfl (by kernel_rfl) (fun _ _ _ h => h) (Or.inl ⟨by rfl, ?_⟩) ?_ ?_
  rotate_left
  · intro w'
    go_simp
    with_reducible rfl
  rotate_left
  · simp only [Act.put, List.setIfInBounds_toArray, List.set_cons_zero, List.set_cons_succ, i64_w, i32_w]
    rfl
  refine pure_ (i := 1) (N := some 40) (v := ?_) (a' := ?_) #[true, true, false, false, false, false, false, false, false, false, false, false, false, false, false, false, false] rfl rfl (by kernel_rfl) (fun _ _ _ h => h) (Or.inl ⟨by rfl, ?_⟩) ?_ ?_
  rotate_left
  · intro w'
    go_simp
    with_reducible rfl
  rotate_left
  · simp only [Act.put, List.setIfInBounds_toArray, List.set_cons_zero, List.set_cons_succ, i64_w, i32_w]
    rfl
  refine pure_ (i := 2) (N := some 41) (v := ?_) (a' := ?_) #[true, true, true, false, false, false, false, false, false, false, false, false, false, false, false, false, false] rfl rfl (by kernel_rfl) (fun _ _ _ h => h) (Or.inl ⟨by rfl, ?_⟩) ?_ ?_
  rotate_left
  · intro w'
    go_simp
    with_reducible rfl
  rotate_left
  · simp only [Act.put, List.setIfInBounds_toArray, List.set_cons_zero, List.set_cons_succ, i64_w, i32_w]
    rfl
  refine pure_ (i := 6) (N := some 45) (v := ?_) (a' := ?_) #[true, true, true, false, false, false, true, false, false, false, false, false, false, false, false, false, false] rfl rfl (by kernel_rfl) (fun _ _ _ h => h) (Or.inl ⟨by rfl, ?_⟩) ?_ ?_
  rotate_left
  · intro w'
    go_simp
    with_reducible rfl
  rotate_left
  · simp only [Act.put, List.setIfInBounds_toArray, List.set_cons_zero, List.set_cons_succ, i64_w, i32_w]
    rfl
  refine pure_ (i := 7) (N := some 46) (v := ?_) (a' := ?_) #[true, true, true, false, false, false, true, true, false, false, false, false, false, false, false, false, false] rfl rfl (by kernel_rfl) (fun _ _ _ h => h) (Or.inl ⟨by rfl, ?_⟩) ?_ ?_
  rotate_left
  · intro w'
    go_simp
    with_reducible rfl
  rotate_left
  · simp only [Act.put, List.setIfInBounds_toArray, List.set_cons_zero, List.set_cons_succ, i64_w, i32_w]
    rfl
  refine take_ (i := 3) (N := some 42) (v := ?_) (a' := ?_) #[true, true, true, true, false, false, true, true, false, false, false, false, false, false, false, false, false] rfl rfl (by kernel_rfl) (fun _ _ _ h => h) (Or.inl ⟨by rfl, ?_⟩) hHeld ?_ ?_
  rotate_left
  · rintro w' ⟨s0, s1⟩
    go_simp
    with_reducible rfl
  rotate_left
  · simp only [Act.put, List.setIfInBounds_toArray, List.set_cons_zero, List.set_cons_succ, i64_w, i32_w]
    rfl
  refine pure_ (i := 4) (N := some 43) (v := ?_) (a' := ?_) #[true, true, true, true, true, false, true, true, false, false, false, false, false, false, false, false, false] rfl rfl (by kernel_rfl) (fun _ _ _ h => h) (Or.inl ⟨by rfl, ?_⟩) ?_ ?_
  rotate_left
  · intro w'
    go_simp
    with_reducible rfl
  rotate_left
  · simp only [Act.put, List.setIfInBounds_toArray, List.set_cons_zero, List.set_cons_succ, i64_w, i32_w]
    rfl
  refine pure_ (i := 5) (N := some 44) (v := ?_) (a' := ?_) #[true, true, true, true, true, true, true, true, false, false, false, false, false, false, false, false, false] rfl rfl (by kernel_rfl) (fun _ _ _ h => h) (Or.inl ⟨by rfl, ?_⟩) ?_ ?_
  rotate_left
  · intro w'
    go_simp
    with_reducible rfl
  rotate_left
  · simp only [Act.put, List.setIfInBounds_toArray, List.set_cons_zero, List.set_cons_succ, i64_w, i32_w]
    rfl
  refine take_ (i := 8) (N := some 47) (v := ?_) (a' := ?_) #[true, true, true, true, true, true, true, true, true, false, false, false, false, false, false, false, false] rfl rfl (by kernel_rfl) (fun _ _ _ h => h) (Or.inl ⟨by rfl, ?_⟩) hHeld ?_ ?_
  rotate_left
  · rintro w' ⟨s0, s1⟩
    go_simp
    with_reducible rfl
  rotate_left
  · simp only [Act.put, List.setIfInBounds_toArray, List.set_cons_zero, List.set_cons_succ, i64_w, i32_w]
    rfl
  refine pure_ (i := 9) (N := some 48) (v := ?_) (a' := ?_) #[true, true, true, true, true, true, true, true, true, true, false, false, false, false, false, false, false] rfl rfl (by kernel_rfl) (fun _ _ _ h => h) (Or.inl ⟨by rfl, ?_⟩) ?_ ?_
  rotate_left
  · intro w'
    go_simp
    with_reducible rfl
  rotate_left
  · simp only [Act.put, List.setIfInBounds_toArray, List.set_cons_zero, List.set_cons_succ, i64_w, i32_w]
    rfl
  refine pure_ (i := 10) (N := some 49) (v := ?_) (a' := ?_) #[true, true, true, true, true, true, true, true, true, true, true, false, false, false, false, false, false] rfl rfl (by kernel_rfl) (fun _ _ _ h => h) (Or.inl ⟨by rfl, ?_⟩) ?_ ?_
  rotate_left
  · intro w'
    go_simp
    with_reducible rfl
  rotate_left
  · simp only [Act.put, List.setIfInBounds_toArray, List.set_cons_zero, List.set_cons_succ, i64_w, i32_w]
    rfl
  refine one_ (i := 11) (N := some 50) #[true, true, true, true, true, true, true, true, true, true, true, true, false, false, false, false, false] rfl rfl (by kernel_rfl) (by decide) (fun K hK => ?_)
  refine goes_ Try.func54 (by kernel_rfl) rfl #[.pointer (some ⟨g, 0, none⟩), .slice (some ⟨ga, 0, none⟩) A.length capa, .slice (some ⟨gb, 0, none⟩) B.length capb] (by rfl) rfl rfl (by simp only [List.map_toArray, List.map_cons, List.map_nil]; rfl) ?_
  with_reducible refine (Unify_any (sg := g) (l := M) (ta := A) (tb := B) (A := some ⟨ga, 0, none⟩) (B := some ⟨gb, 0, none⟩) (ca := capa) (cb := capb) w4 S.out.s GD.out HRa.out.front HRb.out.front).mono ?_
  rintro e w5 ⟨v5, er, t, rfl, hc5, hr5, hb5⟩
  refine ⟨_, rfl, ?_⟩
  replace S := Aside0.mk (S.out.below hb5)
  have C5 := Aside0.mk hc5
  have R5 := Aside0.mk (Rw.mk hr5)
  replace HRa := Aside0.mk (HRa.out.below hb5)
  replace HRb := Aside0.mk (HRb.out.below hb5)
  have B5 := Aside0.mk hb5
  clear hc5 hr5 hb5
  obtain ⟨-, d1, d2, -⟩ := S.out.h.cells
  refine hK.out _ _ ⟨d1, d2⟩ (fun hHeld => ?_)
  clear hK K
  refine norm_ (a' := ?_) ?_ ?_
  rotate_left
  · show Act.put _ (some 50) _ = _
    simp only [Act.put, List.setIfInBounds_toArray, List.set_cons_zero, List.set_cons_succ, i64_w, i32_w]
    rfl
  refine pure_ (i := 12) (N := some 38) (v := ?_) (a' := ?_) #[true, true, true, true, true, true, true, true, true, true, true, true, true, false, false, false, false] rfl rfl (by kernel_rfl) (fun _ _ _ h => h) (Or.inl ⟨by rfl, ?_⟩) ?_ ?_
  rotate_left
  · intro w'
    go_simp
    with_reducible rfl
  rotate_left
  · simp only [Act.put, List.setIfInBounds_toArray, List.set_cons_zero, List.set_cons_succ, i64_w, i32_w]
    rfl
  refine pure_ (i := 13) (N := some 51) (v := ?_) (a' := ?_) #[true, true, true, true, true, true, true, true, true, true, true, true, true, true, false, false, false] rfl rfl (by kernel_rfl) (fun _ _ _ h => h) (Or.inl ⟨by rfl, ?_⟩) ?_ ?_
  rotate_left
  · intro w'
    go_simp
    with_reducible rfl
  rotate_left
  · simp only [Act.put, List.setIfInBounds_toArray, List.set_cons_zero, List.set_cons_succ, i64_w, i32_w]
    rfl
  refine pure_ (i := 14) (N := some 52) (v := ?_) (a' := ?_) #[true, true, true, true, true, true, true, true, true, true, true, true, true, true, true, false, false] rfl rfl (by kernel_rfl) (fun _ _ _ h => h) (Or.inl ⟨by rfl, ?_⟩) ?_ ?_
  rotate_left
  · intro w'
    go_simp
    with_reducible rfl
  rotate_left
  · simp only [Act.put, List.setIfInBounds_toArray, List.set_cons_zero, List.set_cons_succ, i64_w, i32_w]
    rfl
  refine pure_ (i := 15) (N := some 8) (v := ?_) (a' := ?_) #[true, true, true, true, true, true, true, true, true, true, true, true, true, true, true, true, false] rfl rfl (by kernel_rfl) (fun _ _ _ h => h) (Or.inl ⟨by rfl, ?_⟩) ?_ ?_
  rotate_left
  · intro w'
    go_simp
    with_reducible rfl
  rotate_left
  · simp only [Act.put, List.setIfInBounds_toArray, List.set_cons_zero, List.set_cons_succ, i64_w, i32_w]
    rfl
  refine pure_ (i := 16) (N := some 9) (v := ?_) (a' := ?_) #[true, true, true, true, true, true, true, true, true, true, true, true, true, true, true, true, true] rfl rfl (by kernel_rfl) (fun _ _ _ h => h) (Or.inl ⟨by rfl, ?_⟩) ?_ ?_
  rotate_left
  · intro w'
    go_simp
    with_reducible rfl
  rotate_left
  · simp only [Act.put, List.setIfInBounds_toArray, List.set_cons_zero, List.set_cons_succ, i64_w, i32_w]
    rfl
  refine done_ (by kernel_rfl) ?_
  go_upto_region 8 with fail
  clear d1 d2 hHeld
  obtain ⟨k0, k1, k2, k3⟩ := S.out.h.cells
  go_wp2_with fail
  clear k0 k1 k2 k3
  refine (Unify_any (sg := g) (l := M) (ta := A) (tb := B) (A := A1) (B := A2) (ca := c1) (cb := c2) w5 S.out.s GD.out S.out.h.i.a S.out.h.i.b).mono ?_
  rintro e w6 ⟨v6, er6', t6, rfl, hc6, hr6, hb6⟩
  obtain ⟨rfl, rfl⟩ := C5.out.det hc6
  have R6 := Aside0.mk (Rw.mk hr6)
  have B53 := Aside0.mk (below_then BD.out BD.out.size B5.out)
  have B63 := Aside0.mk (below_then B53.out B53.out.size hb6)
  replace R5 := Aside0.mk (R5.out.below hb6)
  replace HRa := Aside0.mk (HRa.out.below hb6)
  replace HRb := Aside0.mk (HRb.out.below hb6)
  replace S := Aside0.mk (S.out.below hb6)
  have Z56 := Aside0.mk (And.intro B5.out.size hb6.size)
  have ZD := Aside0.mk BD.out.size
  clear hc6 hr6 hb6 B53 B5 BD
  go_wp2_with (refine wpList_load_row rfl 62 (.tmp 1) rfl w.heap.size rfl 62 _ (0, 0) _ S.out.h.x Try.underlying62 rfl rfl ?_)
  refine (asked_ok (w0 := w3) (w := w6) (M := M) (Ar := Ar) (cr := cr) (t := t) (er := er) (la := w4.heap.size) (ha := w5.heap.size) (lb := w5.heap.size) (hb := w6.heap.size) B63.out ZD.out R5.out R6.out (.inl (Nat.le_refl _)) Z56.out.2 C5.out S.out.r HCR.out GD.out S.out.h.i.a S.out.h.i.ac S.out.h.i.b S.out.h.i.bc).mono ?_
  rintro e w8 ⟨rfl, hb8, hk8⟩
  replace S := Aside0.mk (S3.out.below hb8)
  replace HRa := Aside0.mk (HRa.out.kept hk8 (fun k h1 h2 e => by have := ZB.out; have := ZC.out; omega))
  replace HRb := Aside0.mk (HRb.out.kept hk8 (fun k h1 h2 e => by have := ZB.out; have := ZC.out; omega))
  clear hb8 hk8 R5 R6 B63 ZD Z56 ZB ZC
  have LA := Aside0.mk (last_of A 77)
  have LB := Aside0.mk (last_of B 78)
  have HDa : Aside0 (decide (A = A) = true) := ⟨by simp⟩
  have HDb : Aside0 (decide (B = B) = true) := ⟨by simp⟩
  have ha1 : (A.length : Int) < (A.length : Int) + 1 := by omega
  have hb1 : (B.length : Int) < (B.length : Int) + 1 := by omega
  obtain ⟨-, k1, k2, -⟩ := S.out.h.cells
  have k3 := (cell_row HRa.out (i := A.length) (by omega) LA.out).1
  have k4 := (cell_row HRb.out (i := B.length) (by omega) LB.out).1
  go_wp2_with fail
  refine start_ (n := 40) (S := fun w' => w'.cell? ⟨w.heap.size, 1, none⟩ = some (.slice A1 A.length c1) ∧ w'.cell? ⟨w.heap.size, 2, none⟩ = some (.slice A2 B.length c2) ∧ w'.cell? ⟨ga, A.length, none⟩ = some (.int .i64 77) ∧ w'.cell? ⟨gb, B.length, none⟩ = some (.int .i64 78)) (ds := []) #[false, false, false, false, false, false, false, false, false, false, false, false, false, false, false, false, false, false, false, false, false, false, false, false, false, false, false, false, false, false, false, false, false, false, false, false, false, false, false, false] (by kernel_rfl) rfl rfl ⟨k1, k2, k3, k4⟩ (fun hHeld => ?_)
  replace S : Aside0 (St6 w w8.drew g Ar M A0 c0 L A1 c1 A A2 c2 B A3 c3 T) := ⟨S.out.below (below_drew (Below.refl _ _))⟩
  replace HRa : Aside0 (Rw w8.drew w3.heap.size za.heap.size (.slice (some ⟨ga, 0, none⟩) (A.length + 1) capa) (A ++ [77])) := ⟨HRa.out.below (below_drew (Below.refl _ _))⟩
  replace HRb : Aside0 (Rw w8.drew za.heap.size zb.heap.size (.slice (some ⟨gb, 0, none⟩) (B.length + 1) capb) (B ++ [78])) := ⟨HRb.out.below (below_drew (Below.refl _ _))⟩
  generalize w8.drew = w9 at *
  clear k1 k2 k3 k4
  refine pure_ (i := 0) (N := some 69) (v := ?_) (a' := ?_) #[true, false, false, false, false, false, false, false, false, false, false, false, false, false, false, false, false, false, false, false, false, false, false, false, false, false, false, false, false, false, false, false, false, false, false, false, false, false, false, false] rfl rfl (by kernel_rfl) (fun _ _ _ h => h) (Or.inl ⟨by rfl, ?_⟩) ?_ ?_
  rotate_left
  · intro w'
    go_simp
    with_reducible rfl
  rotate_left
  · simp only [Act.put, List.setIfInBounds_toArray, List.set_cons_zero, List.set_cons_succ, i64_w, i32_w]
    rfl
  refine pure_ (i := 1) (N := some 70) (v := ?_) (a' := ?_) #[true, true, false, false, false, false, false, false, false, false, false, false, false, false, false, false, false, false, false, false, false, false, false, false, false, false, false, false, false, false, false, false, false, false, false, false, false, false, false, false] rfl rfl (by kernel_rfl) (fun _ _ _ h => h) (Or.inl ⟨by rfl, ?_⟩) ?_ ?_
  rotate_left
  · intro w'
    go_simp
    with_reducible rfl
  rotate_left
  · simp only [Act.put, List.setIfInBounds_toArray, List.set_cons_zero, List.set_cons_succ, i64_w, i32_w]
    rfl
  refine pure_ (i := 2) (N := some 71) (v := ?_) (a' := ?_) #[true, true, true, false, false, false, false, false, false, false, false, false, false, false, false, false, false, false, false, false, false, false, false, false, false, false, false, false, false, false, false, false, false, false, false, false, false, false, false, false] rfl rfl (by kernel_rfl) (fun _ _ _ h => h) (Or.inl ⟨by rfl, ?_⟩) ?_ ?_
  rotate_left
  · intro w'
    go_simp
    with_reducible rfl
  rotate_left
  · simp only [Act.put, List.setIfInBounds_toArray, List.set_cons_zero, List.set_cons_succ, i64_w, i32_w]
    rfl
  refine pure_ (i := 3) (N := some 72) (v := ?_) (a' := ?_) #[true, true, true, true, false, false, false, false, false, false, false, false, false, false, false, false, false, false, false, false, false, false, false, false, false, false, false, false, false, false, false, false, false, false, false, false, false, false, false, false] rfl rfl (by kernel_rfl) (fun _ _ _ h => h) (Or.inl ⟨by rfl, ?_⟩) ?_ ?_
  rotate_left
  · intro w'
    go_simp
    with_reducible rfl
  rotate_left
  · simp only [Act.put, List.setIfInBounds_toArray, List.set_cons_zero, List.set_cons_succ, i64_w, i32_w]
    rfl
  refine take_ (i := 4) (N := some 73) (v := ?_) (a' := ?_) #[true, true, true, true, true, false, false, false, false, false, false, false, false, false, false, false, false, false, false, false, false, false, false, false, false, false, false, false, false, false, false, false, false, false, false, false, false, false, false, false] rfl rfl (by kernel_rfl) (fun _ _ _ h => h) (Or.inl ⟨by rfl, ?_⟩) hHeld ?_ ?_
  rotate_left
  · rintro w' ⟨s0, s1, s2, s3⟩
    go_simp
    with_reducible rfl
  rotate_left
  · simp only [Act.put, List.setIfInBounds_toArray, List.set_cons_zero, List.set_cons_succ, i64_w, i32_w]
    rfl
  refine pure_ (i := 5) (N := some 74) (v := ?_) (a' := ?_) #[true, true, true, true, true, true, false, false, false, false, false, false, false, false, false, false, false, false, false, false, false, false, false, false, false, false, false, false, false, false, false, false, false, false, false, false, false, false, false, false] rfl rfl (by kernel_rfl) (fun _ _ _ h => h) (Or.inl ⟨by rfl, ?_⟩) ?_ ?_
  rotate_left
  · intro w'
    go_simp
    with_reducible rfl
  rotate_left
  · simp only [Act.put, List.setIfInBounds_toArray, List.set_cons_zero, List.set_cons_succ, i64_w, i32_w]
    rfl
  refine pure_ (i := 6) (N := some 75) (v := ?_) (a' := ?_) #[true, true, true, true, true, true, true, false, false, false, false, false, false, false, false, false, false, false, false, false, false, false, false, false, false, false, false, false, false, false, false, false, false, false, false, false, false, false, false, false] rfl rfl (by kernel_rfl) (fun _ _ _ h => h) (Or.inl ⟨by rfl, ?_⟩) ?_ ?_
  rotate_left
  · intro w'
    go_simp
    with_reducible rfl
  rotate_left
  · simp only [Act.put, List.setIfInBounds_toArray, List.set_cons_zero, List.set_cons_succ, i64_w, i32_w]
    rfl
  refine take_ (i := 7) (N := some 76) (v := ?_) (a' := ?_) #[true, true, true, true, true, true, true, true, false, false, false, false, false, false, false, false, false, false, false, false, false, false, false, false, false, false, false, false, false, false, false, false, false, false, false, false, false, false, false, false] rfl rfl (by kernel_rfl) (fun _ _ _ h => h) (Or.inl ⟨by rfl, ?_⟩) hHeld ?_ ?_
  rotate_left
  · rintro w' ⟨s0, s1, s2, s3⟩
    go_simp
    with_reducible rfl
  rotate_left
  · simp only [Act.put, List.setIfInBounds_toArray, List.set_cons_zero, List.set_cons_succ, i64_w, i32_w]
    rfl
  refine pure_ (i := 8) (N := some 77) (v := ?_) (a' := ?_) #[true, true, true, true, true, true, true, true, true, false, false, false, false, false, false, false, false, false, false, false, false, false, false, false, false, false, false, false, false, false, false, false, false, false, false, false, false, false, false, false] rfl rfl (by kernel_rfl) (fun _ _ _ h => h) (Or.inl ⟨by rfl, ?_⟩) ?_ ?_
  rotate_left
  · intro w'
    go_simp
    with_reducible rfl
  rotate_left
  · simp only [Act.put, List.setIfInBounds_toArray, List.set_cons_zero, List.set_cons_succ, i64_w, i32_w]
    rfl
  refine pure_ (i := 9) (N := some 78) (v := ?_) (a' := ?_) #[true, true, true, true, true, true, true, true, true, true, false, false, false, false, false, false, false, false, false, false, false, false, false, false, false, false, false, false, false, false, false, false, false, false, false, false, false, false, false, false] rfl rfl (by kernel_rfl) (fun _ _ _ h => h) (Or.inl ⟨by rfl, ?_⟩) ?_ ?_
  rotate_left
  · intro w'
    go_simp
    with_reducible rfl
  rotate_left
  · simp only [Act.put, List.setIfInBounds_toArray, List.set_cons_zero, List.set_cons_succ, i64_w, i32_w]
    rfl
  refine pure_ (i := 10) (N := some 79) (v := ?_) (a' := ?_) #[true, true, true, true, true, true, true, true, true, true, true, false, false, false, false, false, false, false, false, false, false, false, false, false, false, false, false, false, false, false, false, false, false, false, false, false, false, false, false, false] rfl rfl (by kernel_rfl) (fun _ _ _ h => h) (Or.inl ⟨by rfl, ?_⟩) ?_ ?_
  rotate_left
  · intro w'
    go_simp
    with_reducible rfl
  rotate_left
  · simp only [Act.put, List.setIfInBounds_toArray, List.set_cons_zero, List.set_cons_succ, i64_w, i32_w]
    rfl
  refine pure_ (i := 11) (N := some 80) (v := ?_) (a' := ?_) #[true, true, true, true, true, true, true, true, true, true, true, true, false, false, false, false, false, false, false, false, false, false, false, false, false, false, false, false, false, false, false, false, false, false, false, false, false, false, false, false] rfl rfl (by kernel_rfl) (fun _ _ _ h => h) (Or.inl ⟨by rfl, ?_⟩) ?_ ?_
  rotate_left
  · intro w'
    go_simp
    with_reducible rfl
  rotate_left
  · simp only [Act.put, List.setIfInBounds_toArray, List.set_cons_zero, List.set_cons_succ, i64_w, i32_w]
    rfl
  refine pure_ (i := 12) (N := some 81) (v := ?_) (a' := ?_) #[true, true, true, true, true, true, true, true, true, true, true, true, true, false, false, false, false, false, false, false, false, false, false, false, false, false, false, false, false, false, false, false, false, false, false, false, false, false, false, false] rfl rfl (by kernel_rfl) (fun _ _ _ h => h) (Or.inl ⟨by rfl, ?_⟩) ?_ ?_
  rotate_left
  · intro w'
    go_simp
    with_reducible rfl
  rotate_left
  · simp only [Act.put, List.setIfInBounds_toArray, List.set_cons_zero, List.set_cons_succ, i64_w, i32_w]
    rfl
  refine take_ (i := 13) (N := some 82) (v := ?_) (a' := ?_) #[true, true, true, true, true, true, true, true, true, true, true, true, true, true, false, false, false, false, false, false, false, false, false, false, false, false, false, false, false, false, false, false, false, false, false, false, false, false, false, false] rfl rfl (by kernel_rfl) (fun _ _ _ h => h) (Or.inl ⟨by rfl, ?_⟩) hHeld ?_ ?_
  rotate_left
  · rintro w' ⟨s0, s1, s2, s3⟩
    go_simp
    with_reducible rfl
  rotate_left
  · simp only [Act.put, List.setIfInBounds_toArray, List.set_cons_zero, List.set_cons_succ, i64_w, i32_w]
    rfl
  refine pure_ (i := 14) (N := some 83) (v := ?_) (a' := ?_) #[true, true, true, true, true, true, true, true, true, true, true, true, true, true, true, false, false, false, false, false, false, false, false, false, false, false, false, false, false, false, false, false, false, false, false, false, false, false, false, false] rfl rfl (by kernel_rfl) (fun _ _ _ h => h) (Or.inl ⟨by rfl, ?_⟩) ?_ ?_
  rotate_left
  · intro w'
    go_simp
    with_reducible rfl
  rotate_left
  · simp only [Act.put, List.setIfInBounds_toArray, List.set_cons_zero, List.set_cons_succ, i64_w, i32_w]
    rfl
  refine pure_ (i := 15) (N := some 84) (v := ?_) (a' := ?_) #[true, true, true, true, true, true, true, true, true, true, true, true, true, true, true, true, false, false, false, false, false, false, false, false, false, false, false, false, false, false, false, false, false, false, false, false, false, false, false, false] rfl rfl (by kernel_rfl) (fun _ _ _ h => h) (Or.inl ⟨by rfl, ?_⟩) ?_ ?_
  rotate_left
  · intro w'
    go_simp
    with_reducible rfl
  rotate_left
  · simp only [Act.put, List.setIfInBounds_toArray, List.set_cons_zero, List.set_cons_succ, i64_w, i32_w]
    rfl
  refine take_ (i := 16) (N := some 85) (v := ?_) (a' := ?_) #[true, true, true, true, true, true, true, true, true, true, true, true, true, true, true, true, true, false, false, false, false, false, false, false, false, false, false, false, false, false, false, false, false, false, false, false, false, false, false, false] rfl rfl (by kernel_rfl) (fun _ _ _ h => h) (Or.inl ⟨by rfl, ?_⟩) hHeld ?_ ?_
  rotate_left
  · rintro w' ⟨s0, s1, s2, s3⟩
    go_simp
    with_reducible rfl
  rotate_left
  · simp only [Act.put, List.setIfInBounds_toArray, List.set_cons_zero, List.set_cons_succ, i64_w, i32_w]
    rfl
  refine pure_ (i := 17) (N := some 86) (v := ?_) (a' := ?_) #[true, true, true, true, true, true, true, true, true, true, true, true, true, true, true, true, true, true, false, false, false, false, false, false, false, false, false, false, false, false, false, false, false, false, false, false, false, false, false, false] rfl rfl (by kernel_rfl) (fun _ _ _ h => h) (Or.inl ⟨by rfl, ?_⟩) ?_ ?_
  rotate_left
  · intro w'
    go_simp
    with_reducible rfl
  rotate_left
  · simp only [Act.put, List.setIfInBounds_toArray, List.set_cons_zero, List.set_cons_succ, i64_w, i32_w]
    rfl
  refine pure_ (i := 18) (N := some 87) (v := ?_) (a' := ?_) #[true, true, true, true, true, true, true, true, true, true, true, true, true, true, true, true, true, true, true, false, false, false, false, false, false, false, false, false, false, false, false, false, false, false, false, false, false, false, false, false] rfl rfl (by kernel_rfl) (fun _ _ _ h => h) (Or.inl ⟨by rfl, ?_⟩) ?_ ?_
  rotate_left
  · intro w'
    go_simp
    with_reducible rfl
  rotate_left
  · simp only [Act.put, List.setIfInBounds_toArray, List.set_cons_zero, List.set_cons_succ, i64_w, i32_w]
    rfl
  refine pure_ (i := 19) (N := some 88) (v := ?_) (a' := ?_) #[true, true, true, true, true, true, true, true, true, true, true, true, true, true, true, true, true, true, true, true, false, false, false, false, false, false, false, false, false, false, false, false, false, false, false, false, false, false, false, false] rfl rfl (by kernel_rfl) (fun _ _ _ h => h) (Or.inl ⟨by rfl, ?_⟩) ?_ ?_
  rotate_left
  · intro w'
    go_simp
    with_reducible rfl
  rotate_left
  · simp only [Act.put, List.setIfInBounds_toArray, List.set_cons_zero, List.set_cons_succ, i64_w, i32_w]
    rfl
  refine pure_ (i := 20) (N := some 89) (v := ?_) (a' := ?_) #[true, true, true, true, true, true, true, true, true, true, true, true, true, true, true, true, true, true, true, true, true, false, false, false, false, false, false, false, false, false, false, false, false, false, false, false, false, false, false, false] rfl rfl (by kernel_rfl) (fun _ _ _ h => h) (Or.inl ⟨by rfl, ?_⟩) ?_ ?_
  rotate_left
  · intro w'
    go_simp
    with_reducible rfl
  rotate_left
  · simp only [Act.put, List.setIfInBounds_toArray, List.set_cons_zero, List.set_cons_succ, i64_w, i32_w]
    rfl
  refine pure_ (i := 21) (N := some 90) (v := ?_) (a' := ?_) #[true, true, true, true, true, true, true, true, true, true, true, true, true, true, true, true, true, true, true, true, true, true, false, false, false, false, false, false, false, false, false, false, false, false, false, false, false, false, false, false] rfl rfl (by kernel_rfl) (fun _ _ _ h => h) (Or.inl ⟨by rfl, ?_⟩) ?_ ?_
  rotate_left
  · intro w'
    go_simp
    with_reducible rfl
  rotate_left
  · simp only [Act.put, List.setIfInBounds_toArray, List.set_cons_zero, List.set_cons_succ, i64_w, i32_w]
    rfl
  refine pure_ (i := 25) (N := some 94) (v := ?_) (a' := ?_) #[true, true, true, true, true, true, true, true, true, true, true, true, true, true, true, true, true, true, true, true, true, true, false, false, false, true, false, false, false, false, false, false, false, false, false, false, false, false, false, false] rfl rfl (by kernel_rfl) (fun _ _ _ h => h) (Or.inl ⟨by rfl, ?_⟩) ?_ ?_
  rotate_left
  · intro w'
    go_simp
    with_reducible rfl
  rotate_left
  · simp only [Act.put, List.setIfInBounds_toArray, List.set_cons_zero, List.set_cons_succ, i64_w, i32_w]
    rfl
  refine take_ (i := 22) (N := some 91) (v := ?_) (a' := ?_) #[true, true, true, true, true, true, true, true, true, true, true, true, true, true, true, true, true, true, true, true, true, true, true, false, false, true, false, false, false, false, false, false, false, false, false, false, false, false, false, false] rfl rfl (by kernel_rfl) (fun _ _ _ h => h) (Or.inl ⟨by rfl, ?_⟩) hHeld ?_ ?_
  rotate_left
  · rintro w' ⟨s0, s1, s2, s3⟩
    go_simp
    with_reducible rfl
  rotate_left
  · simp only [Act.put, List.setIfInBounds_toArray, List.set_cons_zero, List.set_cons_succ, i64_w, i32_w]
    rfl
  refine pure_ (i := 23) (N := some 92) (v := ?_) (a' := ?_) #[true, true, true, true, true, true, true, true, true, true, true, true, true, true, true, true, true, true, true, true, true, true, true, true, false, true, false, false, false, false, false, false, false, false, false, false, false, false, false, false] rfl rfl (by kernel_rfl) (fun _ _ _ h => h) (Or.inl ⟨by rfl, ?_⟩) ?_ ?_
  rotate_left
  · intro w'
    go_simp
    with_reducible rfl
  rotate_left
  · simp only [Act.put, List.setIfInBounds_toArray, List.set_cons_zero, List.set_cons_succ, i64_w, i32_w]
    rfl
  refine pure_ (i := 24) (N := some 93) (v := ?_) (a' := ?_) #[true, true, true, true, true, true, true, true, true, true, true, true, true, true, true, true, true, true, true, true, true, true, true, true, true, true, false, false, false, false, false, false, false, false, false, false, false, false, false, false] rfl rfl (by kernel_rfl) (fun _ _ _ h => h) (Or.inl ⟨by rfl, ?_⟩) ?_ ?_
  rotate_left
  · intro w'
    go_simp
    with_reducible rfl
  rotate_left
  · simp only [Act.put, List.setIfInBounds_toArray, List.set_cons_zero, List.set_cons_succ, i64_w, i32_w]
    rfl
  refine take_ (i := 26) (N := some 95) (v := ?_) (a' := ?_) #[true, true, true, true, true, true, true, true, true, true, true, true, true, true, true, true, true, true, true, true, true, true, true, true, true, true, true, false, false, false, false, false, false, false, false, false, false, false, false, false] rfl rfl (by kernel_rfl) (fun _ _ _ h => h) (Or.inl ⟨by rfl, ?_⟩) hHeld ?_ ?_
  rotate_left
  · rintro w' ⟨s0, s1, s2, s3⟩
    go_simp
    with_reducible rfl
  rotate_left
  · simp only [Act.put, List.setIfInBounds_toArray, List.set_cons_zero, List.set_cons_succ, i64_w, i32_w]
    rfl
  refine one_ (i := 27) (N := some 96) #[true, true, true, true, true, true, true, true, true, true, true, true, true, true, true, true, true, true, true, true, true, true, true, true, true, true, true, true, false, false, false, false, false, false, false, false, false, false, false, false] rfl rfl (by kernel_rfl) (by decide) (fun K hK => ?_)
  refine goes_ Try.func42 (by kernel_rfl) rfl #[.slice (some ⟨ga, 0, none⟩) A.length capa, .slice A1 A.length c1] (by rfl) rfl rfl (by simp only [List.map_toArray, List.map_cons, List.map_nil]; rfl) ?_
  with_reducible refine (same_n (some ⟨ga, 0, none⟩) A.length capa A A1 A.length c1 A w9 HRa.out.front (by omega) S.out.h.i.a S.out.h.i.ac).mono ?_
  rintro e w10 ⟨rfl, hd⟩
  refine ⟨_, rfl, ?_⟩
  rw [show decide (A = A) = true from decide_eq_true rfl]
  replace S := Aside0.mk (S.out.below hd.below)
  replace HRa := Aside0.mk (HRa.out.below hd.below)
  replace HRb := Aside0.mk (HRb.out.below hd.below)
  clear hd
  obtain ⟨-, d1, d2, -⟩ := S.out.h.cells
  have d3 := (cell_row HRa.out (i := A.length) (by omega) LA.out).1
  have d4 := (cell_row HRb.out (i := B.length) (by omega) LB.out).1
  refine hK.out _ _ ⟨d1, d2, d3, d4⟩ (fun hHeld => ?_)
  clear hK K
  refine norm_ (a' := ?_) ?_ ?_
  rotate_left
  · show Act.put _ (some 96) _ = _
    simp only [Act.put, List.setIfInBounds_toArray, List.set_cons_zero, List.set_cons_succ, i64_w, i32_w]
    rfl
  refine pure_ (i := 28) (N := some 97) (v := ?_) (a' := ?_) #[true, true, true, true, true, true, true, true, true, true, true, true, true, true, true, true, true, true, true, true, true, true, true, true, true, true, true, true, true, false, false, false, false, false, false, false, false, false, false, false] rfl rfl (by kernel_rfl) (fun _ _ _ h => h) (Or.inl ⟨by rfl, ?_⟩) ?_ ?_
  rotate_left
  · intro w'
    go_simp
    with_reducible rfl
  rotate_left
  · simp only [Act.put, List.setIfInBounds_toArray, List.set_cons_zero, List.set_cons_succ, i64_w, i32_w]
    rfl
  refine pure_ (i := 29) (N := some 98) (v := ?_) (a' := ?_) #[true, true, true, true, true, true, true, true, true, true, true, true, true, true, true, true, true, true, true, true, true, true, true, true, true, true, true, true, true, true, false, false, false, false, false, false, false, false, false, false] rfl rfl (by kernel_rfl) (fun _ _ _ h => h) (Or.inl ⟨by rfl, ?_⟩) ?_ ?_
  rotate_left
  · intro w'
    go_simp
    with_reducible rfl
  rotate_left
  · simp only [Act.put, List.setIfInBounds_toArray, List.set_cons_zero, List.set_cons_succ, i64_w, i32_w]
    rfl
  refine pure_ (i := 30) (N := some 99) (v := ?_) (a' := ?_) #[true, true, true, true, true, true, true, true, true, true, true, true, true, true, true, true, true, true, true, true, true, true, true, true, true, true, true, true, true, true, true, false, false, false, false, false, false, false, false, false] rfl rfl (by kernel_rfl) (fun _ _ _ h => h) (Or.inl ⟨by rfl, ?_⟩) ?_ ?_
  rotate_left
  · intro w'
    go_simp
    with_reducible rfl
  rotate_left
  · simp only [Act.put, List.setIfInBounds_toArray, List.set_cons_zero, List.set_cons_succ, i64_w, i32_w]
    rfl
  refine pure_ (i := 31) (N := some 100) (v := ?_) (a' := ?_) #[true, true, true, true, true, true, true, true, true, true, true, true, true, true, true, true, true, true, true, true, true, true, true, true, true, true, true, true, true, true, true, true, false, false, false, false, false, false, false, false] rfl rfl (by kernel_rfl) (fun _ _ _ h => h) (Or.inl ⟨by rfl, ?_⟩) ?_ ?_
  rotate_left
  · intro w'
    go_simp
    with_reducible rfl
  rotate_left
  · simp only [Act.put, List.setIfInBounds_toArray, List.set_cons_zero, List.set_cons_succ, i64_w, i32_w]
    rfl
  refine pure_ (i := 35) (N := some 104) (v := ?_) (a' := ?_) #[true, true, true, true, true, true, true, true, true, true, true, true, true, true, true, true, true, true, true, true, true, true, true, true, true, true, true, true, true, true, true, true, false, false, false, true, false, false, false, false] rfl rfl (by kernel_rfl) (fun _ _ _ h => h) (Or.inl ⟨by rfl, ?_⟩) ?_ ?_
  rotate_left
  · intro w'
    go_simp
    with_reducible rfl
  rotate_left
  · simp only [Act.put, List.setIfInBounds_toArray, List.set_cons_zero, List.set_cons_succ, i64_w, i32_w]
    rfl
  refine take_ (i := 32) (N := some 101) (v := ?_) (a' := ?_) #[true, true, true, true, true, true, true, true, true, true, true, true, true, true, true, true, true, true, true, true, true, true, true, true, true, true, true, true, true, true, true, true, true, false, false, true, false, false, false, false] rfl rfl (by kernel_rfl) (fun _ _ _ h => h) (Or.inl ⟨by rfl, ?_⟩) hHeld ?_ ?_
  rotate_left
  · rintro w' ⟨s0, s1, s2, s3⟩
    go_simp
    with_reducible rfl
  rotate_left
  · simp only [Act.put, List.setIfInBounds_toArray, List.set_cons_zero, List.set_cons_succ, i64_w, i32_w]
    rfl
  refine pure_ (i := 33) (N := some 102) (v := ?_) (a' := ?_) #[true, true, true, true, true, true, true, true, true, true, true, true, true, true, true, true, true, true, true, true, true, true, true, true, true, true, true, true, true, true, true, true, true, true, false, true, false, false, false, false] rfl rfl (by kernel_rfl) (fun _ _ _ h => h) (Or.inl ⟨by rfl, ?_⟩) ?_ ?_
  rotate_left
  · intro w'
    go_simp
    with_reducible rfl
  rotate_left
  · simp only [Act.put, List.setIfInBounds_toArray, List.set_cons_zero, List.set_cons_succ, i64_w, i32_w]
    rfl
  refine pure_ (i := 34) (N := some 103) (v := ?_) (a' := ?_) #[true, true, true, true, true, true, true, true, true, true, true, true, true, true, true, true, true, true, true, true, true, true, true, true, true, true, true, true, true, true, true, true, true, true, true, true, false, false, false, false] rfl rfl (by kernel_rfl) (fun _ _ _ h => h) (Or.inl ⟨by rfl, ?_⟩) ?_ ?_
  rotate_left
  · intro w'
    go_simp
    with_reducible rfl
  rotate_left
  · simp only [Act.put, List.setIfInBounds_toArray, List.set_cons_zero, List.set_cons_succ, i64_w, i32_w]
    rfl
  refine take_ (i := 36) (N := some 105) (v := ?_) (a' := ?_) #[true, true, true, true, true, true, true, true, true, true, true, true, true, true, true, true, true, true, true, true, true, true, true, true, true, true, true, true, true, true, true, true, true, true, true, true, true, false, false, false] rfl rfl (by kernel_rfl) (fun _ _ _ h => h) (Or.inl ⟨by rfl, ?_⟩) hHeld ?_ ?_
  rotate_left
  · rintro w' ⟨s0, s1, s2, s3⟩
    go_simp
    with_reducible rfl
  rotate_left
  · simp only [Act.put, List.setIfInBounds_toArray, List.set_cons_zero, List.set_cons_succ, i64_w, i32_w]
    rfl
  refine one_ (i := 37) (N := some 106) #[true, true, true, true, true, true, true, true, true, true, true, true, true, true, true, true, true, true, true, true, true, true, true, true, true, true, true, true, true, true, true, true, true, true, true, true, true, true, false, false] rfl rfl (by kernel_rfl) (by decide) (fun K hK => ?_)
  refine goes_ Try.func42 (by kernel_rfl) rfl #[.slice (some ⟨gb, 0, none⟩) B.length capb, .slice A2 B.length c2] (by rfl) rfl rfl (by simp only [List.map_toArray, List.map_cons, List.map_nil]; rfl) ?_
  with_reducible refine (same_n (some ⟨gb, 0, none⟩) B.length capb B A2 B.length c2 B w10 HRb.out.front (by omega) S.out.h.i.b S.out.h.i.bc).mono ?_
  rintro e w11 ⟨rfl, hd⟩
  refine ⟨_, rfl, ?_⟩
  rw [show decide (B = B) = true from decide_eq_true rfl]
  replace S := Aside0.mk (S.out.below hd.below)
  replace HRa := Aside0.mk (HRa.out.below hd.below)
  replace HRb := Aside0.mk (HRb.out.below hd.below)
  clear hd
  obtain ⟨-, d1, d2, -⟩ := S.out.h.cells
  have d3 := (cell_row HRa.out (i := A.length) (by omega) LA.out).1
  have d4 := (cell_row HRb.out (i := B.length) (by omega) LB.out).1
  refine hK.out _ _ ⟨d1, d2, d3, d4⟩ (fun hHeld => ?_)
  clear hK K
  refine norm_ (a' := ?_) ?_ ?_
  rotate_left
  · show Act.put _ (some 106) _ = _
    simp only [Act.put, List.setIfInBounds_toArray, List.set_cons_zero, List.set_cons_succ, i64_w, i32_w]
    rfl
  refine pure_ (i := 38) (N := some 107) (v := ?_) (a' := ?_) #[true, true, true, true, true, true, true, true, true, true, true, true, true, true, true, true, true, true, true, true, true, true, true, true, true, true, true, true, true, true, true, true, true, true, true, true, true, true, true, false] rfl rfl (by kernel_rfl) (fun _ _ _ h => h) (Or.inl ⟨by rfl, ?_⟩) ?_ ?_
  rotate_left
  · intro w'
    go_simp
    with_reducible rfl
  rotate_left
  · simp only [Act.put, List.setIfInBounds_toArray, List.set_cons_zero, List.set_cons_succ, i64_w, i32_w]
    rfl
  refine pure_ (i := 39) (N := some 2) (v := ?_) (a' := ?_) #[true, true, true, true, true, true, true, true, true, true, true, true, true, true, true, true, true, true, true, true, true, true, true, true, true, true, true, true, true, true, true, true, true, true, true, true, true, true, true, true] rfl rfl (by kernel_rfl) (fun _ _ _ h => h) (Or.inl ⟨by rfl, ?_⟩) ?_ ?_
  rotate_left
  · intro w'
    go_simp
    with_reducible rfl
  rotate_left
  · simp only [Act.put, List.setIfInBounds_toArray, List.set_cons_zero, List.set_cons_succ, i64_w, i32_w]
    rfl
  refine done_ (by kernel_rfl) ?_
  go_wp2_with fail
  go_ret
  exact ⟨rfl, S.out.b⟩
end Go.Proofs.Ytadjoaipmcbieaa

/-! Z5 -/
namespace Go.Proofs.Ytadjoaipmcbieaa
open Go.RowKit Go.Proofs.YtadjoaipmcbieaaW.PrintWords Go.Proofs.YtadjoaipmcbieaaW.PrintLast Go.Proofs.YtadjoaipmcbieaaW.PrintMore A
set_option linter.unusedSimpArgs false
set_option linter.unusedVariables false
theorem sb_id : ∀ (t : List Int), sb (fun n => [n]) t = t
  | [] => rfl
  | n :: t => by rw [sb_cons, sb_id t]; split <;> rfl
theorem gd_id (l : List S89) : Gd (an l) (fun n => [n]) := fun n hn => .cons (by rw [an_neg hn]; exact .nil)
theorem chk_low {l : List S89} {t : List Int} (h : chk l t = 0) : ∀ n ∈ t, -99 ≤ n := fun n hn => by
  obtain ⟨i, hi, e⟩ := List.getElem_of_mem hn
  have h2 := (chk_num h hi).1
  rw [rd_nat t i hi, e] at h2
  exact h2
/-- A term with itself. -/
theorem self_com {l : List S89} {A : List Int} {e : Int} {t : List Int} (h : ComR l A A false e t) (hc : chk l A = 0) : e = 0 ∧ t = A.map (nw (vd [] A)) := by
  have h2 : ComR l A A false 0 (rn [] A) := by
    unfold ComR
    rw [if_neg (fun h => h hc), if_neg (fun h => h hc)]
    refine .ok ⟨⟨fun n => [n], gd_id l, sb_id A, ?_⟩, fun s hs _ => ⟨s, hs, rfl⟩⟩ (chk_len hc)
    rw [show tg false A = A from rfl]; exact sb_id A
  obtain ⟨e1, e2⟩ := h.det h2
  refine ⟨e1, ?_⟩
  rw [e2, ← rn_nw A [] (chk_low hc)]; rfl
/-- A list of one term, newly made. -/
theorem C_one (w : World) (e : TypeId) (A0 : Option Addr) (c : Nat) (t : List Int) (h : Kd.C (Kd.int .i64) w A0 t.length t) (hc : t.length ≤ c) :
    Kd.C (Kd.slice 3 (Kd.int .i64)) (w.alloc (.cells #[.slice A0 t.length c] e)) (some ⟨w.heap.size, 0, none⟩) 1 [t] := by
  refine ⟨rfl, by omega, fun _ => ⟨⟨w.heap.size, 0, none⟩, rfl, fun j p hj => ?_⟩⟩
  have hj0 : j = 0 := by
    have := (List.getElem?_eq_some_iff.1 hj).1
    simpa using this
  subst hj0
  obtain rfl : t = p := by simpa using hj
  refine ⟨[.slice A0 t.length c], rfl, ⟨A0, c, rfl, hc, Kd.C_below h (below_alloc (Below.refl _ _) _)⟩, fun i u hu => ?_⟩
  have hi : i = 0 := by
    have := (List.getElem?_eq_some_iff.1 hu).1
    simpa using this
  subst hi
  obtain rfl : .slice A0 t.length c = u := by simpa using hu
  show (w.alloc (.cells #[.slice A0 t.length c] e)).cell? ⟨w.heap.size, 0 + (0 * 1 + 0), none⟩ = _
  rw [cell_of_row _ w.heap.size _ _ _ _ (heap_alloc_new w (.cells #[.slice A0 t.length c] e))]; rfl
theorem refPlain1 (G : Option Addr) (c : Nat) (A : List Int) (w : World) (hC : Kd.C (Kd.slice 3 (Kd.int .i64)) w G 1 [A]) (hc : 1 ≤ c) (hA : A.length ≤ 17592186044415) :
    Calls Try.prog 49 #[.slice G 1 c] w fun e w' => ∃ (g cc : Nat) (A' : Option Addr) (c' : Nat), e = .returned (.slice (some ⟨g, 0, none⟩) 1 cc) ∧ w'.cell? ⟨g, 0, none⟩ = some (.slice A' A.length c') ∧ A.length ≤ c' ∧
      Kd.C (Kd.int .i64) w' A' A.length (A.map (nw (vd [] A))) ∧ Below w.heap.size w w' := by
  obtain ⟨k, hk⟩ := (plain2_f [A] (by simp) (fun t ht => by rw [List.mem_singleton.1 ht]; exact hA)).out
  refine (ropewalkref02_Plain.calls k G c [A] _ w hC hc hk).mono ?_
  rintro e w' ⟨v, rfl, hS, hb⟩
  obtain ⟨g, cc, rfl, -⟩ := Kd.S_form hS (by simp)
  have hR := (Kd.S_reads' hS).2.2
  obtain ⟨ad, A0, c0, ea, hx, hc0, hCC⟩ := at_L4 hR 0 (by omega) (by simp)
  cases ea
  have e1 : rd_L4 (List.map (fun t => List.map (nw (vd [] [A].flatten)) t) [A]) 0 = A.map (nw (vd [] A)) := by simp [rd_L4]
  rw [e1] at hx hc0 hCC
  rw [List.length_map] at hx hc0 hCC
  exact ⟨g, cc, A0, c0, rfl, hx, hc0, hCC, hb⟩
set_option maxRecDepth 100000 in
set_option maxHeartbeats 4000000 in
theorem self_walk {A0 : Option Addr} {c0 : Nat} {L : List S89} {A1 : Option Addr} {c1 : Nat} {A : List Int} {A2 : Option Addr} {c2 : Nat} {B : List Int} {A3 : Option Addr} {c3 : Nat} {T : List Int} (w : World)
    (h : C6 w A0 c0 L A1 c1 A A2 c2 B A3 c3 T) :
    Calls Try.prog 16 #[.agg #[.slice A0 L.length c0, .slice A1 A.length c1, .slice A2 B.length c2, .slice A3 T.length c3]] w fun e w' => e = .returned (.bool true) ∧ Below w.heap.size w w' := by
  have H0 := Aside0.mk (H6.new h)
  have HN := Aside0.mk h
  have HB0 : Aside0 (Below w.heap.size w (w.alloc (.cells #[.slice A0 L.length c0, .slice A1 A.length c1, .slice A2 B.length c2, .slice A3 T.length c3] 62))) := ⟨below_alloc (Below.refl _ _) _⟩
  clear h
  go_enter Try.func16, Try.ntmps16
  go_wp2_with fail
  generalize w.alloc (.cells #[.slice A0 L.length c0, .slice A1 A.length c1, .slice A2 B.length c2, .slice A3 T.length c3] 62) = w1 at *
  refine (awake06 _).mono ?_
  rintro e w2 ⟨rfl, hb2⟩
  have B2 := Aside0.mk (below_then HB0.out HB0.out.size hb2)
  have H2 := Aside0.mk (H0.out.below hb2)
  clear hb2 H0 HB0
  obtain ⟨k0, k1, k2, k3⟩ := H2.out.cells
  go_wp2_with fail
  clear k0 k1 k2 k3
  refine (made_any A0 c0 L _ H2.out.i.l HN.out.ln).mono ?_
  rintro e w3 ⟨g, v, rfl, hs, hr, hb3⟩
  obtain ⟨Ar, cr, rfl, hcr, hC⟩ := Kd.R_reads hr
  have GD := Aside0.mk (made_good L)
  have S3 : Aside0 (St6 w w3 g Ar (madeL L) A0 c0 L A1 c1 A A2 c2 B A3 c3 T) := ⟨⟨below_then B2.out B2.out.size hb3, H2.out.below hb3, hs, hC⟩⟩
  have S := S3
  have HCR := Aside0.mk hcr
  clear hs hr hb3 hC H2 B2 hcr
  generalize madeL L = M at *
  obtain ⟨k0, k1, k2, k3⟩ := S.out.h.cells
  go_wp2_with fail
  clear k0 k1 k2 k3
  refine (Unify_any (sg := g) (l := M) (ta := A) (tb := A) (A := A1) (B := A1) (ca := c1) (cb := c1) w3 S.out.s GD.out S.out.h.i.a S.out.h.i.a).mono ?_
  rintro e w4 ⟨v4, er, t, rfl, hc4, hr4, hb4⟩
  have C4 := Aside0.mk hc4
  have R4 := Aside0.mk (Rw.mk hr4)
  replace S := Aside0.mk (S.out.below hb4)
  clear hc4 hr4 hb4
  obtain ⟨k0, k1, k2, k3⟩ := S.out.h.cells
  go_wp2_with fail
  clear k0 k1 k2 k3
  refine (refCheck_any Ar cr M A1 A.length c1 A w4 S.out.r HCR.out GD.out S.out.h.i.a S.out.h.i.ac).mono ?_
  rintro e w5 ⟨rfl, hd⟩
  replace S := Aside0.mk (S.out.below hd.below)
  replace R4 := Aside0.mk (R4.out.below hd.below)
  clear hd
  obtain ⟨At, ct, rfl, hct, hCt⟩ := R4.out.reads
  have HCt := Aside0.mk hCt
  clear hCt
  obtain ⟨er', her⟩ : ∃ e, e = chk M A := ⟨_, rfl⟩
  rw [← her]
  have HER := Aside0.mk her
  clear her
  obtain ⟨k0, k1, k2, k3⟩ := S.out.h.cells
  by_cases hz : er' = 0
  · obtain ⟨q1, q2⟩ := self_com C4.out (HER.out.symm.trans hz)
    have e1 : (er' != 0) = false := bne_eq_false_iff_eq.2 hz
    have Q2 := Aside0.mk q2
    subst q1
    clear hz q2
    go_wp2_with fail
    clear k0 k1 k2 k3 e1
    have hb6 : Below w5.heap.size w5 (w5.alloc (.cells #[.slice A1 A.length c1] 25)) := below_alloc (Below.refl _ _) _
    refine (refPlain1 _ 1 A _ (C_one w5 25 A1 c1 A S.out.h.i.a S.out.h.i.ac) (Nat.le_refl _) S.out.h.i.al).mono ?_
    rintro e w6 ⟨gp, cp, Ap, cp', rfl, hx, hcp, hCp, hb7⟩
    have B7 := Aside0.mk (below_then hb6 hb6.size hb7)
    replace S := Aside0.mk (S.out.below B7.out)
    replace R4 := Aside0.mk (R4.out.below B7.out)
    replace HCt := Aside0.mk (Kd.C_below HCt.out B7.out)
    have HCp := Aside0.mk hCp
    clear hb6 hb7 B7 hCp
    go_wp2_with fail
    refine (same_n At t.length ct t Ap A.length cp' _ _ HCt.out hct HCp.out hcp).mono ?_
    rintro e w8 ⟨rfl, hd⟩
    rw [show decide (t = A.map (nw (vd [] A))) = true from decide_eq_true Q2.out]
    replace S := Aside0.mk (S.out.below hd.below)
    clear hd
    go_wp2_with fail
    go_ret
    exact ⟨rfl, S.out.b⟩
  · have hz6 : er6 M A A ≠ 0 := fun h => hz (HER.out.trans (er6_zero.1 h).1)
    obtain ⟨q1, q2⟩ := C4.out.len.2 hz6
    have e6 : er6 M A A = er' := by
      unfold er6
      rw [if_neg (fun h => hz (HER.out.trans h))]; exact HER.out.symm
    rw [e6] at q1
    subst q1
    have e1 : (er != 0) = true := bne_iff_ne.2 hz
    have e2 : (er == er) = true := beq_self_eq_true _
    have e3 : t.length = 0 := by rw [q2]; rfl
    have e4 : ((t.length : Int) == 0) = true := beq_iff_eq.2 (by omega)
    clear hz hz6 q2 e6
    clear e3
    go_wp2_with fail
    go_ret
    exact ⟨rfl, S.out.b⟩
end Go.Proofs.Ytadjoaipmcbieaa

/-! Z6 -/
namespace Go.Proofs.Ytadjoaipmcbieaa
open Go.RowKit Go.Proofs.YtadjoaipmcbieaaW.PrintWords Go.Proofs.YtadjoaipmcbieaaW.PrintLast Go.Proofs.YtadjoaipmcbieaaW.PrintMore A
set_option linter.unusedSimpArgs false
set_option linter.unusedVariables false
theorem sb_comp (s g : Int → List Int) : ∀ (t : List Int), sb g (sb s t) = sb (fun n => sb g (s n)) t
  | [] => rfl
  | n :: t => by
    rw [sb_cons, sb_append, sb_comp s g t, sb_cons (s := fun n => sb g (s n))]
    split
    · rfl
    · rw [sb_sym (by omega), sb_nil]
theorem sb_congr {s g : Int → List Int} : ∀ {t : List Int}, (∀ n ∈ t, n < 0 → s n = g n) → sb s t = sb g t
  | [], _ => rfl
  | n :: t, h => by
    rw [sb_cons, sb_cons, sb_congr (t := t) (fun m hm => h m (by simp [hm]))]
    by_cases hn : n < 0
    · rw [if_pos hn, if_pos hn, h n (by simp) hn]
    · rw [if_neg hn, if_neg hn]
theorem sb_tg (s : Int → List Int) (t : List Int) : sb s (tg true t) = sb (fun n => s (n - 1000)) t := by
  induction t with
  | nil => rfl
  | cons n t ih =>
    have e : tg true (n :: t) = (if n < 0 then n - 1000 else n) :: tg true t := by simp [tg]
    rw [e, sb_cons, sb_cons, ih]
    by_cases hn : n < 0
    · rw [if_pos hn, if_pos (by omega), if_pos hn]
    · rw [if_neg hn, if_neg hn, if_neg hn]
/-- The two terms' variables change places. -/
def sw (s : Int → List Int) (n : Int) : List Int := if n < -1000 then s (n + 1000) else s (n - 1000)
theorem sw_gd {b : Int → Nat} {s : Int → List Int} (h : Gd b s) : Gd b (sw s) := fun n hn => by
  unfold sw; split
  · exact h _ (by omega)
  · exact h _ (by omega)
theorem sw_one {s : Int → List Int} {t : List Int} (h : ∀ n ∈ t, -99 ≤ n) : sb (sw s) t = sb s (tg true t) := by
  rw [sb_tg]
  exact sb_congr fun n hn _ => by have := h n hn; unfold sw; rw [if_neg (by omega)]
theorem sw_two {s : Int → List Int} {t : List Int} (h : ∀ n ∈ t, -99 ≤ n) : sb (sw s) (tg true t) = sb s t := by
  rw [sb_tg]
  exact sb_congr fun n hn hv => by unfold sw; rw [if_pos (by omega)]; congr 1; omega
theorem Mgi.flip {b : Int → Nat} {A B T : List Int} (hA : ∀ n ∈ A, -99 ≤ n) (hB : ∀ n ∈ B, -99 ≤ n) (h : Mgi b A (tg true B) T) : Mgi b B (tg true A) T := by
  obtain ⟨⟨s, hs, e1, e2⟩, h2⟩ := h
  refine ⟨⟨sw s, sw_gd hs, by rw [sw_one hB]; exact e2, by rw [sw_two hA]; exact e1⟩, fun g hg e => ?_⟩
  obtain ⟨u, hu, e3⟩ := h2 (sw g) (sw_gd hg) (by rw [sw_one hA, sw_two hB]; exact e.symm)
  exact ⟨u, hu, by rw [e3, sw_one hA]; exact e.symm⟩
theorem UniR.flip {b : Int → Nat} {A B : List Int} {e : Int} {t : List Int} (hA : ∀ n ∈ A, -99 ≤ n) (hB : ∀ n ∈ B, -99 ≤ n) (h : UniR b A (tg true B) e t) : UniR b B (tg true A) e t := by
  cases h with
  | none h => exact .none fun s hs he => h (sw s) (sw_gd hs) (by rw [sw_one hA, sw_two hB]; exact he.symm)
  | long h hl => exact .long (h.flip hA hB) hl
  | ok h hl => exact .ok (h.flip hA hB) hl
theorem ComR.both {l : List S89} {A B : List Int} {ap : Bool} {e : Int} {t : List Int} (h : ComR l A B ap e t) (hA : chk l A = 0) (hB : chk l B = 0) : UniR (an l) A (tg ap B) e t := by
  unfold ComR at h
  rw [if_neg (fun h => h hA), if_neg (fun h => h hB)] at h; exact h
theorem ComR.zero {l : List S89} {A B : List Int} {ap : Bool} {t : List Int} (h : ComR l A B ap 0 t) : chk l A = 0 ∧ chk l B = 0 := by
  rcases Decidable.em (er6 l A B = 0) with h1 | h1
  · exact er6_zero.1 h1
  · exact absurd (h.len.2 h1).1.symm h1
/-- Both ways round. -/
theorem ComR.flip {l : List S89} {A B : List Int} {e f : Int} {t u : List Int} (h : ComR l A B true e t) (h' : ComR l B A true f u) : (e = 0 ∧ f = 0 ∧ t = u) ∨ (e ≠ 0 ∧ f ≠ 0 ∧ t = [] ∧ u = []) := by
  rcases Decidable.em (er6 l A B = 0) with h1 | h1
  · obtain ⟨hA, hB⟩ := er6_zero.1 h1
    have h2 := (h.both hA hB).flip (chk_low hA) (chk_low hB)
    obtain ⟨rfl, rfl⟩ := h2.det (h'.both hB hA)
    rcases Decidable.em (e = 0) with h3 | h3
    · exact .inl ⟨h3, h3, rfl⟩
    · exact .inr ⟨h3, h3, h2.len.2 h3, h2.len.2 h3⟩
  · have h2 : er6 l B A ≠ 0 := fun h => h1 (er6_zero.2 ⟨(er6_zero.1 h).2, (er6_zero.1 h).1⟩)
    obtain ⟨e1, e2⟩ := h.len.2 h1
    obtain ⟨e3, e4⟩ := h'.len.2 h2
    exact .inr ⟨by rw [e1]; exact h1, by rw [e3]; exact h2, e2, e4⟩
theorem rns_pre : ∀ (t ns : List Int), ∃ r, rns ns t = ns ++ r
  | [], ns => ⟨[], by simp [rns]⟩
  | n :: t, ns => by
    simp only [rns]
    split
    · exact rns_pre t ns
    · split
      · exact rns_pre t ns
      · obtain ⟨r, h⟩ := rns_pre t (ns ++ [n])
        exact ⟨n :: r, by rw [h]; simp⟩
theorem rns_idx {t ns : List Int} {n : Int} (h : n ∈ ns) : (rns ns t).idxOf n = ns.idxOf n := by
  obtain ⟨r, e⟩ := rns_pre t ns
  rw [e, idx_in h]
/-- What is numbered anew is an instance. -/
theorem rn_sb : ∀ (t ns : List Int), rn ns t = sb (fun n => [-((rns ns t).idxOf n : Int) - 1]) t
  | [], _ => rfl
  | n :: t, ns => by
    simp only [rn, rns]
    by_cases h0 : 0 ≤ n
    · rw [if_pos h0, if_pos h0, sb_sym h0, rn_sb t ns]
    · rw [if_neg h0, if_neg h0]
      by_cases h1 : n ∈ ns
      · rw [if_pos h1, if_pos h1, sb_cons, if_pos (by omega), rns_idx h1, rn_sb t ns]; rfl
      · rw [if_neg h1, if_neg h1, sb_cons, if_pos (by omega), rns_idx (t := t) (ns := ns ++ [n]) (n := n) (by simp), rn_sb t (ns ++ [n]), idx_out h1]
        simp
/-- An instance fits. -/
theorem mtc_inst {l : List S89} (hl : GoodL l) {s : Int → List Int} (hs : Gd (an l) s) {T : List Int} : ∀ (ps : List Int) (k : Nat) (out : List S83) (r : List Int), T.drop k = sb s ps ++ r → (∀ b ∈ out, b.f1 = s (-b.f0)) → ∃ out', mtc l T ps k out = some out'
  | [], k, out, r, _, _ => ⟨out, rfl⟩
  | n :: ps, k, out, r, e, ho => by
    rw [mtc]
    by_cases h0 : 0 ≤ n
    · rw [if_pos h0]
      rw [sb_sym h0] at e
      have hk : k < T.length := by
        rcases Nat.lt_or_ge k T.length with h | h
        · exact h
        · rw [List.drop_of_length_le h] at e; cases e
      rw [drop_rd T k hk] at e
      simp only [List.cons_append, List.cons.injEq] at e
      rw [if_pos e.1]
      exact mtc_inst hl hs ps (k + 1) out r e.2 ho
    · rw [if_neg h0]
      rw [sb_cons, if_pos (by omega), List.append_assoc] at e
      have hu : subL l T k = s n := subL_of hl e (hs n (by omega))
      have e2 : T.drop (k + (s n).length) = sb s ps ++ r := by rw [← List.drop_drop, e]; simp
      rw [hu]
      cases hb : bnd out (-n) with
      | some old =>
        obtain ⟨b, h1, h2, h3⟩ := bnd_mem hb
        have h4 := ho b h1
        rw [h2, Int.neg_neg, h3] at h4
        show ∃ out', (if old = s n then _ else none) = some out'
        rw [if_pos h4]
        exact mtc_inst hl hs ps _ out r e2 ho
      | none =>
        refine mtc_inst hl hs ps _ _ r e2 (fun b hb => ?_)
        rcases ins_mem hb with rfl | hb
        · show s n = s (- -n); rw [Int.neg_neg]
        · exact ho b hb
/-- What is told of both. -/
theorem ComR.inst {l : List S89} (hl : GoodL l) {A B t : List Int} (h : ComR l A B true 0 t) : Ter l t ∧ t.length ≤ 2000 ∧ 0 < t.length ∧ (∃ o, mtc l t A 0 [] = some o) ∧ (∃ o, mtc l t B 0 [] = some o) ∧ t.map (nw (vd [] t)) = t ∧ ¬ ∀ s, Gd (an l) s → sb s A ≠ sb s (tg true B) := by
  obtain ⟨hA, hB⟩ := h.zero
  have h2 := h.both hA hB
  have hbv : ∀ n, n < 0 → an l n = 0 := fun n hn => an_neg hn
  generalize he : (0 : Int) = e at h2
  cases h2 with
  | none _ => omega
  | long _ _ => omega
  | @ok T hm hlen =>
    obtain ⟨⟨s, hs, e1, e2⟩, _⟩ := id hm
    have hg : Gd (an l) (fun n => [-((rns [] T).idxOf n : Int) - 1]) := fun n hn => .cons (by rw [an_neg (by omega)]; exact .nil)
    have hs2 : Gd (an l) (fun n => sb (fun n => [-((rns [] T).idxOf n : Int) - 1]) (s n)) := fun n hn => sb_isT hbv hg (hs n hn)
    have ht : rn [] T = sb (fun n => sb (fun n => [-((rns [] T).idxOf n : Int) - 1]) (s n)) A := by rw [rn_sb, ← sb_comp, e1]
    have ht2 : rn [] T = sb (fun n => sb (fun n => [-((rns [] T).idxOf n : Int) - 1]) (s (n - 1000))) B := by
      have e3 : rn [] T = sb (fun n => sb (fun n => [-((rns [] T).idxOf n : Int) - 1]) (s n)) (tg true B) := by rw [rn_sb, ← sb_comp, e2]
      rw [e3, sb_tg]
    have hT : Ter l (rn [] T) := by rw [ht]; exact sb_isT hbv hs2 (chk_ter hl hA)
    refine ⟨hT, by rw [rn_length]; exact hlen, hT.pos, ?_, ?_, plain_rn T, hm.some⟩
    · exact mtc_inst hl hs2 A 0 [] [] (by rw [List.drop_zero, List.append_nil]; exact ht) (fun b hb => by simp at hb)
    · exact mtc_inst hl (s := fun n => sb (fun n => [-((rns [] T).idxOf n : Int) - 1]) (s (n - 1000))) (fun n hn => sb_isT hbv hg (hs _ (by omega))) B 0 [] [] (by rw [List.drop_zero, List.append_nil]; exact ht2) (fun b hb => by simp at hb)
end Go.Proofs.Ytadjoaipmcbieaa

/-! Z7 -/
namespace Go.Proofs.Ytadjoaipmcbieaa
open Go.RowKit Go.Proofs.YtadjoaipmcbieaaW.PrintWords Go.Proofs.YtadjoaipmcbieaaW.PrintLast Go.Proofs.YtadjoaipmcbieaaW.PrintMore A
set_option linter.unusedSimpArgs false
set_option linter.unusedVariables false
theorem refMatch_ok (Ar A1 At : Option Addr) (cr c1 ct : Nat) (l : List S89) (A t : List Int) (p : Int) (w : World) (hr : Kd.C k89 w Ar l.length l) (hcr : l.length ≤ cr) (hl : GoodL l) (ha : Kd.C (Kd.int .i64) w A1 A.length A) (hac : A.length ≤ c1)
    (ht : Kd.C (Kd.int .i64) w At t.length t) (htc : t.length ≤ ct) (hT : Ter l t) (h2 : t.length ≤ 2000) (hA : chk l A = 0) (hp : p = 0) {o : List S83} (ho : mtc l t A 0 [] = some o) :
    Calls Try.prog 60 #[.slice Ar l.length cr, .slice A1 A.length c1, .slice At t.length ct, .int .i64 p] w fun e w' => ∃ v : Value, e = .returned (.tuple #[v, .bool true]) ∧ Below w.heap.size w w' := by
  subst hp
  obtain ⟨k, hk⟩ := (match_f hl hT h2 hA hT.pos).out
  rw [ho] at hk
  exact (ropewalkref05_Match.calls k Ar cr l A1 c1 A At ct t 0 o true w hr hcr ha hac ht htc hk).mono fun e w' ⟨v, e1, _, hb⟩ => ⟨v, e1, hb⟩
set_option maxRecDepth 100000 in
set_option maxHeartbeats 8000000 in
theorem inst_walk {A0 : Option Addr} {c0 : Nat} {L : List S89} {A1 : Option Addr} {c1 : Nat} {A : List Int} {A2 : Option Addr} {c2 : Nat} {B : List Int} {A3 : Option Addr} {c3 : Nat} {T : List Int} (w : World)
    (h : C6 w A0 c0 L A1 c1 A A2 c2 B A3 c3 T) :
    Calls Try.prog 15 #[.agg #[.slice A0 L.length c0, .slice A1 A.length c1, .slice A2 B.length c2, .slice A3 T.length c3]] w fun e w' => e = .returned (.bool true) ∧ Below w.heap.size w w' := by
  have H0 := Aside0.mk (H6.new h)
  have HN := Aside0.mk h
  have HB0 : Aside0 (Below w.heap.size w (w.alloc (.cells #[.slice A0 L.length c0, .slice A1 A.length c1, .slice A2 B.length c2, .slice A3 T.length c3] 62))) := ⟨below_alloc (Below.refl _ _) _⟩
  clear h
  go_enter Try.func15, Try.ntmps15
  go_wp2_with fail
  generalize w.alloc (.cells #[.slice A0 L.length c0, .slice A1 A.length c1, .slice A2 B.length c2, .slice A3 T.length c3] 62) = w1 at *
  refine (awake06 _).mono ?_
  rintro e w2 ⟨rfl, hb2⟩
  have B2 := Aside0.mk (below_then HB0.out HB0.out.size hb2)
  have H2 := Aside0.mk (H0.out.below hb2)
  clear hb2 H0 HB0
  obtain ⟨k0, k1, k2, k3⟩ := H2.out.cells
  go_wp2_with fail
  clear k0 k1 k2 k3
  refine (made_any A0 c0 L _ H2.out.i.l HN.out.ln).mono ?_
  rintro e w3 ⟨g, v, rfl, hs, hr, hb3⟩
  obtain ⟨Ar, cr, rfl, hcr, hC⟩ := Kd.R_reads hr
  have GD := Aside0.mk (made_good L)
  have S3 : Aside0 (St6 w w3 g Ar (madeL L) A0 c0 L A1 c1 A A2 c2 B A3 c3 T) := ⟨⟨below_then B2.out B2.out.size hb3, H2.out.below hb3, hs, hC⟩⟩
  have S := S3
  have HCR := Aside0.mk hcr
  clear hs hr hb3 hC H2 B2 hcr
  generalize madeL L = M at *
  obtain ⟨k0, k1, k2, k3⟩ := S.out.h.cells
  go_wp2_with fail
  clear k0 k1 k2 k3
  refine (Overlap_any (sg := g) (l := M) (ta := A) (tb := B) (A := A1) (B := A2) (ca := c1) (cb := c2) w3 S.out.s GD.out S.out.h.i.a S.out.h.i.b).mono ?_
  rintro e w4 ⟨v4, er, t, rfl, hc4, hr4, hb4⟩
  have C4 := Aside0.mk hc4
  have R4 := Aside0.mk (Rw.mk hr4)
  replace S := Aside0.mk (S.out.below hb4)
  clear hc4 hr4 hb4
  obtain ⟨k0, k1, k2, k3⟩ := S.out.h.cells
  go_wp2_with fail
  clear k0 k1 k2 k3
  refine (Overlap_any (sg := g) (l := M) (ta := B) (tb := A) (A := A2) (B := A1) (ca := c2) (cb := c1) w4 S.out.s GD.out S.out.h.i.b S.out.h.i.a).mono ?_
  rintro e w5 ⟨v5, er5, u, rfl, hc5, hr5, hb5⟩
  have R5 := Aside0.mk (Rw.mk hr5)
  replace R4 := Aside0.mk (R4.out.below hb5)
  replace S := Aside0.mk (S.out.below hb5)
  have FL := Aside0.mk (C4.out.flip hc5)
  clear hc5 hr5 hb5
  obtain ⟨At, ct, rfl, hct, hCt⟩ := R4.out.reads
  obtain ⟨Au, cu, rfl, hcu, hCu⟩ := R5.out.reads
  have HT := Aside0.mk hCt
  have HU := Aside0.mk hCu
  clear hCt hCu R4 R5
  obtain ⟨k0, k1, k2, k3⟩ := S.out.h.cells
  rcases FL.out with ⟨q1, q2, q3⟩ | ⟨q1, q2, q3, q4⟩
  · subst q1
    subst q2
    subst q3
    obtain ⟨hTt, ht2, htp, ⟨oa, hoa⟩, ⟨ob, hob⟩, hpl, hno⟩ := C4.out.inst GD.out
    have Q := Aside0.mk C4.out.zero
    have HTT := Aside0.mk hTt
    have HOA := Aside0.mk hoa
    have HOB := Aside0.mk hob
    have HPL := Aside0.mk hpl
    have HNO := Aside0.mk hno
    clear hTt hoa hob hpl hno FL
    go_wp2_with fail
    clear k0 k1 k2 k3
    refine (refMatch_ok Ar A1 At cr c1 ct M A t _ w5 S.out.r HCR.out GD.out S.out.h.i.a S.out.h.i.ac HT.out hct HTT.out ht2 Q.out.1 rfl HOA.out).mono ?_
    rintro e w6 ⟨v6, rfl, hb6⟩
    replace S := Aside0.mk (S.out.below hb6)
    replace HT := Aside0.mk (Kd.C_below HT.out hb6)
    replace HU := Aside0.mk (Kd.C_below HU.out hb6)
    clear hb6
    obtain ⟨k0, k1, k2, k3⟩ := S.out.h.cells
    go_wp2_with fail
    clear k0 k1 k2 k3
    refine (refMatch_ok Ar A2 At cr c2 ct M B t _ w6 S.out.r HCR.out GD.out S.out.h.i.b S.out.h.i.bc HT.out hct HTT.out ht2 Q.out.2 rfl HOB.out).mono ?_
    rintro e w7 ⟨v7, rfl, hb7⟩
    replace S := Aside0.mk (S.out.below hb7)
    replace HT := Aside0.mk (Kd.C_below HT.out hb7)
    replace HU := Aside0.mk (Kd.C_below HU.out hb7)
    clear hb7
    go_wp2_with fail
    refine (same_n At t.length ct t Au t.length cu t w7 HT.out hct HU.out hcu).mono ?_
    rintro e w8 ⟨rfl, hd⟩
    rw [show decide (t = t) = true from decide_eq_true rfl]
    replace S := Aside0.mk (S.out.below hd.below)
    replace HT := Aside0.mk (Kd.C_below HT.out hd.below)
    clear hd HU
    go_wp2_with fail
    have hb9 : Below w8.heap.size w8 (w8.alloc (.cells #[.slice At t.length ct] 25)) := below_alloc (Below.refl _ _) _
    refine (refPlain1 _ 1 t _ (C_one w8 25 At ct t HT.out hct) (Nat.le_refl _) (by omega)).mono ?_
    rintro e w9 ⟨gp, cp, Ap, cp', rfl, hx, hcp, hCp, hb10⟩
    rw [HPL.out] at hCp
    have B10 := Aside0.mk (below_then hb9 hb9.size hb10)
    replace S := Aside0.mk (S.out.below B10.out)
    replace HT := Aside0.mk (Kd.C_below HT.out B10.out)
    have HCp := Aside0.mk hCp
    clear hb9 hb10 B10 hCp
    go_wp2_with fail
    refine (same_n At t.length ct t Ap t.length cp' t w9 HT.out hct HCp.out hcp).mono ?_
    rintro e w11 ⟨rfl, hd⟩
    rw [show decide (t = t) = true from decide_eq_true rfl]
    replace S := Aside0.mk (S.out.below hd.below)
    clear hd hx
    obtain ⟨k0, k1, k2, k3⟩ := S.out.h.cells
    go_wp2_with fail
    clear k0 k1 k2 k3
    refine (Clash_any (sg := g) (l := M) (ta := A) (tb := B) (A := A1) (B := A2) (ca := c1) (cb := c2) w11 S.out.s GD.out S.out.h.i.a S.out.h.i.b).mono ?_
    rintro e w12 ⟨er4, cl4, rfl, hcl, hb12⟩
    unfold ClaR at hcl
    rw [if_neg (fun h => h Q.out.1), if_neg (fun h => h Q.out.2)] at hcl
    obtain ⟨rfl, hcl⟩ := hcl
    obtain rfl : cl4 = false := by
      cases cl4
      · rfl
      · exact absurd (hcl.1 rfl) HNO.out
    replace S := Aside0.mk (S.out.below hb12)
    clear hcl hb12
    go_wp2_with fail
    go_ret
    exact ⟨rfl, S.out.b⟩
  · have e1 : (er != 0) = true := bne_iff_ne.2 q1
    have e2 : (er5 != 0) = true := bne_iff_ne.2 q2
    subst q3
    subst q4
    clear q1 q2 FL
    go_wp2_with fail
    go_ret
    exact ⟨rfl, S.out.b⟩
end Go.Proofs.Ytadjoaipmcbieaa
