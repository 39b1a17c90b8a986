/- The texts K0, E0, Z1, Z2, Z3, joined by wip/slim.py: what the claim's theorem needs of them. (Those named W.. and G.. were printed by the kit's print.py for this seat.) -/
import Derived.Test.YtadjoaipmcbieaaOA6
import Derived.Test.YtadjoaipmcbieaaRows
import Derived.ProofKit
import Derived.JoinedOf
import Derived.OpenShut
import Derived.ChangeOld
import Derived.Carry
import Derived.SizedLaws
import Derived.Deep.Slices
import Derived.Deep.Fields
import Derived.ChangeSame

/-! K0 -/
namespace Go.Proofs.Ytadjoaipmcbieaa.Closed
open Go.RowKit Go
set_option maxRecDepth 100000
/-- Letters by their numbers. -/
def ch (l : List Nat) : List Char := l.map Char.ofNat
def cs : List Char := ch [104, 97, 114, 110, 101, 115, 115, 32, 99, 100, 98, 50, 56, 102, 52, 50, 97, 101, 50, 50, 100, 50, 50, 54, 48, 48, 97, 50, 55, 56, 99, 53, 53, 98, 99, 54, 99, 48, 51, 49, 102, 53, 49, 100, 97, 53, 99, 100, 51, 49, 53, 98, 56, 99, 57, 49, 52, 54, 101, 97, 97, 57, 51, 99, 56, 57, 55, 54, 55, 55, 101, 54, 32, 99, 117, 116, 32, 97, 116, 32, 114, 111, 112, 101, 119, 97, 108, 107, 47, 114, 111, 112, 101, 119, 97, 108, 107, 108, 97, 119, 48, 50, 46, 84, 101, 114, 109, 78, 97, 109, 101, 115, 32, 114, 111, 112, 101, 119, 97, 108, 107, 47, 114, 111, 112, 101, 119, 97, 108, 107, 108, 97, 119, 48, 50, 46, 84, 101, 114, 109, 80, 117, 116, 115, 32, 114, 111, 112, 101, 119, 97, 108, 107, 47, 114, 111, 112, 101, 119, 97, 108, 107, 108, 97, 119, 48, 50, 46, 84, 101, 114, 109, 76, 101, 97, 100, 115, 32, 114, 111, 112, 101, 119, 97, 108, 107, 47, 114, 111, 112, 101, 119, 97, 108, 107, 108, 97, 119, 48, 50, 46, 84, 101, 114, 109, 84, 105, 108, 101, 115, 32, 114, 111, 112, 101, 119, 97, 108, 107, 47, 114, 111, 112, 101, 119, 97, 108, 107, 108, 97, 119, 48, 50, 46, 84, 101, 114, 109, 67, 104, 101, 99, 107, 115, 32, 114, 111, 112, 101, 119, 97, 108, 107, 47, 114, 111, 112, 101, 119, 97, 108, 107, 108, 97, 119, 48, 50, 46, 84, 101, 114, 109, 66, 97, 99, 107, 32, 114, 111, 112, 101, 119, 97, 108, 107, 47, 114, 111, 112, 101, 119, 97, 108, 107, 108, 97, 119, 48, 50, 46, 84, 101, 114, 109, 67, 117, 116, 115, 32, 114, 111, 112, 101, 119, 97, 108, 107, 47, 114, 111, 112, 101, 119, 97, 108, 107, 108, 97, 119, 48, 50, 46, 84, 101, 114, 109, 80, 108, 97, 105, 110, 115, 32, 114, 111, 112, 101, 119, 97, 108, 107, 47, 114, 111, 112, 101, 119, 97, 108, 107, 108, 97, 119, 48, 50, 46, 84, 101, 114, 109, 78, 105, 108, 32, 114, 111, 112, 101, 119, 97, 108, 107, 47, 114, 111, 112, 101, 119, 97, 108, 107, 108, 97, 119, 48, 54, 46, 85, 110, 105, 102, 121, 78, 97, 109, 101, 115, 32, 114, 111, 112, 101, 119, 97, 108, 107, 47, 114, 111, 112, 101, 119, 97, 108, 107, 108, 97, 119, 48, 54, 46, 85, 110, 105, 102, 121, 84, 101, 108, 108, 115, 32, 114, 111, 112, 101, 119, 97, 108, 107, 47, 114, 111, 112, 101, 119, 97, 108, 107, 108, 97, 119, 48, 54, 46, 85, 110, 105, 102, 121, 79, 118, 101, 114, 108, 97, 112, 115, 32, 114, 111, 112, 101, 119, 97, 108, 107, 47, 114, 111, 112, 101, 119, 97, 108, 107, 108, 97, 119, 48, 54, 46, 85, 110, 105, 102, 121, 73, 110, 115, 116, 97, 110, 99, 101, 32, 114, 111, 112, 101, 119, 97, 108, 107, 47, 114, 111, 112, 101, 119, 97, 108, 107, 108, 97, 119, 48, 54, 46, 85, 110, 105, 102, 121, 83, 101, 108, 102, 32, 114, 111, 112, 101, 119, 97, 108, 107, 47, 114, 111, 112, 101, 119, 97, 108, 107, 108, 97, 119, 48, 54, 46, 85, 110, 105, 102, 121, 78, 105, 108, 32, 114, 111, 112, 101, 119, 97, 108, 107, 47, 114, 111, 112, 101, 119, 97, 108, 107, 108, 97, 119, 48, 53, 46, 77, 97, 116, 99, 104, 78, 97, 109, 101, 115, 32, 114, 111, 112, 101, 119, 97, 108, 107, 47, 114, 111, 112, 101, 119, 97, 108, 107, 108, 97, 119, 48, 53, 46, 77, 97, 116, 99, 104, 70, 105, 116, 115, 32, 114, 111, 112, 101, 119, 97, 108, 107, 47, 114, 111, 112, 101, 119, 97, 108, 107, 108, 97, 119, 48, 53, 46, 77, 97, 116, 99, 104, 65, 112, 112, 108, 105, 101, 115, 32, 114, 111, 112, 101, 119, 97, 108, 107, 47, 114, 111, 112, 101, 119, 97, 108, 107, 108, 97, 119, 48, 53, 46, 77, 97, 116, 99, 104, 65, 108, 105, 107, 101, 32, 114, 111, 112, 101, 119, 97, 108, 107, 47, 114, 111, 112, 101, 119, 97, 108, 107, 108, 97, 119, 48, 53, 46, 77, 97, 116, 99, 104, 66, 97, 99, 107, 32, 114, 111, 112, 101, 119, 97, 108, 107, 47, 114, 111, 112, 101, 119, 97, 108, 107, 108, 97, 119, 48, 53, 46, 77, 97, 116, 99, 104, 73, 110, 115, 116, 97, 110, 99, 101, 32, 114, 111, 112, 101, 119, 97, 108, 107, 47, 114, 111, 112, 101, 119, 97, 108, 107, 108, 97, 119, 48, 53, 46, 77, 97, 116, 99, 104, 78, 105, 108]
theorem io : Try.prog.initOrder = String.ofList cs := by kernel_rfl
theorem io' : Try.prog.initOrder.toList = cs := by rw [io, String.toList_ofList]
def wd : List (List Char) := [ch [99, 117, 116], ch [97, 116], ch [114, 111, 112, 101, 119, 97, 108, 107, 47, 114, 111, 112, 101, 119, 97, 108, 107, 108, 97, 119, 48, 50, 46, 84, 101, 114, 109, 78, 97, 109, 101, 115], ch [114, 111, 112, 101, 119, 97, 108, 107, 47, 114, 111, 112, 101, 119, 97, 108, 107, 108, 97, 119, 48, 50, 46, 84, 101, 114, 109, 80, 117, 116, 115], ch [114, 111, 112, 101, 119, 97, 108, 107, 47, 114, 111, 112, 101, 119, 97, 108, 107, 108, 97, 119, 48, 50, 46, 84, 101, 114, 109, 76, 101, 97, 100, 115], ch [114, 111, 112, 101, 119, 97, 108, 107, 47, 114, 111, 112, 101, 119, 97, 108, 107, 108, 97, 119, 48, 50, 46, 84, 101, 114, 109, 84, 105, 108, 101, 115], ch [114, 111, 112, 101, 119, 97, 108, 107, 47, 114, 111, 112, 101, 119, 97, 108, 107, 108, 97, 119, 48, 50, 46, 84, 101, 114, 109, 67, 104, 101, 99, 107, 115], ch [114, 111, 112, 101, 119, 97, 108, 107, 47, 114, 111, 112, 101, 119, 97, 108, 107, 108, 97, 119, 48, 50, 46, 84, 101, 114, 109, 66, 97, 99, 107], ch [114, 111, 112, 101, 119, 97, 108, 107, 47, 114, 111, 112, 101, 119, 97, 108, 107, 108, 97, 119, 48, 50, 46, 84, 101, 114, 109, 67, 117, 116, 115], ch [114, 111, 112, 101, 119, 97, 108, 107, 47, 114, 111, 112, 101, 119, 97, 108, 107, 108, 97, 119, 48, 50, 46, 84, 101, 114, 109, 80, 108, 97, 105, 110, 115], ch [114, 111, 112, 101, 119, 97, 108, 107, 47, 114, 111, 112, 101, 119, 97, 108, 107, 108, 97, 119, 48, 50, 46, 84, 101, 114, 109, 78, 105, 108], ch [114, 111, 112, 101, 119, 97, 108, 107, 47, 114, 111, 112, 101, 119, 97, 108, 107, 108, 97, 119, 48, 54, 46, 85, 110, 105, 102, 121, 78, 97, 109, 101, 115], ch [114, 111, 112, 101, 119, 97, 108, 107, 47, 114, 111, 112, 101, 119, 97, 108, 107, 108, 97, 119, 48, 54, 46, 85, 110, 105, 102, 121, 84, 101, 108, 108, 115], ch [114, 111, 112, 101, 119, 97, 108, 107, 47, 114, 111, 112, 101, 119, 97, 108, 107, 108, 97, 119, 48, 54, 46, 85, 110, 105, 102, 121, 79, 118, 101, 114, 108, 97, 112, 115], ch [114, 111, 112, 101, 119, 97, 108, 107, 47, 114, 111, 112, 101, 119, 97, 108, 107, 108, 97, 119, 48, 54, 46, 85, 110, 105, 102, 121, 73, 110, 115, 116, 97, 110, 99, 101], ch [114, 111, 112, 101, 119, 97, 108, 107, 47, 114, 111, 112, 101, 119, 97, 108, 107, 108, 97, 119, 48, 54, 46, 85, 110, 105, 102, 121, 83, 101, 108, 102], ch [114, 111, 112, 101, 119, 97, 108, 107, 47, 114, 111, 112, 101, 119, 97, 108, 107, 108, 97, 119, 48, 54, 46, 85, 110, 105, 102, 121, 78, 105, 108], ch [114, 111, 112, 101, 119, 97, 108, 107, 47, 114, 111, 112, 101, 119, 97, 108, 107, 108, 97, 119, 48, 53, 46, 77, 97, 116, 99, 104, 78, 97, 109, 101, 115], ch [114, 111, 112, 101, 119, 97, 108, 107, 47, 114, 111, 112, 101, 119, 97, 108, 107, 108, 97, 119, 48, 53, 46, 77, 97, 116, 99, 104, 70, 105, 116, 115], ch [114, 111, 112, 101, 119, 97, 108, 107, 47, 114, 111, 112, 101, 119, 97, 108, 107, 108, 97, 119, 48, 53, 46, 77, 97, 116, 99, 104, 65, 112, 112, 108, 105, 101, 115], ch [114, 111, 112, 101, 119, 97, 108, 107, 47, 114, 111, 112, 101, 119, 97, 108, 107, 108, 97, 119, 48, 53, 46, 77, 97, 116, 99, 104, 65, 108, 105, 107, 101], ch [114, 111, 112, 101, 119, 97, 108, 107, 47, 114, 111, 112, 101, 119, 97, 108, 107, 108, 97, 119, 48, 53, 46, 77, 97, 116, 99, 104, 66, 97, 99, 107], ch [114, 111, 112, 101, 119, 97, 108, 107, 47, 114, 111, 112, 101, 119, 97, 108, 107, 108, 97, 119, 48, 53, 46, 77, 97, 116, 99, 104, 73, 110, 115, 116, 97, 110, 99, 101], ch [114, 111, 112, 101, 119, 97, 108, 107, 47, 114, 111, 112, 101, 119, 97, 108, 107, 108, 97, 119, 48, 53, 46, 77, 97, 116, 99, 104, 78, 105, 108]]
def hw : List Char := ch [104, 97, 114, 110, 101, 115, 115]
def sw : List Char := ch [99, 100, 98, 50, 56, 102, 52, 50, 97, 101, 50, 50, 100, 50, 50, 54, 48, 48, 97, 50, 55, 56, 99, 53, 53, 98, 99, 54, 99, 48, 51, 49, 102, 53, 49, 100, 97, 53, 99, 100, 51, 49, 53, 98, 56, 99, 57, 49, 52, 54, 101, 97, 97, 57, 51, 99, 56, 57, 55, 54, 55, 55, 101, 54]
theorem ws0 : wordsSigns cs = hw :: sw :: wd := by kernel_rfl
theorem bm {h s : List Char} {r : List (List Char)} (h1 : (h == "harness".toList) = true) (h2 : isSumSigns s = true) : behindMainWord (h :: s :: r) = r := by
  unfold behindMainWord; simp only [h1, h2, Bool.true_or, Bool.and_true, if_true]
theorem ws : behindMainWord (wordsSigns Try.prog.initOrder.toList) = wd := by
  rw [io', ws0]; exact bm (by kernel_rfl) (by kernel_rfl)
theorem c_sl : stripLifts liftWords wd = ([], wd) := by kernel_rfl
theorem hc : (wd.head? == some "cut".toList) = true := by kernel_rfl
theorem hl : Try.prog.headLifts = [] := by
  unfold Program.headLifts; rw [ws, c_sl]; simp only [hc, if_true]
theorem make_of {P : Program} {w : List (List Char)} (h : behindMainWord (wordsSigns P.initOrder.toList) = w) (hw : ∃ c r, w = c :: r) (hg : ∀ c, w.head? = some c → (c == "gc".toList) = false ∧ (c == "spec".toList) = false ∧ (c == "cut".toList) = true) : P.make = some Make.cut := by
  obtain ⟨c, r, rfl⟩ := hw
  obtain ⟨g1, g2, g3⟩ := hg c rfl
  unfold Program.make
  rw [h]
  simp only [g1, g2, g3, Bool.false_or, Bool.true_or, if_true]
  simp
theorem c_make : Try.prog.make = some Make.cut := make_of ws ⟨_, _, rfl⟩ (by
  intro c hc; cases hc; exact ⟨by kernel_rfl, by kernel_rfl, by kernel_rfl⟩)
theorem l1 : (wd.head? == some "carried".toList) = false := by kernel_rfl
theorem c_lifts : Try.prog.liftsFinal = false := by
  unfold Program.liftsFinal; rw [hl, ws]
  simp only [l1, Bool.false_and, Bool.false_or]
  rfl
theorem c_later : Try.prog.laysLater = false := by kernel_rfl
theorem c_bears : Try.prog.bearsReflect = false := by kernel_rfl
theorem c_door : Try.prog.doorFits [] = true := by kernel_rfl
theorem wd_cons : ∃ c r, wd = c :: r := ⟨_, _, rfl⟩
theorem may_of {P : Program} {w : List (List Char)} (h : behindMainWord (wordsSigns P.initOrder.toList) = w) (hw : ∃ c r, w = c :: r) (hs : stripLifts liftWords w = ([], w)) (hh : (w.head? == some "cut".toList) = true)
    (h1 : P.laysLater = false) (h2 : P.bearsReflect = false) (h3 : P.doorFits [] = true) : P.mayEnter = true := by
  obtain ⟨c, r, rfl⟩ := hw
  unfold Program.mayEnter
  rw [h]
  simp only [hs, h1, h2, h3, hh, Bool.not_false, Bool.or_true, Bool.and_true, Bool.true_and]
  simp
theorem c_may : Try.prog.mayEnter = true := may_of ws wd_cons c_sl hc c_later c_bears c_door
theorem s_laid : laidOutB Try.prog = true := by kernel_rfl
theorem s_maps : mapsRowed Try.prog = true := by kernel_rfl
theorem s_stops : Try.prog.stops = [] := by kernel_rfl
theorem s_knobs : Try.prog.stopKnobs = [] := by kernel_rfl
theorem s_keys : Try.prog.plainKeys = true := by kernel_rfl
theorem s_heard : Try.prog.stopsHeard = true := by kernel_rfl
/-- The row's own part. -/
def rest (P : Program) (f : FuncId) (fn : Func) (s : ChangeSpec) (c : OpenClaim) : Bool :=
  c.wf (OpenSpec.ofChange s) && true && true &&
  fn.params.all (P.readableRec ·) && namedTie P c.named s.vars &&
  (c.stops == []) && true && (c.knobs == []) && true &&
  (c.inPlace == P.inPlace f) && (c.unfollowed == P.unfollowed f) && (c.recurses == P.recurses f) && (c.named == P.varsNamed f) &&
  (c.maps == (fn.params.toList ++ s.plain.varTypes P).any (P.mapsRec ·)) && (c.ifaces == (fn.params.toList ++ s.plain.varTypes P).any (P.ifacesRec ·)) && (c.mapsOut == P.mapsAmong fn.resultTypes.toList) &&
  (c.loops == (fn.params.toList ++ s.plain.varTypes P).any (P.loopsFrom ·)) && (c.wideKeys == (fn.params.toList ++ s.plain.varTypes P ++ fn.resultTypes.toList).any (P.wideKeysFrom ·)) &&
  s.vars.all (P.varReadable ·) && fn.resultTypes.all (fun t => P.readableRec t && decide (t < P.types.size)) && (c.ifacesOut == fn.resultTypes.toList.any (P.ifacesRec ·)) && (c.loopsOut == fn.resultTypes.toList.any (P.loopsFrom ·)) && (c.plainKeys == true) && c.shortTexts.isNone && true && true && (c.lifted == false) && (some Make.cut == some c.make) && (c.kinds == (if c.domain.isEmpty then [] else fn.params.toList.map fun t => match P.underlying t with | some (.int k) => some k | _ => none)) && (c.pinned == c.pinnedBy) &&
  (c.veiled == (fn.params.toList ++ s.plain.varTypes P ++ fn.resultTypes.toList).any (P.veiledRec ·)) && c.veiledFits P fn.params.toList (fn.params.toList ++ s.plain.varTypes P ++ fn.resultTypes.toList)
theorem closed_of {f : FuncId} {fn : Func} {s : ChangeSpec} {c : OpenClaim} (h : rest Try.prog f fn s c = true) : joinedFacts Try.prog f fn s c = true := by
  unfold joinedFacts
  rw [s_laid, s_maps, s_stops, s_knobs, s_keys, s_heard, c_may, c_lifts, c_make]
  exact h
end Go.Proofs.Ytadjoaipmcbieaa.Closed

/-! E0 -/
namespace Go.Proofs.Ytadjoaipmcbieaa
open Go.ChangeShapes Go.WideShapes Go.ChangeAt Go.Deep
open Go.RowKit Go.Proofs.YtadjoaipmcbieaaW.PrintWords Go.Proofs.YtadjoaipmcbieaaW.PrintLast Go.Proofs.YtadjoaipmcbieaaW.PrintMore A
section
variable {H : Type} {enc : TypeId × Value → H} {w : World} {base : Nat} {spare : Nat → Bool} {held : Bool}
theorem cells89 : Try.prog.cellsOf 89 = 3 := by kernel_rfl
theorem cells3 : Try.prog.cellsOf 3 = 1 := by kernel_rfl
theorem bytes3 : Try.prog.bytesOf 3 = 8 := by kernel_rfl
theorem cells9 : Try.prog.cellsOf 9 = 1 := by kernel_rfl
theorem cells4 : Try.prog.cellsOf 4 = 1 := by kernel_rfl
theorem three_of {α : Type} : ∀ {l : List α}, l.length = 3 → ∃ a b c, l = [a, b, c]
  | [a, b, c], _ => ⟨a, b, c, rfl⟩
/-- One symbol, out of its three cells. -/
theorem open_sym {fuel : Nat} {cs : List Value} {x : DataW H × List MemPlace} (h : DataW.trod enc Try.prog w base spare held fuel 89 cs = some x) :
    ∃ s : S89, cs = [.string s.f0, .int .i64 s.f1, .bool s.f2] ∧ s.f0.size ≤ maxLen := by
  obtain ⟨ys, n, _, _, hlen, hyl, hf⟩ := DataW.trod_struct Try.underlying89 h
  rw [cells89] at hlen
  obtain ⟨a, b, c, rfl⟩ := three_of hlen
  obtain ⟨y0, y1, y2, rfl⟩ := three_of hyl
  have h0 : DataW.trod enc Try.prog w base spare held n 9 (List.take (Try.prog.cellsOf 9) [a, b, c]) = some y0 := hf 0 _ rfl
  have h1 : DataW.trod enc Try.prog w base spare held n 3 (List.take (Try.prog.cellsOf 3) [b, c]) = some y1 := hf 1 _ rfl
  have h2 : DataW.trod enc Try.prog w base spare held n 4 (List.take (Try.prog.cellsOf 4) [c]) = some y2 := hf 2 _ rfl
  rw [cells9] at h0
  rw [cells3] at h1
  rw [cells4] at h2
  obtain ⟨s, e0, _, hs⟩ := DataW.trod_string Try.underlying9 h0
  obtain ⟨m, e1, _, _⟩ := DataW.trod_int Try.underlying3 h1
  obtain ⟨b', e2, _⟩ := DataW.trod_bool Try.underlying4 h2
  obtain rfl := List.singleton_inj.1 (show [a] = [_] from e0)
  obtain rfl := List.singleton_inj.1 (show [b] = [_] from e1)
  obtain rfl := List.singleton_inj.1 (show [c] = [_] from e2)
  exact ⟨⟨s, m, b'⟩, rfl, hs⟩
theorem open_syms {fuel : Nat} {v : Value} {x : DataW H × List MemPlace} (h : DataW.trod enc Try.prog w base spare held fuel 23 [v] = some x) :
    ∃ (A : Option Addr) (c : Nat) (L : List S89), v = .slice A L.length c ∧ L.length ≤ c ∧ Kd.C k89 w A L.length L ∧ ∀ s ∈ L, s.f0.size ≤ maxLen := by
  rcases Go.Deep.open_slice Try.underlying23 h with ⟨h0, _⟩ | ⟨a, len, cap, m, n, D, Pl, hcs, hb, hl, hm, hmm, hx, hi⟩
  · obtain rfl := List.singleton_inj.1 h0
    exact ⟨none, 0, [], rfl, Nat.le_refl _, Kd.C_nil _ _, by simp⟩
  · obtain rfl := List.singleton_inj.1 hcs
    have hlm : len ≤ m := by rw [hmm]; split <;> omega
    have key : ∀ i, ∃ s : S89, i < len → ((∀ j u, [Value.string s.f0, .int .i64 s.f1, .bool s.f2][j]? = some u → w.cell? (a.add (i * 3 + j)) = some u) ∧ s.f0.size ≤ maxLen) := by
      intro i
      by_cases hil : i < len
      · obtain ⟨cs', hc, ht⟩ := hi i (by omega)
        obtain ⟨s, rfl, hs⟩ := open_sym ht
        obtain ⟨_, _, hat⟩ := World.cells?_some hc
        rw [cells89] at hat
        refine ⟨s, fun _ => ⟨fun j u hu => ?_, hs⟩⟩
        have hj : j < 3 := (List.getElem?_eq_some_iff.1 hu).1
        rw [← Go.Deep.add_add, hat j hj, hu]
      · exact ⟨z89, fun h => absurd h hil⟩
    let f : Nat → S89 := fun i => Classical.choose (key i)
    have hf : ∀ i, i < len → _ := fun i => Classical.choose_spec (key i)
    change ∀ i, i < len → ((∀ j u, [Value.string (f i).f0, .int .i64 (f i).f1, .bool (f i).f2][j]? = some u → w.cell? (a.add (i * 3 + j)) = some u) ∧ (f i).f0.size ≤ maxLen) at hf
    clear_value f
    refine ⟨some a, cap, (List.range len).map f, by simp, by simpa using hl, ⟨rfl, by unfold maxLen at hm; simp; omega, fun _ => ⟨a, rfl, fun j p hj => ?_⟩⟩, fun s hs => ?_⟩
    · have hjl : j < len := by have := (List.getElem?_eq_some_iff.1 hj).1; simpa using this
      obtain rfl : f j = p := by simpa [hjl] using hj
      exact ⟨[.string (f j).f0, .int .i64 (f j).f1, .bool (f j).f2], rfl, k89_mk _ _, fun i u hu => (hf j hjl).1 i u hu⟩
    · obtain ⟨i, hi2, rfl⟩ := List.mem_map.1 hs
      exact (hf i (List.mem_range.1 hi2)).2
theorem open_nums {t : TypeId} {fuel : Nat} {v : Value} {x : DataW H × List MemPlace} (ht : Try.prog.underlying t = some (.slice 3)) (h : DataW.trod enc Try.prog w base spare held fuel t [v] = some x)
    (hw : ∀ m ∈ x.1.weights Try.prog t, m ≤ reachBytes) :
    ∃ (A : Option Addr) (c : Nat) (T : List Int), v = .slice A T.length c ∧ T.length ≤ c ∧ T.length ≤ 17592186044415 ∧ Kd.C (Kd.int .i64) w A T.length T := by
  rcases open_ints ht Try.underlying3 cells3 h with ⟨h0, _⟩ | ⟨a, len, cap, zs, hcs, _, hl, hm, hz, hx, hcell, _⟩
  · obtain rfl := List.singleton_inj.1 h0
    exact ⟨none, 0, [], rfl, Nat.le_refl _, by simp, Kd.C_nil _ _⟩
  · obtain rfl := List.singleton_inj.1 hcs
    have hzl : len ≤ zs.length := by rw [hz]; split <;> omega
    have hT : (zs.take len).length = len := by simp [hzl]
    refine ⟨some a, cap, zs.take len, by rw [hT], by rw [hT]; exact hl, ?_, ?_⟩
    · subst hx
      have := hw _ (by simp only [DataW.weights, ht]; exact List.mem_cons_self)
      rw [bytes3] at this
      unfold reachBytes at this
      rw [hT]
      simp [lits] at this
      omega
    · rw [hT]
      refine ⟨hT, by unfold maxLen at hm; omega, fun _ => ⟨a, rfl, fun j p hj => ⟨[.int .i64 p], rfl, rfl, fun i u hu => ?_⟩⟩⟩
      have hjl : j < len := by have := (List.getElem?_eq_some_iff.1 hj).1; omega
      cases i with
      | zero =>
        simp at hu
        subst hu
        rw [show j * (Kd.int .i64).sz + 0 = j from by show j * 1 + 0 = j; omega, hcell j (by omega)]
        have : (zs.take len)[j]? = zs[j]? := by rw [List.getElem?_take, if_pos hjl]
        rw [this] at hj
        simp [List.getD_eq_getElem?_getD, hj]
      | succ i => simp at hu
theorem cells23 : Try.prog.cellsOf 23 = 1 := by kernel_rfl
theorem cells25 : Try.prog.cellsOf 25 = 1 := by kernel_rfl
end
end Go.Proofs.Ytadjoaipmcbieaa

/-! Z1 -/
namespace Go.Proofs.Ytadjoaipmcbieaa
open Go.RowKit Go.Proofs.YtadjoaipmcbieaaW.PrintWords Go.Proofs.YtadjoaipmcbieaaW.PrintLast Go.Proofs.YtadjoaipmcbieaaW.PrintMore A
set_option linter.unusedSimpArgs false
set_option linter.unusedVariables false
/-- What is wrong with two terms. -/
def er6 (l : List S89) (A B : List Int) : Int := if chk l A = 0 then chk l B else chk l A
theorem refCheck6_any (Ar : Option Addr) (cr : Nat) (l : List S89) (A1 A2 : Option Addr) (c1 c2 : Nat) (A B : List Int) (w : World) (hr : Kd.C k89 w Ar l.length l) (hc : l.length ≤ cr) (hl : GoodL l)
    (ha : Kd.C (Kd.int .i64) w A1 A.length A) (hda : A.length ≤ c1) (hb : Kd.C (Kd.int .i64) w A2 B.length B) (hdb : B.length ≤ c2) :
    Calls Try.prog 57 #[.slice Ar l.length cr, .slice A1 A.length c1, .slice A2 B.length c2] w fun e w' => e = .returned (.int .i64 (er6 l A B)) ∧ Drawn0 w w' := by
  refine ropewalkref06_Check.calls (2 * A.length + 2 * B.length + 2) Ar cr l A1 c1 A A2 c2 B _ w hr hc ha hda hb hdb ?_
  unfold ropewalkref06_Check.f er6
  rw [rcheck hl A (by omega), rcheck hl B (by omega), Option.bind_some, Option.bind_some]
  split <;> rfl
theorem UniR.len {b : Int → Nat} {A B : List Int} {e : Int} {t : List Int} (h : UniR b A B e t) : t.length ≤ 2000 ∧ (e ≠ 0 → t = []) := by
  cases h with
  | none _ => simp
  | long _ _ => simp
  | ok _ hl => rw [rn_length]; exact ⟨hl, fun h => absurd rfl h⟩
theorem ComR.len {l : List S89} {A B : List Int} {ap : Bool} {e : Int} {t : List Int} (h : ComR l A B ap e t) : t.length ≤ 2000 ∧ (er6 l A B ≠ 0 → e = er6 l A B ∧ t = []) := by
  unfold ComR at h
  unfold er6
  by_cases h1 : chk l A = 0
  · rw [if_neg (fun h => h h1)] at h
    rw [if_pos h1]
    by_cases h2 : chk l B = 0
    · rw [if_neg (fun h => h h2)] at h
      exact ⟨h.len.1, fun h3 => absurd h2 h3⟩
    · rw [if_pos h2] at h
      exact ⟨by rw [h.2]; simp, fun _ => h⟩
  · rw [if_pos h1] at h
    rw [if_neg h1]
    exact ⟨by rw [h.2]; simp, fun _ => h⟩
theorem er6_zero {l : List S89} {A B : List Int} : er6 l A B = 0 ↔ chk l A = 0 ∧ chk l B = 0 := by
  unfold er6
  split
  · exact ⟨fun h => ⟨by assumption, h⟩, fun h => h.2⟩
  · exact ⟨fun h => by contradiction, fun h => h.1⟩
/-- Where asked's loop stands. -/
structure AkSt (w0 w W : World) (la ha lb hb lc hc : Nat) (va vb vc : Value) (ys t : List Int) : Prop where
  a : Rw W la ha va ys
  yl : ys.length = t.length
  b : Rw W lb hb vb t
  c : Rw W lc hc vc t
  l : Below w0.heap.size w0 W
  k : Kept w W (fun k => la ≤ k ∧ k < ha)
section
variable {w0 w W W' : World} {la ha lb hb lc hc : Nat} {va vb vc : Value} {ys t : List Int}
theorem AkSt.below (h : AkSt w0 w W la ha lb hb lc hc va vb vc ys t) (hbw : Below W.heap.size W W') : AkSt w0 w W' la ha lb hb lc hc va vb vc ys t :=
  ⟨h.a.below hbw, h.yl, h.b.below hbw, h.c.below hbw, below_then h.l h.l.size hbw, h.k.below hbw⟩
theorem AkSt.put {g n c : Nat} (h : AkSt w0 w W la ha lb hb lc hc (.slice (some ⟨g, 0, none⟩) n c) vb vc ys t) (h0 : w0.heap.size ≤ la) (hab : ha ≤ lb ∨ hb ≤ la) (hac : ha ≤ lc ∨ hc ≤ la) (i : Nat) (x : Int) :
    AkSt w0 w (W.setCell ⟨g, i, none⟩ (.int .i64 x)) la ha lb hb lc hc (.slice (some ⟨g, 0, none⟩) n c) vb vc (ys.set i x) t := by
  have hg := h.a.at_
  refine ⟨(Kd.R_putg h.a (i : Int) x).1, by rw [List.length_set]; exact h.yl, Kd.R_far h.b (p := ⟨g, i, none⟩) (fun k hk e => ?_) _, Kd.R_far h.c (p := ⟨g, i, none⟩) (fun k hk e => ?_) _, h.l.setCell (p := ⟨g, i, none⟩) (by show w0.heap.size ≤ g; omega) _, h.k.setCell (p := ⟨g, i, none⟩) (.inl hg) _⟩
  · have e' : k = g := e
    omega
  · have e' : k = g := e
    omega
end
set_option maxRecDepth 100000 in
set_option maxHeartbeats 4000000 in
/-- asked, from its first comparison on. -/
theorem asked_ok {w0 w : World} {M : List S89} {Ar A0 A1 A2 A3 : Option Addr} {cr n0 c0 c1 c2 n3 c3 : Nat} {A B t : List Int} {ap : Bool} {er : Int} {va vb : Value} {la ha lb hb : Nat} (hB : Below w0.heap.size w0 w) (h0 : w0.heap.size ≤ la) (a : Rw w la ha va t) (b : Rw w lb hb vb t) (hab : ha ≤ lb ∨ hb ≤ la) (hha : ha ≤ w.heap.size)
    (hC : ComR M A B ap er t) (hr : Kd.C k89 w Ar M.length M) (hcr : M.length ≤ cr) (hl : GoodL M) (hta : Kd.C (Kd.int .i64) w A1 A.length A) (hda : A.length ≤ c1) (htb : Kd.C (Kd.int .i64) w A2 B.length B) (hdb : B.length ≤ c2) :
    Calls Try.prog 55 #[.agg #[.slice A0 n0 c0, .slice A1 A.length c1, .slice A2 B.length c2, .slice A3 n3 c3], .slice Ar M.length cr, .bool ap, va, vb, .int .i64 er, .int .i64 er] w fun e w' => e = .returned (.bool true) ∧ Below w0.heap.size w0 w' ∧ Kept w w' (fun k => la ≤ k ∧ k < ha) := by
  have hlen := hC.len.1
  obtain ⟨Aa, ca, rfl, hca, -⟩ := a.reads
  obtain ⟨Ab, cb, rfl, hcb, -⟩ := b.reads
  have HA := Aside0.mk a
  have HBB := Aside0.mk b
  have HB := Aside0.mk hB
  have HC := Aside0.mk hC
  have HR := Aside0.mk hr
  have HL := Aside0.mk hl
  have HTA := Aside0.mk hta
  have HTB := Aside0.mk htb
  have HAB := Aside0.mk hab
  have HHA := Aside0.mk hha
  have H0 := Aside0.mk h0
  have HS := Aside0.mk hB.size
  clear a b hB hC hr hl hta htb hab hha h0
  go_enter Try.func55, Try.ntmps55
  go_wp2_with fail
  have hb1 : Below w.heap.size w (w.alloc (.cells #[.slice A0 n0 c0, .slice A1 A.length c1, .slice A2 B.length c2, .slice A3 n3 c3] 62)) := below_alloc (Below.refl _ _) _
  have hbx : (w.alloc (.cells #[.slice A0 n0 c0, .slice A1 A.length c1, .slice A2 B.length c2, .slice A3 n3 c3] 62)).heap[w.heap.size]? = _ := heap_alloc_new w _
  have B1 := Aside0.mk hb1
  have BX := Aside0.mk hbx
  clear hb1 hbx
  generalize w.alloc (.cells #[.slice A0 n0 c0, .slice A1 A.length c1, .slice A2 B.length c2, .slice A3 n3 c3] 62) = w1 at *
  refine (refCheck6_any Ar cr M A1 A2 c1 c2 A B _ (Kd.C_below HR.out B1.out) hcr HL.out (Kd.C_below HTA.out B1.out) hda (Kd.C_below HTB.out B1.out) hdb).mono ?_
  rintro e w2 ⟨rfl, hd⟩
  have B2 := Aside0.mk (below_then B1.out B1.out.size hd.below)
  have BX2 := Aside0.mk ((hd.below.block _ (blk_lt BX.out)).trans BX.out)
  clear hd B1 BX
  obtain ⟨er', her⟩ : ∃ e, e = er6 M A B := ⟨_, rfl⟩
  rw [← her]
  have HER := Aside0.mk her
  clear her
  have K2 : Aside0 (Kept w w2 (fun k => la ≤ k ∧ k < ha)) := ⟨Kept.of_below B2.out _⟩
  by_cases hz : er' = 0
  · have e1 : (er' == 0) = true := beq_iff_eq.2 hz
    obtain ⟨q1, q2⟩ := er6_zero.1 (HER.out.symm.trans hz)
    have Q := Aside0.mk (And.intro q1 q2)
    obtain ⟨k1, k2⟩ : w2.cell? ⟨w.heap.size, 1, none⟩ = some (.slice A1 A.length c1) ∧ w2.cell? ⟨w.heap.size, 2, none⟩ = some (.slice A2 B.length c2) := ⟨cell_of_row w2 w.heap.size 1 _ _ _ BX2.out, cell_of_row w2 w.heap.size 2 _ _ _ BX2.out⟩
    clear q1 q2 hz
    go_wp2_with fail
    clear k1 k2 e1
    refine (Common_ok Ar cr M A1 A2 c1 c2 A B ap w2 (Kd.C_below HR.out B2.out) hcr HL.out (Kd.C_below HTA.out B2.out) (Kd.C_below HTB.out B2.out) hda hdb Q.out.1 Q.out.2).mono ?_
    rintro e w3 ⟨vc, er2, t2, rfl, hcom, hrow, hb3⟩
    obtain ⟨rfl, rfl⟩ := HC.out.det hcom
    have HZ : Aside0 (ha ≤ w2.heap.size) := ⟨Nat.le_trans HHA.out B2.out.size⟩
    have HW : Aside0 (AkSt w0 w w3 la ha lb hb w2.heap.size w3.heap.size (.slice Aa t.length ca) (.slice Ab t.length cb) vc t t) :=
      ⟨(HA.out.below B2.out).below hb3, rfl, (HBB.out.below B2.out).below hb3, Rw.mk hrow, below_then (below_then HB.out HS.out B2.out) (Nat.le_trans HS.out B2.out.size) hb3, K2.out.below hb3⟩
    have HAC : Aside0 (ha ≤ w2.heap.size ∨ w3.heap.size ≤ la) := ⟨.inl HZ.out⟩
    clear hcom hrow hb3 HZ K2 BX2 B2
    generalize w2.heap.size = lc at *
    generalize w3.heap.size = hc at *
    go_wp2_with fail
    obtain ⟨Ac, cc, rfl, hcc, -⟩ := HW.out.c.reads
    have hD : decide (t = t) = true := by simp
    refine (same_n Aa t.length ca t Ac t.length cc t _ (HW.out.a.reads.elim fun _ h => h.elim fun _ h => by cases h.1; exact h.2.2) hca (HW.out.c.reads.elim fun _ h => h.elim fun _ h => by cases h.1; exact h.2.2) hcc).mono ?_
    rintro e w4 ⟨rfl, hd⟩
    rw [hD]
    replace HW := Aside0.mk (HW.out.below hd.below)
    clear hd hD
    go_wp2_with fail
    go_loopg [18] t.length (fun m a wr => ∃ (i : Nat) (ys : List Int), a = .int .i64 i ∧ i ≤ t.length ∧ Aside0 (m = t.length - i) ∧ Aside0 (AkSt w0 w wr la ha lb hb lc hc (.slice Aa t.length ca) (.slice Ab t.length cb) (.slice Ac t.length cc) ys t))
    case atStart => exact ⟨0, t, rfl, by omega, ⟨rfl⟩, HW⟩
    case round =>
      clear HW
      obtain ⟨i, ys, rfl, hi, HM, HW⟩ := hrel
      by_cases hlt : i < t.length
      · obtain ⟨g, c', e, _, _⟩ := Kd.R_form HW.out.a (by rw [HW.out.yl]; omega)
        rw [HW.out.yl] at e
        cases e
        obtain ⟨d0, f0⟩ := cell_row HW.out.a hlt rfl
        have HP := Aside0.mk (HW.out.put H0.out HAB.out HAC.out i 999)
        have HI := Aside0.mk hlt
        have hlt2 : (i : Int) < (t.length : Int) := by omega
        go_wp2_with fail
        go_roundg (t.length - (i + 1))
        case measure => have := HI.out; have := HM.out; omega
        case rel => exact ⟨i + 1, ys.set i 999, by go_num, by have := HI.out; omega, ⟨rfl⟩, HP⟩
      · obtain rfl : i = t.length := by omega
        go_wp2_with fail
        have hD : decide (t = t) = true := by simp
        refine (same_n Ab t.length cb t Ac t.length cc t _ (HW.out.b.reads.elim fun _ h => h.elim fun _ h => by cases h.1; exact h.2.2) hcb (HW.out.c.reads.elim fun _ h => h.elim fun _ h => by cases h.1; exact h.2.2) hcc).mono ?_
        rintro e w5 ⟨rfl, hd⟩
        rw [hD]
        replace HW := Aside0.mk (HW.out.below hd.below)
        clear hd hD
        have hEE : (er == er) = true := beq_self_eq_true _
        go_wp2_with fail
        go_ret
        exact ⟨rfl, HW.out.l, HW.out.k⟩
  · have e1 : (er' == 0) = false := beq_eq_false_iff_ne.2 hz
    obtain ⟨q1, q2⟩ := HC.out.len.2 (fun h => hz (HER.out.trans h))
    obtain rfl : er' = er := HER.out.trans q1.symm
    have Q2 := Aside0.mk q2
    clear q1 q2
    go_wp2_with fail
    clear e1
    generalize hvc : Value.slice none 0 0 = vc
    have HW : Aside0 (AkSt w0 w w2 la ha lb hb ha ha (.slice Aa t.length ca) (.slice Ab t.length cb) vc t t) :=
      ⟨HA.out.below B2.out, rfl, HBB.out.below B2.out, by rw [Q2.out, ← hvc]; exact Rw.nil _ _ _, below_then HB.out HS.out B2.out, K2.out⟩
    have HAC : Aside0 (ha ≤ ha ∨ ha ≤ la) := ⟨.inl (Nat.le_refl _)⟩
    clear hvc K2 BX2 B2 hz
    obtain ⟨Ac, cc, rfl, hcc, -⟩ := HW.out.c.reads
    have hD : decide (t = t) = true := by simp
    refine (same_n Aa t.length ca t Ac t.length cc t _ (HW.out.a.reads.elim fun _ h => h.elim fun _ h => by cases h.1; exact h.2.2) hca (HW.out.c.reads.elim fun _ h => h.elim fun _ h => by cases h.1; exact h.2.2) hcc).mono ?_
    rintro e w4 ⟨rfl, hd⟩
    rw [hD]
    replace HW := Aside0.mk (HW.out.below hd.below)
    clear hd hD
    go_wp2_with fail
    go_loopg [18] t.length (fun m a wr => ∃ (i : Nat) (ys : List Int), a = .int .i64 i ∧ i ≤ t.length ∧ Aside0 (m = t.length - i) ∧ Aside0 (AkSt w0 w wr la ha lb hb ha ha (.slice Aa t.length ca) (.slice Ab t.length cb) (.slice Ac t.length cc) ys t))
    case atStart => exact ⟨0, t, rfl, by omega, ⟨rfl⟩, HW⟩
    case round =>
      clear HW
      obtain ⟨i, ys, rfl, hi, HM, HW⟩ := hrel
      by_cases hlt : i < t.length
      · obtain ⟨g, c', e, _, _⟩ := Kd.R_form HW.out.a (by rw [HW.out.yl]; omega)
        rw [HW.out.yl] at e
        cases e
        obtain ⟨d0, f0⟩ := cell_row HW.out.a hlt rfl
        have HP := Aside0.mk (HW.out.put H0.out HAB.out HAC.out i 999)
        have HI := Aside0.mk hlt
        have hlt2 : (i : Int) < (t.length : Int) := by omega
        go_wp2_with fail
        go_roundg (t.length - (i + 1))
        case measure => have := HI.out; have := HM.out; omega
        case rel => exact ⟨i + 1, ys.set i 999, by go_num, by have := HI.out; omega, ⟨rfl⟩, HP⟩
      · obtain rfl : i = t.length := by omega
        go_wp2_with fail
        have hD : decide (t = t) = true := by simp
        refine (same_n Ab t.length cb t Ac t.length cc t _ (HW.out.b.reads.elim fun _ h => h.elim fun _ h => by cases h.1; exact h.2.2) hcb (HW.out.c.reads.elim fun _ h => h.elim fun _ h => by cases h.1; exact h.2.2) hcc).mono ?_
        rintro e w5 ⟨rfl, hd⟩
        rw [hD]
        replace HW := Aside0.mk (HW.out.below hd.below)
        clear hd hD
        have hEE : (er' == er') = true := beq_self_eq_true _
        go_wp2_with fail
        go_ret
        exact ⟨rfl, HW.out.l, HW.out.k⟩
end Go.Proofs.Ytadjoaipmcbieaa

/-! Z2 -/
namespace Go.Proofs.Ytadjoaipmcbieaa
open Go.ChangeShapes Go.WideShapes Go.ChangeAt Go.Deep
open Go.RowKit Go.Proofs.YtadjoaipmcbieaaW.PrintWords Go.Proofs.YtadjoaipmcbieaaW.PrintLast Go.Proofs.YtadjoaipmcbieaaW.PrintMore A
/-- What a law's Case leads to. -/
structure C6 (w : World) (A0 : Option Addr) (c0 : Nat) (L : List S89) (A1 : Option Addr) (c1 : Nat) (A : List Int) (A2 : Option Addr) (c2 : Nat) (B : List Int) (A3 : Option Addr) (c3 : Nat) (T : List Int) : Prop where
  l : Kd.C k89 w A0 L.length L
  lc : L.length ≤ c0
  ln : ∀ x ∈ L, x.f0.size ≤ maxLen
  a : Kd.C (Kd.int .i64) w A1 A.length A
  ac : A.length ≤ c1
  al : A.length ≤ 17592186044415
  b : Kd.C (Kd.int .i64) w A2 B.length B
  bc : B.length ≤ c2
  bl : B.length ≤ 17592186044415
  t : Kd.C (Kd.int .i64) w A3 T.length T
  tc : T.length ≤ c3
  tl : T.length ≤ 17592186044415
section
variable {w w' W W' : World} {A0 : Option Addr} {c0 : Nat} {L : List S89} {A1 : Option Addr} {c1 : Nat} {A : List Int} {A2 : Option Addr} {c2 : Nat} {B : List Int} {A3 : Option Addr} {c3 : Nat} {T : List Int}
theorem C6.below (h : C6 w A0 c0 L A1 c1 A A2 c2 B A3 c3 T) (hb : Below w.heap.size w w') : C6 w' A0 c0 L A1 c1 A A2 c2 B A3 c3 T :=
  ⟨Kd.C_below h.l hb, h.lc, h.ln, Kd.C_below h.a hb, h.ac, h.al, Kd.C_below h.b hb, h.bc, h.bl, Kd.C_below h.t hb, h.tc, h.tl⟩
/-- The box, and what its fields lead to. -/
structure H6 (W : World) (b : Nat) (A0 : Option Addr) (c0 : Nat) (L : List S89) (A1 : Option Addr) (c1 : Nat) (A : List Int) (A2 : Option Addr) (c2 : Nat) (B : List Int) (A3 : Option Addr) (c3 : Nat) (T : List Int) : Prop where
  x : W.heap[b]? = some (.cells #[.slice A0 L.length c0, .slice A1 A.length c1, .slice A2 B.length c2, .slice A3 T.length c3] 62 (0, 0))
  i : C6 W A0 c0 L A1 c1 A A2 c2 B A3 c3 T
variable {b g : Nat} {Ar : Option Addr} {M : List S89}
theorem H6.below (h : H6 W b A0 c0 L A1 c1 A A2 c2 B A3 c3 T) (hb : Below W.heap.size W W') : H6 W' b A0 c0 L A1 c1 A A2 c2 B A3 c3 T := ⟨(hb.block _ (blk_lt h.x)).trans h.x, h.i.below hb⟩
theorem H6.cells (h : H6 W b A0 c0 L A1 c1 A A2 c2 B A3 c3 T) : W.cell? ⟨b, 0, none⟩ = some (.slice A0 L.length c0) ∧ W.cell? ⟨b, 1, none⟩ = some (.slice A1 A.length c1) ∧ W.cell? ⟨b, 2, none⟩ = some (.slice A2 B.length c2) ∧ W.cell? ⟨b, 3, none⟩ = some (.slice A3 T.length c3) := by
  have c0 := cell_of_row W b 0 _ _ _ h.x
  have c1 := cell_of_row W b 1 _ _ _ h.x
  have c2 := cell_of_row W b 2 _ _ _ h.x
  have c3 := cell_of_row W b 3 _ _ _ h.x
  exact ⟨c0, c1, c2, c3⟩
theorem H6.new (h : C6 w A0 c0 L A1 c1 A A2 c2 B A3 c3 T) : H6 (w.alloc (.cells #[.slice A0 L.length c0, .slice A1 A.length c1, .slice A2 B.length c2, .slice A3 T.length c3] 62)) w.heap.size A0 c0 L A1 c1 A A2 c2 B A3 c3 T :=
  ⟨heap_alloc_new w _, h.below (below_alloc (Below.refl _ _) _)⟩
/-- Where a law stands: what it has kept, the box, the signature, the document's list of symbols. -/
structure St6 (w W : World) (g : Nat) (Ar : Option Addr) (M : List S89) (A0 : Option Addr) (c0 : Nat) (L : List S89) (A1 : Option Addr) (c1 : Nat) (A : List Int) (A2 : Option Addr) (c2 : Nat) (B : List Int) (A3 : Option Addr) (c3 : Nat) (T : List Int) : Prop where
  b : Below w.heap.size w W
  h : H6 W w.heap.size A0 c0 L A1 c1 A A2 c2 B A3 c3 T
  s : SigC W g M
  r : Kd.C k89 W Ar M.length M
theorem St6.below (h : St6 w W g Ar M A0 c0 L A1 c1 A A2 c2 B A3 c3 T) (hb : Below W.heap.size W W') : St6 w W' g Ar M A0 c0 L A1 c1 A A2 c2 B A3 c3 T :=
  ⟨below_then h.b h.b.size hb, h.h.below hb, h.s.below hb, Kd.C_below h.r hb⟩
end
section
variable {H : Type} {enc : TypeId × Value → H} {w : World} {base : Nat} {spare : Nat → Bool} {held : Bool}
theorem cells62 : Try.prog.cellsOf 62 = 4 := by kernel_rfl
theorem four_of {α : Type} : ∀ {l : List α}, l.length = 4 → ∃ a b c d, l = [a, b, c, d]
  | [a, b, c, d], _ => ⟨a, b, c, d, rfl⟩
set_option maxRecDepth 100000 in
theorem open_case6 {r : Reach} {b0 : Nat} {v : Value} {d : DataW H} {p : List MemPlace} (hv : Value.okWide Try.prog w r b0 62 v) (h : DataW.Trod enc Try.prog w base spare held 62 v d p)
    (hw : ∀ m ∈ d.weights Try.prog 62, m ≤ reachBytes) :
    ∃ (A0 : Option Addr) (c0 : Nat) (L : List S89) (A1 : Option Addr) (c1 : Nat) (A : List Int) (A2 : Option Addr) (c2 : Nat) (B : List Int) (A3 : Option Addr) (c3 : Nat) (T : List Int),
      v = .agg #[.slice A0 L.length c0, .slice A1 A.length c1, .slice A2 B.length c2, .slice A3 T.length c3] ∧ C6 w A0 c0 L A1 c1 A A2 c2 B A3 c3 T := by
  obtain ⟨cs, rfl, hz⟩ := okWide_struct Try.underlying62 hv
  obtain ⟨l⟩ := cs
  rw [cells62] at hz
  obtain ⟨x0, x1, x2, x3, rfl⟩ := four_of (l := l) hz
  obtain ⟨fuel, hf⟩ := h
  obtain ⟨ys, n, _, hx, _, hlen, hg⟩ := DataW.trod_struct Try.underlying62 hf
  obtain ⟨y0, y1, y2, y3, rfl⟩ := four_of (l := ys) hlen
  have h0 : DataW.trod enc Try.prog w base spare held n 23 (List.take (Try.prog.cellsOf 23) [x0, x1, x2, x3]) = some y0 := hg 0 _ rfl
  have h1 : DataW.trod enc Try.prog w base spare held n 25 (List.take (Try.prog.cellsOf 25) [x1, x2, x3]) = some y1 := hg 1 _ rfl
  have h2 : DataW.trod enc Try.prog w base spare held n 25 (List.take (Try.prog.cellsOf 25) [x2, x3]) = some y2 := hg 2 _ rfl
  have h3 : DataW.trod enc Try.prog w base spare held n 25 (List.take (Try.prog.cellsOf 25) [x3]) = some y3 := hg 3 _ rfl
  rw [cells23] at h0
  rw [cells25] at h1 h2 h3
  have hd : d = .agg [y0.1, y1.1, y2.1, y3.1] := congrArg Prod.fst hx
  subst hd
  simp only [DataW.weights, Try.underlying62] at hw
  have hwj : ∀ (j : Nat) (t : TypeId) (e : DataW H), [23, 25, 25, 25][j]? = some t → [y0.1, y1.1, y2.1, y3.1][j]? = some e → ∀ m ∈ e.weights Try.prog t, m ≤ reachBytes := fun j t e ht he m hm => hw m (DataW.weights_mem_each (j := j) ht he m hm)
  obtain ⟨A0, c0, L, rfl, lc, hl, ln⟩ := open_syms h0
  obtain ⟨A1, c1, A, rfl, tc, tl, ht⟩ := open_nums Try.underlying25 h1 (hwj 1 _ _ rfl rfl)
  obtain ⟨A2, c2, B, rfl, uc, ul, hu⟩ := open_nums Try.underlying25 h2 (hwj 2 _ _ rfl rfl)
  obtain ⟨A3, c3, T, rfl, qc, ql, hp⟩ := open_nums Try.underlying25 h3 (hwj 3 _ _ rfl rfl)
  exact ⟨A0, c0, L, A1, c1, A, A2, c2, B, A3, c3, T, rfl, ⟨hl, lc, ln, ht, tc, tl, hu, uc, ul, hp, qc, ql⟩⟩
end
end Go.Proofs.Ytadjoaipmcbieaa

/-! Z3 -/
namespace Go.Proofs.Ytadjoaipmcbieaa
open Go.RowKit Go.Proofs.YtadjoaipmcbieaaW.PrintWords Go.Proofs.YtadjoaipmcbieaaW.PrintLast Go.Proofs.YtadjoaipmcbieaaW.PrintMore A
set_option linter.unusedSimpArgs false
set_option linter.unusedVariables false
theorem ClaR.bad {l : List S89} {A B : List Int} {e : Int} {c : Bool} (h : ClaR l A B e c) (hz : er6 l A B ≠ 0) : e = er6 l A B ∧ c = false := by
  unfold ClaR at h
  unfold er6 at hz ⊢
  by_cases h1 : chk l A = 0
  · rw [if_neg (fun h => h h1)] at h
    rw [if_pos h1] at hz ⊢
    rw [if_pos hz] at h; exact h
  · rw [if_pos h1] at h
    rw [if_neg h1]; exact h
set_option maxRecDepth 100000 in
set_option maxHeartbeats 4000000 in
theorem over_walk {A0 : Option Addr} {c0 : Nat} {L : List S89} {A1 : Option Addr} {c1 : Nat} {A : List Int} {A2 : Option Addr} {c2 : Nat} {B : List Int} {A3 : Option Addr} {c3 : Nat} {T : List Int} (w : World)
    (h : C6 w A0 c0 L A1 c1 A A2 c2 B A3 c3 T) :
    Calls Try.prog 14 #[.agg #[.slice A0 L.length c0, .slice A1 A.length c1, .slice A2 B.length c2, .slice A3 T.length c3]] w fun e w' => e = .returned (.bool true) ∧ Below w.heap.size w w' := by
  have H0 := Aside0.mk (H6.new h)
  have HN := Aside0.mk h
  have HB0 : Aside0 (Below w.heap.size w (w.alloc (.cells #[.slice A0 L.length c0, .slice A1 A.length c1, .slice A2 B.length c2, .slice A3 T.length c3] 62))) := ⟨below_alloc (Below.refl _ _) _⟩
  clear h
  go_enter Try.func14, Try.ntmps14
  go_wp2_with fail
  generalize w.alloc (.cells #[.slice A0 L.length c0, .slice A1 A.length c1, .slice A2 B.length c2, .slice A3 T.length c3] 62) = w1 at *
  refine (awake06 _).mono ?_
  rintro e w2 ⟨rfl, hb2⟩
  have B2 := Aside0.mk (below_then HB0.out HB0.out.size hb2)
  have H2 := Aside0.mk (H0.out.below hb2)
  clear hb2 H0 HB0
  obtain ⟨k0, k1, k2, k3⟩ := H2.out.cells
  go_wp2_with fail
  clear k0 k1 k2 k3
  refine (made_any A0 c0 L _ H2.out.i.l HN.out.ln).mono ?_
  rintro e w3 ⟨g, v, rfl, hs, hr, hb3⟩
  obtain ⟨Ar, cr, rfl, hcr, hC⟩ := Kd.R_reads hr
  have GD := Aside0.mk (made_good L)
  have S3 : Aside0 (St6 w w3 g Ar (madeL L) A0 c0 L A1 c1 A A2 c2 B A3 c3 T) := ⟨⟨below_then B2.out B2.out.size hb3, H2.out.below hb3, hs, hC⟩⟩
  have S := S3
  have HCR := Aside0.mk hcr
  clear hs hr hb3 hC H2 B2 hcr
  generalize madeL L = M at *
  obtain ⟨k0, k1, k2, k3⟩ := S.out.h.cells
  go_wp2_with fail
  clear k0 k1 k2 k3
  refine (Overlap_any (sg := g) (l := M) (ta := A) (tb := B) (A := A1) (B := A2) (ca := c1) (cb := c2) w3 S.out.s GD.out S.out.h.i.a S.out.h.i.b).mono ?_
  rintro e w4 ⟨v4, er, t, rfl, hc4, hr4, hb4⟩
  have C4 := Aside0.mk hc4
  have R4 := Aside0.mk (Rw.mk hr4)
  have B4 : Aside0 (Below w3.heap.size w3 w4) := ⟨hb4⟩
  replace S := Aside0.mk (S3.out.below B4.out)
  clear hc4 hr4 hb4
  obtain ⟨k0, k1, k2, k3⟩ := S.out.h.cells
  go_wp2_with fail
  clear k0 k1 k2 k3
  refine (Overlap_any (sg := g) (l := M) (ta := A) (tb := B) (A := A1) (B := A2) (ca := c1) (cb := c2) w4 S.out.s GD.out S.out.h.i.a S.out.h.i.b).mono ?_
  rintro e w5 ⟨v5, er5, t5, rfl, hc5, hr5, hb5⟩
  obtain ⟨rfl, rfl⟩ := C4.out.det hc5
  have R5 := Aside0.mk (Rw.mk hr5)
  have Z5 : Aside0 (w3.heap.size ≤ w4.heap.size) := ⟨B4.out.size⟩
  replace R4 := Aside0.mk (R4.out.below hb5)
  have B5 := Aside0.mk (below_then B4.out B4.out.size hb5)
  have Z6 : Aside0 (w4.heap.size ≤ w5.heap.size) := ⟨hb5.size⟩
  replace S := Aside0.mk (S3.out.below B5.out)
  clear hc5 hr5 hb5 B4
  go_wp2_with (refine wpList_load_row rfl 62 (.tmp 1) rfl w.heap.size rfl 62 _ (0, 0) _ S.out.h.x Try.underlying62 rfl rfl ?_)
  refine (asked_ok (w0 := w3) (w := w5) (M := M) (Ar := Ar) (cr := cr) (t := t) (er := er) (la := w3.heap.size) (ha := w4.heap.size) (lb := w4.heap.size) (hb := w5.heap.size) B5.out (Nat.le_refl _) R4.out R5.out (.inl (Nat.le_refl _)) Z6.out C4.out S.out.r HCR.out GD.out S.out.h.i.a S.out.h.i.ac S.out.h.i.b S.out.h.i.bc).mono ?_
  rintro e w6 ⟨rfl, hb6, hk6⟩
  replace S := Aside0.mk (S3.out.below hb6)
  clear hb6 hk6 R4 R5 B5 Z5 Z6
  obtain ⟨k0, k1, k2, k3⟩ := S.out.h.cells
  go_wp2_with fail
  clear k0 k1 k2 k3
  refine (refCheck6_any Ar cr M A1 A2 c1 c2 A B w6 S.out.r HCR.out GD.out S.out.h.i.a S.out.h.i.ac S.out.h.i.b S.out.h.i.bc).mono ?_
  rintro e w7 ⟨rfl, hd⟩
  replace S := Aside0.mk (S.out.below hd.below)
  clear hd
  obtain ⟨k0, k1, k2, k3⟩ := S.out.h.cells
  obtain ⟨er', her⟩ : ∃ e, e = er6 M A B := ⟨_, rfl⟩
  rw [← her]
  have HER := Aside0.mk her
  clear her
  by_cases hz : er' = 0
  · have e1 : (er' == 0) = true := beq_iff_eq.2 hz
    have Q := Aside0.mk (er6_zero.1 (HER.out.symm.trans hz))
    have HZ := Aside0.mk hz
    clear hz
    go_wp2_with fail
    clear k0 k1 k2 k3
    refine (RClash_ok Ar cr M A1 A2 c1 c2 A B w7 S.out.r HCR.out GD.out S.out.h.i.a S.out.h.i.b S.out.h.i.ac S.out.h.i.bc Q.out.1 Q.out.2).mono ?_
    rintro e w8 ⟨cl, rfl, hcl, hb8⟩
    replace S := Aside0.mk (S.out.below hb8)
    have CL := Aside0.mk hcl
    clear hcl hb8
    obtain ⟨k0, k1, k2, k3⟩ := S.out.h.cells
    go_wp2_with fail
    clear k0 k1 k2 k3
    refine (Clash_any (sg := g) (l := M) (ta := A) (tb := B) (A := A1) (B := A2) (ca := c1) (cb := c2) w8 S.out.s GD.out S.out.h.i.a S.out.h.i.b).mono ?_
    rintro e w9 ⟨er4, cl4, rfl, hcl, hb9⟩
    obtain ⟨rfl, rfl⟩ := CL.out.det hcl
    replace S := Aside0.mk (S.out.below hb9)
    clear hcl hb9
    have e2 : (cl == cl) = true := beq_self_eq_true _
    have e3 : ((0 : Int) == er') = true := beq_iff_eq.2 HZ.out.symm
    go_wp2_with fail
    go_ret
    exact ⟨rfl, S.out.b⟩
  · have e1 : (er' == 0) = false := beq_eq_false_iff_ne.2 hz
    have HZ := Aside0.mk hz
    clear hz
    go_wp2_with fail
    clear k0 k1 k2 k3
    refine (Clash_any (sg := g) (l := M) (ta := A) (tb := B) (A := A1) (B := A2) (ca := c1) (cb := c2) w7 S.out.s GD.out S.out.h.i.a S.out.h.i.b).mono ?_
    rintro e w9 ⟨er4, cl4, rfl, hcl, hb9⟩
    obtain ⟨q1, rfl⟩ := hcl.bad (fun h => HZ.out (HER.out.trans h))
    obtain rfl : er' = er4 := HER.out.trans q1.symm
    replace S := Aside0.mk (S.out.below hb9)
    clear hcl hb9 q1
    have e2 : (er' == er') = true := beq_self_eq_true _
    go_wp2_with fail
    go_ret
    exact ⟨rfl, S.out.b⟩
end Go.Proofs.Ytadjoaipmcbieaa
