/-
  No cell of these rows narrows 'for every input' (looked for: loops, veiled, ifaces, maps, wideKeys, modest, calm, conditions, laid).
  DERIVED. THE GIVEN ROWS OF THIS SEAT. 22 by the template 'for every input the law returns true; each argument reads behind the call as it read before'; 0 by the template 'total and deterministic' (their statements: YtadjoaipmcbieaaTotals.lean).
  GIVEN WITH THE SEED: the statements are not yours to turn. If you find one false, say at which input.
  Laid BY PROGRAM, IN A SANDBOX (cutbox-rows.mjs): the forced cells as the released guide's own fill.sh prints them over the translation 16210cf557add426… (all of the seat's roots in one cut). By AI agents, Wed Nov 11 2026. No macro, syntax, notation, axiom, sorry.
-/
import Derived.Test.YtadjoaipmcbieaaChecked
import GoSem.Claim
import GoSem.ClaimJoined
import GoSem.ClaimMapViews
import Derived.JoinedTies
import Derived.KernelRfl
namespace Go.Proofs.Ytadjoaipmcbieaa
/- THE CELL 'sum', in the pinned program and in every row, IS THE sha256 OF THE DUMP (.gsa) THAT YtadjoaipmcbieaaProg.lean LOADS. Nothing in Lean hashes anything: it is a label: what it is worth is what the hold of that sum in a sandbox is worth. -/
noncomputable def Try.pinned : Pinned := { name := "ytadjoaipmcbieaa", sum := "16210cf557add426c618b0273a587ffbba32fe4c1ef4b43772931eab30debc8b", checked := Try.checked }
namespace Rows
def none {H : Type} : Left H := { results := [], args := [] }

/-- 'ropewalklaw02.TermNames': WHATEVER THE INPUT: true; the input reads as it did. -/
def termNamesSpec : ChangeSpec := { name := "termNames", fn := fun _ => fun
  | [] => { results := [.lit (.bool true)], args := [] }
  | _ => none }
def termNamesRow : OpenClaim := { program := "ytadjoaipmcbieaa", sum := "16210cf557add426c618b0273a587ffbba32fe4c1ef4b43772931eab30debc8b", func := "ropewalk/ropewalklaw02.TermNames", spec := "termNames", apart := false }
def TermNamesSaid : Prop := termNamesRow.holds Try.pinned (OpenSpec.ofChange termNamesSpec)

/-- ITS FALSE NEIGHBOUR: 'it returns false'. Refute it at one input. -/
def termNamesWrong : ChangeSpec := { name := "termNames", fn := fun _ => fun
  | [] => { results := [.lit (.bool false)], args := [] }
  | _ => none }
def TermNamesWrongFalsely : Prop := termNamesRow.holds Try.pinned (OpenSpec.ofChange termNamesWrong)

/-- 'ropewalklaw02.TermPuts': WHATEVER THE INPUT: true; the input reads as it did. -/
def termPutsSpec : ChangeSpec := { name := "termPuts", fn := fun _ => fun
  | [d] => { results := [.lit (.bool true)], args := [d] }
  | _ => none }
def termPutsRow : OpenClaim := { program := "ytadjoaipmcbieaa", sum := "16210cf557add426c618b0273a587ffbba32fe4c1ef4b43772931eab30debc8b", func := "ropewalk/ropewalklaw02.TermPuts", spec := "termPuts", apart := false }
def TermPutsSaid : Prop := termPutsRow.holds Try.pinned (OpenSpec.ofChange termPutsSpec)

/-- ITS FALSE NEIGHBOUR: 'it returns false'. Refute it at one input. -/
def termPutsWrong : ChangeSpec := { name := "termPuts", fn := fun _ => fun
  | [d] => { results := [.lit (.bool false)], args := [d] }
  | _ => none }
def TermPutsWrongFalsely : Prop := termPutsRow.holds Try.pinned (OpenSpec.ofChange termPutsWrong)

/-- 'ropewalklaw02.TermLeads': WHATEVER THE INPUT: true; the input reads as it did. -/
def termLeadsSpec : ChangeSpec := { name := "termLeads", fn := fun _ => fun
  | [d] => { results := [.lit (.bool true)], args := [d] }
  | _ => none }
def termLeadsRow : OpenClaim := { program := "ytadjoaipmcbieaa", sum := "16210cf557add426c618b0273a587ffbba32fe4c1ef4b43772931eab30debc8b", func := "ropewalk/ropewalklaw02.TermLeads", spec := "termLeads", apart := false }
def TermLeadsSaid : Prop := termLeadsRow.holds Try.pinned (OpenSpec.ofChange termLeadsSpec)

/-- ITS FALSE NEIGHBOUR: 'it returns false'. Refute it at one input. -/
def termLeadsWrong : ChangeSpec := { name := "termLeads", fn := fun _ => fun
  | [d] => { results := [.lit (.bool false)], args := [d] }
  | _ => none }
def TermLeadsWrongFalsely : Prop := termLeadsRow.holds Try.pinned (OpenSpec.ofChange termLeadsWrong)

/-- 'ropewalklaw02.TermTiles': WHATEVER THE INPUT: true; the input reads as it did. -/
def termTilesSpec : ChangeSpec := { name := "termTiles", fn := fun _ => fun
  | [d] => { results := [.lit (.bool true)], args := [d] }
  | _ => none }
def termTilesRow : OpenClaim := { program := "ytadjoaipmcbieaa", sum := "16210cf557add426c618b0273a587ffbba32fe4c1ef4b43772931eab30debc8b", func := "ropewalk/ropewalklaw02.TermTiles", spec := "termTiles", apart := false }
def TermTilesSaid : Prop := termTilesRow.holds Try.pinned (OpenSpec.ofChange termTilesSpec)

/-- ITS FALSE NEIGHBOUR: 'it returns false'. Refute it at one input. -/
def termTilesWrong : ChangeSpec := { name := "termTiles", fn := fun _ => fun
  | [d] => { results := [.lit (.bool false)], args := [d] }
  | _ => none }
def TermTilesWrongFalsely : Prop := termTilesRow.holds Try.pinned (OpenSpec.ofChange termTilesWrong)

/-- 'ropewalklaw02.TermChecks': WHATEVER THE INPUT: true; the input reads as it did. -/
def termChecksSpec : ChangeSpec := { name := "termChecks", fn := fun _ => fun
  | [d] => { results := [.lit (.bool true)], args := [d] }
  | _ => none }
def termChecksRow : OpenClaim := { program := "ytadjoaipmcbieaa", sum := "16210cf557add426c618b0273a587ffbba32fe4c1ef4b43772931eab30debc8b", func := "ropewalk/ropewalklaw02.TermChecks", spec := "termChecks", recurses := true, apart := false }
def TermChecksSaid : Prop := termChecksRow.holds Try.pinned (OpenSpec.ofChange termChecksSpec)

/-- ITS FALSE NEIGHBOUR: 'it returns false'. Refute it at one input. -/
def termChecksWrong : ChangeSpec := { name := "termChecks", fn := fun _ => fun
  | [d] => { results := [.lit (.bool false)], args := [d] }
  | _ => none }
def TermChecksWrongFalsely : Prop := termChecksRow.holds Try.pinned (OpenSpec.ofChange termChecksWrong)

/-- 'ropewalklaw02.TermBack': WHATEVER THE INPUT: true; the input reads as it did. -/
def termBackSpec : ChangeSpec := { name := "termBack", fn := fun _ => fun
  | [d] => { results := [.lit (.bool true)], args := [d] }
  | _ => none }
def termBackRow : OpenClaim := { program := "ytadjoaipmcbieaa", sum := "16210cf557add426c618b0273a587ffbba32fe4c1ef4b43772931eab30debc8b", func := "ropewalk/ropewalklaw02.TermBack", spec := "termBack", apart := false }
def TermBackSaid : Prop := termBackRow.holds Try.pinned (OpenSpec.ofChange termBackSpec)

/-- ITS FALSE NEIGHBOUR: 'it returns false'. Refute it at one input. -/
def termBackWrong : ChangeSpec := { name := "termBack", fn := fun _ => fun
  | [d] => { results := [.lit (.bool false)], args := [d] }
  | _ => none }
def TermBackWrongFalsely : Prop := termBackRow.holds Try.pinned (OpenSpec.ofChange termBackWrong)

/-- 'ropewalklaw02.TermCuts': WHATEVER THE INPUT: true; the input reads as it did. -/
def termCutsSpec : ChangeSpec := { name := "termCuts", fn := fun _ => fun
  | [d] => { results := [.lit (.bool true)], args := [d] }
  | _ => none }
def termCutsRow : OpenClaim := { program := "ytadjoaipmcbieaa", sum := "16210cf557add426c618b0273a587ffbba32fe4c1ef4b43772931eab30debc8b", func := "ropewalk/ropewalklaw02.TermCuts", spec := "termCuts", apart := false }
def TermCutsSaid : Prop := termCutsRow.holds Try.pinned (OpenSpec.ofChange termCutsSpec)

/-- ITS FALSE NEIGHBOUR: 'it returns false'. Refute it at one input. -/
def termCutsWrong : ChangeSpec := { name := "termCuts", fn := fun _ => fun
  | [d] => { results := [.lit (.bool false)], args := [d] }
  | _ => none }
def TermCutsWrongFalsely : Prop := termCutsRow.holds Try.pinned (OpenSpec.ofChange termCutsWrong)

/-- 'ropewalklaw02.TermPlains': WHATEVER THE INPUT: true; the input reads as it did. -/
def termPlainsSpec : ChangeSpec := { name := "termPlains", fn := fun _ => fun
  | [d] => { results := [.lit (.bool true)], args := [d] }
  | _ => none }
def termPlainsRow : OpenClaim := { program := "ytadjoaipmcbieaa", sum := "16210cf557add426c618b0273a587ffbba32fe4c1ef4b43772931eab30debc8b", func := "ropewalk/ropewalklaw02.TermPlains", spec := "termPlains", apart := false }
def TermPlainsSaid : Prop := termPlainsRow.holds Try.pinned (OpenSpec.ofChange termPlainsSpec)

/-- ITS FALSE NEIGHBOUR: 'it returns false'. Refute it at one input. -/
def termPlainsWrong : ChangeSpec := { name := "termPlains", fn := fun _ => fun
  | [d] => { results := [.lit (.bool false)], args := [d] }
  | _ => none }
def TermPlainsWrongFalsely : Prop := termPlainsRow.holds Try.pinned (OpenSpec.ofChange termPlainsWrong)

/-- 'ropewalklaw02.TermNil': WHATEVER THE INPUT: true; the input reads as it did. -/
def termNilSpec : ChangeSpec := { name := "termNil", fn := fun _ => fun
  | [d1, d2] => { results := [.lit (.bool true)], args := [d1, d2] }
  | _ => none }
def termNilRow : OpenClaim := { program := "ytadjoaipmcbieaa", sum := "16210cf557add426c618b0273a587ffbba32fe4c1ef4b43772931eab30debc8b", func := "ropewalk/ropewalklaw02.TermNil", spec := "termNil", recurses := true, apart := false }
def TermNilSaid : Prop := termNilRow.holds Try.pinned (OpenSpec.ofChange termNilSpec)

/-- ITS FALSE NEIGHBOUR: 'it returns false'. Refute it at one input. -/
def termNilWrong : ChangeSpec := { name := "termNil", fn := fun _ => fun
  | [d1, d2] => { results := [.lit (.bool false)], args := [d1, d2] }
  | _ => none }
def TermNilWrongFalsely : Prop := termNilRow.holds Try.pinned (OpenSpec.ofChange termNilWrong)

/-- 'ropewalklaw06.UnifyNames': WHATEVER THE INPUT: true; the input reads as it did. -/
def unifyNamesSpec : ChangeSpec := { name := "unifyNames", fn := fun _ => fun
  | [] => { results := [.lit (.bool true)], args := [] }
  | _ => none }
def unifyNamesRow : OpenClaim := { program := "ytadjoaipmcbieaa", sum := "16210cf557add426c618b0273a587ffbba32fe4c1ef4b43772931eab30debc8b", func := "ropewalk/ropewalklaw06.UnifyNames", spec := "unifyNames", recurses := true, apart := false }
def UnifyNamesSaid : Prop := unifyNamesRow.holds Try.pinned (OpenSpec.ofChange unifyNamesSpec)

/-- ITS FALSE NEIGHBOUR: 'it returns false'. Refute it at one input. -/
def unifyNamesWrong : ChangeSpec := { name := "unifyNames", fn := fun _ => fun
  | [] => { results := [.lit (.bool false)], args := [] }
  | _ => none }
def UnifyNamesWrongFalsely : Prop := unifyNamesRow.holds Try.pinned (OpenSpec.ofChange unifyNamesWrong)

/-- 'ropewalklaw06.UnifyTells': WHATEVER THE INPUT: true; the input reads as it did. -/
def unifyTellsSpec : ChangeSpec := { name := "unifyTells", fn := fun _ => fun
  | [d] => { results := [.lit (.bool true)], args := [d] }
  | _ => none }
def unifyTellsRow : OpenClaim := { program := "ytadjoaipmcbieaa", sum := "16210cf557add426c618b0273a587ffbba32fe4c1ef4b43772931eab30debc8b", func := "ropewalk/ropewalklaw06.UnifyTells", spec := "unifyTells", recurses := true, apart := false }
def UnifyTellsSaid : Prop := unifyTellsRow.holds Try.pinned (OpenSpec.ofChange unifyTellsSpec)

/-- ITS FALSE NEIGHBOUR: 'it returns false'. Refute it at one input. -/
def unifyTellsWrong : ChangeSpec := { name := "unifyTells", fn := fun _ => fun
  | [d] => { results := [.lit (.bool false)], args := [d] }
  | _ => none }
def UnifyTellsWrongFalsely : Prop := unifyTellsRow.holds Try.pinned (OpenSpec.ofChange unifyTellsWrong)

/-- 'ropewalklaw06.UnifyOverlaps': WHATEVER THE INPUT: true; the input reads as it did. -/
def unifyOverlapsSpec : ChangeSpec := { name := "unifyOverlaps", fn := fun _ => fun
  | [d] => { results := [.lit (.bool true)], args := [d] }
  | _ => none }
def unifyOverlapsRow : OpenClaim := { program := "ytadjoaipmcbieaa", sum := "16210cf557add426c618b0273a587ffbba32fe4c1ef4b43772931eab30debc8b", func := "ropewalk/ropewalklaw06.UnifyOverlaps", spec := "unifyOverlaps", recurses := true, apart := false }
def UnifyOverlapsSaid : Prop := unifyOverlapsRow.holds Try.pinned (OpenSpec.ofChange unifyOverlapsSpec)

/-- ITS FALSE NEIGHBOUR: 'it returns false'. Refute it at one input. -/
def unifyOverlapsWrong : ChangeSpec := { name := "unifyOverlaps", fn := fun _ => fun
  | [d] => { results := [.lit (.bool false)], args := [d] }
  | _ => none }
def UnifyOverlapsWrongFalsely : Prop := unifyOverlapsRow.holds Try.pinned (OpenSpec.ofChange unifyOverlapsWrong)

/-- 'ropewalklaw06.UnifyInstance': WHATEVER THE INPUT: true; the input reads as it did. -/
def unifyInstanceSpec : ChangeSpec := { name := "unifyInstance", fn := fun _ => fun
  | [d] => { results := [.lit (.bool true)], args := [d] }
  | _ => none }
def unifyInstanceRow : OpenClaim := { program := "ytadjoaipmcbieaa", sum := "16210cf557add426c618b0273a587ffbba32fe4c1ef4b43772931eab30debc8b", func := "ropewalk/ropewalklaw06.UnifyInstance", spec := "unifyInstance", recurses := true, apart := false }
def UnifyInstanceSaid : Prop := unifyInstanceRow.holds Try.pinned (OpenSpec.ofChange unifyInstanceSpec)

/-- ITS FALSE NEIGHBOUR: 'it returns false'. Refute it at one input. -/
def unifyInstanceWrong : ChangeSpec := { name := "unifyInstance", fn := fun _ => fun
  | [d] => { results := [.lit (.bool false)], args := [d] }
  | _ => none }
def UnifyInstanceWrongFalsely : Prop := unifyInstanceRow.holds Try.pinned (OpenSpec.ofChange unifyInstanceWrong)

/-- 'ropewalklaw06.UnifySelf': WHATEVER THE INPUT: true; the input reads as it did. -/
def unifySelfSpec : ChangeSpec := { name := "unifySelf", fn := fun _ => fun
  | [d] => { results := [.lit (.bool true)], args := [d] }
  | _ => none }
def unifySelfRow : OpenClaim := { program := "ytadjoaipmcbieaa", sum := "16210cf557add426c618b0273a587ffbba32fe4c1ef4b43772931eab30debc8b", func := "ropewalk/ropewalklaw06.UnifySelf", spec := "unifySelf", recurses := true, apart := false }
def UnifySelfSaid : Prop := unifySelfRow.holds Try.pinned (OpenSpec.ofChange unifySelfSpec)

/-- ITS FALSE NEIGHBOUR: 'it returns false'. Refute it at one input. -/
def unifySelfWrong : ChangeSpec := { name := "unifySelf", fn := fun _ => fun
  | [d] => { results := [.lit (.bool false)], args := [d] }
  | _ => none }
def UnifySelfWrongFalsely : Prop := unifySelfRow.holds Try.pinned (OpenSpec.ofChange unifySelfWrong)

/-- 'ropewalklaw06.UnifyNil': WHATEVER THE INPUT: true; the input reads as it did. -/
def unifyNilSpec : ChangeSpec := { name := "unifyNil", fn := fun _ => fun
  | [d] => { results := [.lit (.bool true)], args := [d] }
  | _ => none }
def unifyNilRow : OpenClaim := { program := "ytadjoaipmcbieaa", sum := "16210cf557add426c618b0273a587ffbba32fe4c1ef4b43772931eab30debc8b", func := "ropewalk/ropewalklaw06.UnifyNil", spec := "unifyNil", recurses := true, apart := false }
def UnifyNilSaid : Prop := unifyNilRow.holds Try.pinned (OpenSpec.ofChange unifyNilSpec)

/-- ITS FALSE NEIGHBOUR: 'it returns false'. Refute it at one input. -/
def unifyNilWrong : ChangeSpec := { name := "unifyNil", fn := fun _ => fun
  | [d] => { results := [.lit (.bool false)], args := [d] }
  | _ => none }
def UnifyNilWrongFalsely : Prop := unifyNilRow.holds Try.pinned (OpenSpec.ofChange unifyNilWrong)

/-- 'ropewalklaw05.MatchNames': WHATEVER THE INPUT: true; the input reads as it did. -/
def matchNamesSpec : ChangeSpec := { name := "matchNames", fn := fun _ => fun
  | [] => { results := [.lit (.bool true)], args := [] }
  | _ => none }
def matchNamesRow : OpenClaim := { program := "ytadjoaipmcbieaa", sum := "16210cf557add426c618b0273a587ffbba32fe4c1ef4b43772931eab30debc8b", func := "ropewalk/ropewalklaw05.MatchNames", spec := "matchNames", unfollowed := true, recurses := true, apart := false }
def MatchNamesSaid : Prop := matchNamesRow.holds Try.pinned (OpenSpec.ofChange matchNamesSpec)

/-- ITS FALSE NEIGHBOUR: 'it returns false'. Refute it at one input. -/
def matchNamesWrong : ChangeSpec := { name := "matchNames", fn := fun _ => fun
  | [] => { results := [.lit (.bool false)], args := [] }
  | _ => none }
def MatchNamesWrongFalsely : Prop := matchNamesRow.holds Try.pinned (OpenSpec.ofChange matchNamesWrong)

/-- 'ropewalklaw05.MatchFits': WHATEVER THE INPUT: true; the input reads as it did. -/
def matchFitsSpec : ChangeSpec := { name := "matchFits", fn := fun _ => fun
  | [d] => { results := [.lit (.bool true)], args := [d] }
  | _ => none }
def matchFitsRow : OpenClaim := { program := "ytadjoaipmcbieaa", sum := "16210cf557add426c618b0273a587ffbba32fe4c1ef4b43772931eab30debc8b", func := "ropewalk/ropewalklaw05.MatchFits", spec := "matchFits", unfollowed := true, recurses := true, apart := false }
def MatchFitsSaid : Prop := matchFitsRow.holds Try.pinned (OpenSpec.ofChange matchFitsSpec)

/-- ITS FALSE NEIGHBOUR: 'it returns false'. Refute it at one input. -/
def matchFitsWrong : ChangeSpec := { name := "matchFits", fn := fun _ => fun
  | [d] => { results := [.lit (.bool false)], args := [d] }
  | _ => none }
def MatchFitsWrongFalsely : Prop := matchFitsRow.holds Try.pinned (OpenSpec.ofChange matchFitsWrong)

/-- 'ropewalklaw05.MatchApplies': WHATEVER THE INPUT: true; the input reads as it did. -/
def matchAppliesSpec : ChangeSpec := { name := "matchApplies", fn := fun _ => fun
  | [d] => { results := [.lit (.bool true)], args := [d] }
  | _ => none }
def matchAppliesRow : OpenClaim := { program := "ytadjoaipmcbieaa", sum := "16210cf557add426c618b0273a587ffbba32fe4c1ef4b43772931eab30debc8b", func := "ropewalk/ropewalklaw05.MatchApplies", spec := "matchApplies", unfollowed := true, recurses := true, apart := false }
def MatchAppliesSaid : Prop := matchAppliesRow.holds Try.pinned (OpenSpec.ofChange matchAppliesSpec)

/-- ITS FALSE NEIGHBOUR: 'it returns false'. Refute it at one input. -/
def matchAppliesWrong : ChangeSpec := { name := "matchApplies", fn := fun _ => fun
  | [d] => { results := [.lit (.bool false)], args := [d] }
  | _ => none }
def MatchAppliesWrongFalsely : Prop := matchAppliesRow.holds Try.pinned (OpenSpec.ofChange matchAppliesWrong)

/-- 'ropewalklaw05.MatchAlike': WHATEVER THE INPUT: true; the input reads as it did. -/
def matchAlikeSpec : ChangeSpec := { name := "matchAlike", fn := fun _ => fun
  | [d] => { results := [.lit (.bool true)], args := [d] }
  | _ => none }
def matchAlikeRow : OpenClaim := { program := "ytadjoaipmcbieaa", sum := "16210cf557add426c618b0273a587ffbba32fe4c1ef4b43772931eab30debc8b", func := "ropewalk/ropewalklaw05.MatchAlike", spec := "matchAlike", unfollowed := true, recurses := true, apart := false }
def MatchAlikeSaid : Prop := matchAlikeRow.holds Try.pinned (OpenSpec.ofChange matchAlikeSpec)

/-- ITS FALSE NEIGHBOUR: 'it returns false'. Refute it at one input. -/
def matchAlikeWrong : ChangeSpec := { name := "matchAlike", fn := fun _ => fun
  | [d] => { results := [.lit (.bool false)], args := [d] }
  | _ => none }
def MatchAlikeWrongFalsely : Prop := matchAlikeRow.holds Try.pinned (OpenSpec.ofChange matchAlikeWrong)

/-- 'ropewalklaw05.MatchBack': WHATEVER THE INPUT: true; the input reads as it did. -/
def matchBackSpec : ChangeSpec := { name := "matchBack", fn := fun _ => fun
  | [d] => { results := [.lit (.bool true)], args := [d] }
  | _ => none }
def matchBackRow : OpenClaim := { program := "ytadjoaipmcbieaa", sum := "16210cf557add426c618b0273a587ffbba32fe4c1ef4b43772931eab30debc8b", func := "ropewalk/ropewalklaw05.MatchBack", spec := "matchBack", unfollowed := true, recurses := true, apart := false }
def MatchBackSaid : Prop := matchBackRow.holds Try.pinned (OpenSpec.ofChange matchBackSpec)

/-- ITS FALSE NEIGHBOUR: 'it returns false'. Refute it at one input. -/
def matchBackWrong : ChangeSpec := { name := "matchBack", fn := fun _ => fun
  | [d] => { results := [.lit (.bool false)], args := [d] }
  | _ => none }
def MatchBackWrongFalsely : Prop := matchBackRow.holds Try.pinned (OpenSpec.ofChange matchBackWrong)

/-- 'ropewalklaw05.MatchInstance': WHATEVER THE INPUT: true; the input reads as it did. -/
def matchInstanceSpec : ChangeSpec := { name := "matchInstance", fn := fun _ => fun
  | [d] => { results := [.lit (.bool true)], args := [d] }
  | _ => none }
def matchInstanceRow : OpenClaim := { program := "ytadjoaipmcbieaa", sum := "16210cf557add426c618b0273a587ffbba32fe4c1ef4b43772931eab30debc8b", func := "ropewalk/ropewalklaw05.MatchInstance", spec := "matchInstance", unfollowed := true, recurses := true, apart := false }
def MatchInstanceSaid : Prop := matchInstanceRow.holds Try.pinned (OpenSpec.ofChange matchInstanceSpec)

/-- ITS FALSE NEIGHBOUR: 'it returns false'. Refute it at one input. -/
def matchInstanceWrong : ChangeSpec := { name := "matchInstance", fn := fun _ => fun
  | [d] => { results := [.lit (.bool false)], args := [d] }
  | _ => none }
def MatchInstanceWrongFalsely : Prop := matchInstanceRow.holds Try.pinned (OpenSpec.ofChange matchInstanceWrong)

/-- 'ropewalklaw05.MatchNil': WHATEVER THE INPUT: true; the input reads as it did. -/
def matchNilSpec : ChangeSpec := { name := "matchNil", fn := fun _ => fun
  | [d1, d2] => { results := [.lit (.bool true)], args := [d1, d2] }
  | _ => none }
def matchNilRow : OpenClaim := { program := "ytadjoaipmcbieaa", sum := "16210cf557add426c618b0273a587ffbba32fe4c1ef4b43772931eab30debc8b", func := "ropewalk/ropewalklaw05.MatchNil", spec := "matchNil", unfollowed := true, recurses := true, apart := false }
def MatchNilSaid : Prop := matchNilRow.holds Try.pinned (OpenSpec.ofChange matchNilSpec)

/-- ITS FALSE NEIGHBOUR: 'it returns false'. Refute it at one input. -/
def matchNilWrong : ChangeSpec := { name := "matchNil", fn := fun _ => fun
  | [d1, d2] => { results := [.lit (.bool false)], args := [d1, d2] }
  | _ => none }
def MatchNilWrongFalsely : Prop := matchNilRow.holds Try.pinned (OpenSpec.ofChange matchNilWrong)

/- THE SECOND FORM. 'bulk': how many values and letters a reading holds, each counted each time it is reached (what is shared counts as often as it is met; a slice's spare places count too). A statement '..UptoSaid' is the law's where the arguments, and the package variables that the reading takes, are together of bulk at most 1048576: NARROWER than '..Said'. Prove '..Said' where nothing that the law and all that it calls make is longer than what came in: it says more and counts as full. Else prove '..UptoSaid'. A law counts once. -/
mutual
def uptoBulk {H : Type} : DataW H → Nat
  | .lit (.string bytes) => bytes.length + 1
  | .lit _ => 1
  | .nil => 1
  | .ptr d => uptoBulk d + 1
  | .slice elems spare => uptoBulkAll elems + uptoBulkAll spare + 1
  | .agg parts => uptoBulkAll parts + 1
  | .iface _ d => uptoBulk d + 1
  | .map entries => uptoBulkEntries entries + 1
  | .held _ => 1
def uptoBulkAll {H : Type} : List (DataW H) → Nat
  | [] => 0
  | d :: r => uptoBulk d + uptoBulkAll r
def uptoBulkEntries {H : Type} : List (Lit × DataW H) → Nat
  | [] => 0
  | x :: r => uptoBulkEntry x + uptoBulkEntries r
def uptoBulkEntry {H : Type} : Lit × DataW H → Nat
  | (.string bytes, d) => bytes.length + uptoBulk d + 1
  | (_, d) => uptoBulk d + 1
 end
def uptoSmall : (H : Type) → List (DataW H) → Bool := fun _ ds => decide (uptoBulkAll ds ≤ 1048576)
def OpenSpec.upto (s : _root_.Go.ChangeSpec) : _root_.Go.OpenSpec := { _root_.Go.OpenSpec.ofChange s with cond := some uptoSmall }

/-- 'ropewalklaw02.TermNames', WHERE WHAT IT READS IS OF BULK AT MOST 1048576: true; the input reads as it did. -/
def termNamesUptoRow : OpenClaim := { program := "ytadjoaipmcbieaa", sum := "16210cf557add426c618b0273a587ffbba32fe4c1ef4b43772931eab30debc8b", func := "ropewalk/ropewalklaw02.TermNames", spec := "termNames", apart := false, narrowed := true }
def TermNamesUptoSaid : Prop := termNamesUptoRow.holds Try.pinned (OpenSpec.upto termNamesSpec)

/-- 'ropewalklaw02.TermPuts', WHERE WHAT IT READS IS OF BULK AT MOST 1048576: true; the input reads as it did. -/
def termPutsUptoRow : OpenClaim := { program := "ytadjoaipmcbieaa", sum := "16210cf557add426c618b0273a587ffbba32fe4c1ef4b43772931eab30debc8b", func := "ropewalk/ropewalklaw02.TermPuts", spec := "termPuts", apart := false, narrowed := true }
def TermPutsUptoSaid : Prop := termPutsUptoRow.holds Try.pinned (OpenSpec.upto termPutsSpec)

/-- 'ropewalklaw02.TermLeads', WHERE WHAT IT READS IS OF BULK AT MOST 1048576: true; the input reads as it did. -/
def termLeadsUptoRow : OpenClaim := { program := "ytadjoaipmcbieaa", sum := "16210cf557add426c618b0273a587ffbba32fe4c1ef4b43772931eab30debc8b", func := "ropewalk/ropewalklaw02.TermLeads", spec := "termLeads", apart := false, narrowed := true }
def TermLeadsUptoSaid : Prop := termLeadsUptoRow.holds Try.pinned (OpenSpec.upto termLeadsSpec)

/-- 'ropewalklaw02.TermTiles', WHERE WHAT IT READS IS OF BULK AT MOST 1048576: true; the input reads as it did. -/
def termTilesUptoRow : OpenClaim := { program := "ytadjoaipmcbieaa", sum := "16210cf557add426c618b0273a587ffbba32fe4c1ef4b43772931eab30debc8b", func := "ropewalk/ropewalklaw02.TermTiles", spec := "termTiles", apart := false, narrowed := true }
def TermTilesUptoSaid : Prop := termTilesUptoRow.holds Try.pinned (OpenSpec.upto termTilesSpec)

/-- 'ropewalklaw02.TermChecks', WHERE WHAT IT READS IS OF BULK AT MOST 1048576: true; the input reads as it did. -/
def termChecksUptoRow : OpenClaim := { program := "ytadjoaipmcbieaa", sum := "16210cf557add426c618b0273a587ffbba32fe4c1ef4b43772931eab30debc8b", func := "ropewalk/ropewalklaw02.TermChecks", spec := "termChecks", recurses := true, apart := false, narrowed := true }
def TermChecksUptoSaid : Prop := termChecksUptoRow.holds Try.pinned (OpenSpec.upto termChecksSpec)

/-- 'ropewalklaw02.TermBack', WHERE WHAT IT READS IS OF BULK AT MOST 1048576: true; the input reads as it did. -/
def termBackUptoRow : OpenClaim := { program := "ytadjoaipmcbieaa", sum := "16210cf557add426c618b0273a587ffbba32fe4c1ef4b43772931eab30debc8b", func := "ropewalk/ropewalklaw02.TermBack", spec := "termBack", apart := false, narrowed := true }
def TermBackUptoSaid : Prop := termBackUptoRow.holds Try.pinned (OpenSpec.upto termBackSpec)

/-- 'ropewalklaw02.TermCuts', WHERE WHAT IT READS IS OF BULK AT MOST 1048576: true; the input reads as it did. -/
def termCutsUptoRow : OpenClaim := { program := "ytadjoaipmcbieaa", sum := "16210cf557add426c618b0273a587ffbba32fe4c1ef4b43772931eab30debc8b", func := "ropewalk/ropewalklaw02.TermCuts", spec := "termCuts", apart := false, narrowed := true }
def TermCutsUptoSaid : Prop := termCutsUptoRow.holds Try.pinned (OpenSpec.upto termCutsSpec)

/-- 'ropewalklaw02.TermPlains', WHERE WHAT IT READS IS OF BULK AT MOST 1048576: true; the input reads as it did. -/
def termPlainsUptoRow : OpenClaim := { program := "ytadjoaipmcbieaa", sum := "16210cf557add426c618b0273a587ffbba32fe4c1ef4b43772931eab30debc8b", func := "ropewalk/ropewalklaw02.TermPlains", spec := "termPlains", apart := false, narrowed := true }
def TermPlainsUptoSaid : Prop := termPlainsUptoRow.holds Try.pinned (OpenSpec.upto termPlainsSpec)

/-- 'ropewalklaw02.TermNil', WHERE WHAT IT READS IS OF BULK AT MOST 1048576: true; the input reads as it did. -/
def termNilUptoRow : OpenClaim := { program := "ytadjoaipmcbieaa", sum := "16210cf557add426c618b0273a587ffbba32fe4c1ef4b43772931eab30debc8b", func := "ropewalk/ropewalklaw02.TermNil", spec := "termNil", recurses := true, apart := false, narrowed := true }
def TermNilUptoSaid : Prop := termNilUptoRow.holds Try.pinned (OpenSpec.upto termNilSpec)

/-- 'ropewalklaw06.UnifyNames', WHERE WHAT IT READS IS OF BULK AT MOST 1048576: true; the input reads as it did. -/
def unifyNamesUptoRow : OpenClaim := { program := "ytadjoaipmcbieaa", sum := "16210cf557add426c618b0273a587ffbba32fe4c1ef4b43772931eab30debc8b", func := "ropewalk/ropewalklaw06.UnifyNames", spec := "unifyNames", recurses := true, apart := false, narrowed := true }
def UnifyNamesUptoSaid : Prop := unifyNamesUptoRow.holds Try.pinned (OpenSpec.upto unifyNamesSpec)

/-- 'ropewalklaw06.UnifyTells', WHERE WHAT IT READS IS OF BULK AT MOST 1048576: true; the input reads as it did. -/
def unifyTellsUptoRow : OpenClaim := { program := "ytadjoaipmcbieaa", sum := "16210cf557add426c618b0273a587ffbba32fe4c1ef4b43772931eab30debc8b", func := "ropewalk/ropewalklaw06.UnifyTells", spec := "unifyTells", recurses := true, apart := false, narrowed := true }
def UnifyTellsUptoSaid : Prop := unifyTellsUptoRow.holds Try.pinned (OpenSpec.upto unifyTellsSpec)

/-- 'ropewalklaw06.UnifyOverlaps', WHERE WHAT IT READS IS OF BULK AT MOST 1048576: true; the input reads as it did. -/
def unifyOverlapsUptoRow : OpenClaim := { program := "ytadjoaipmcbieaa", sum := "16210cf557add426c618b0273a587ffbba32fe4c1ef4b43772931eab30debc8b", func := "ropewalk/ropewalklaw06.UnifyOverlaps", spec := "unifyOverlaps", recurses := true, apart := false, narrowed := true }
def UnifyOverlapsUptoSaid : Prop := unifyOverlapsUptoRow.holds Try.pinned (OpenSpec.upto unifyOverlapsSpec)

/-- 'ropewalklaw06.UnifyInstance', WHERE WHAT IT READS IS OF BULK AT MOST 1048576: true; the input reads as it did. -/
def unifyInstanceUptoRow : OpenClaim := { program := "ytadjoaipmcbieaa", sum := "16210cf557add426c618b0273a587ffbba32fe4c1ef4b43772931eab30debc8b", func := "ropewalk/ropewalklaw06.UnifyInstance", spec := "unifyInstance", recurses := true, apart := false, narrowed := true }
def UnifyInstanceUptoSaid : Prop := unifyInstanceUptoRow.holds Try.pinned (OpenSpec.upto unifyInstanceSpec)

/-- 'ropewalklaw06.UnifySelf', WHERE WHAT IT READS IS OF BULK AT MOST 1048576: true; the input reads as it did. -/
def unifySelfUptoRow : OpenClaim := { program := "ytadjoaipmcbieaa", sum := "16210cf557add426c618b0273a587ffbba32fe4c1ef4b43772931eab30debc8b", func := "ropewalk/ropewalklaw06.UnifySelf", spec := "unifySelf", recurses := true, apart := false, narrowed := true }
def UnifySelfUptoSaid : Prop := unifySelfUptoRow.holds Try.pinned (OpenSpec.upto unifySelfSpec)

/-- 'ropewalklaw06.UnifyNil', WHERE WHAT IT READS IS OF BULK AT MOST 1048576: true; the input reads as it did. -/
def unifyNilUptoRow : OpenClaim := { program := "ytadjoaipmcbieaa", sum := "16210cf557add426c618b0273a587ffbba32fe4c1ef4b43772931eab30debc8b", func := "ropewalk/ropewalklaw06.UnifyNil", spec := "unifyNil", recurses := true, apart := false, narrowed := true }
def UnifyNilUptoSaid : Prop := unifyNilUptoRow.holds Try.pinned (OpenSpec.upto unifyNilSpec)

/-- 'ropewalklaw05.MatchNames', WHERE WHAT IT READS IS OF BULK AT MOST 1048576: true; the input reads as it did. -/
def matchNamesUptoRow : OpenClaim := { program := "ytadjoaipmcbieaa", sum := "16210cf557add426c618b0273a587ffbba32fe4c1ef4b43772931eab30debc8b", func := "ropewalk/ropewalklaw05.MatchNames", spec := "matchNames", unfollowed := true, recurses := true, apart := false, narrowed := true }
def MatchNamesUptoSaid : Prop := matchNamesUptoRow.holds Try.pinned (OpenSpec.upto matchNamesSpec)

/-- 'ropewalklaw05.MatchFits', WHERE WHAT IT READS IS OF BULK AT MOST 1048576: true; the input reads as it did. -/
def matchFitsUptoRow : OpenClaim := { program := "ytadjoaipmcbieaa", sum := "16210cf557add426c618b0273a587ffbba32fe4c1ef4b43772931eab30debc8b", func := "ropewalk/ropewalklaw05.MatchFits", spec := "matchFits", unfollowed := true, recurses := true, apart := false, narrowed := true }
def MatchFitsUptoSaid : Prop := matchFitsUptoRow.holds Try.pinned (OpenSpec.upto matchFitsSpec)

/-- 'ropewalklaw05.MatchApplies', WHERE WHAT IT READS IS OF BULK AT MOST 1048576: true; the input reads as it did. -/
def matchAppliesUptoRow : OpenClaim := { program := "ytadjoaipmcbieaa", sum := "16210cf557add426c618b0273a587ffbba32fe4c1ef4b43772931eab30debc8b", func := "ropewalk/ropewalklaw05.MatchApplies", spec := "matchApplies", unfollowed := true, recurses := true, apart := false, narrowed := true }
def MatchAppliesUptoSaid : Prop := matchAppliesUptoRow.holds Try.pinned (OpenSpec.upto matchAppliesSpec)

/-- 'ropewalklaw05.MatchAlike', WHERE WHAT IT READS IS OF BULK AT MOST 1048576: true; the input reads as it did. -/
def matchAlikeUptoRow : OpenClaim := { program := "ytadjoaipmcbieaa", sum := "16210cf557add426c618b0273a587ffbba32fe4c1ef4b43772931eab30debc8b", func := "ropewalk/ropewalklaw05.MatchAlike", spec := "matchAlike", unfollowed := true, recurses := true, apart := false, narrowed := true }
def MatchAlikeUptoSaid : Prop := matchAlikeUptoRow.holds Try.pinned (OpenSpec.upto matchAlikeSpec)

/-- 'ropewalklaw05.MatchBack', WHERE WHAT IT READS IS OF BULK AT MOST 1048576: true; the input reads as it did. -/
def matchBackUptoRow : OpenClaim := { program := "ytadjoaipmcbieaa", sum := "16210cf557add426c618b0273a587ffbba32fe4c1ef4b43772931eab30debc8b", func := "ropewalk/ropewalklaw05.MatchBack", spec := "matchBack", unfollowed := true, recurses := true, apart := false, narrowed := true }
def MatchBackUptoSaid : Prop := matchBackUptoRow.holds Try.pinned (OpenSpec.upto matchBackSpec)

/-- 'ropewalklaw05.MatchInstance', WHERE WHAT IT READS IS OF BULK AT MOST 1048576: true; the input reads as it did. -/
def matchInstanceUptoRow : OpenClaim := { program := "ytadjoaipmcbieaa", sum := "16210cf557add426c618b0273a587ffbba32fe4c1ef4b43772931eab30debc8b", func := "ropewalk/ropewalklaw05.MatchInstance", spec := "matchInstance", unfollowed := true, recurses := true, apart := false, narrowed := true }
def MatchInstanceUptoSaid : Prop := matchInstanceUptoRow.holds Try.pinned (OpenSpec.upto matchInstanceSpec)

/-- 'ropewalklaw05.MatchNil', WHERE WHAT IT READS IS OF BULK AT MOST 1048576: true; the input reads as it did. -/
def matchNilUptoRow : OpenClaim := { program := "ytadjoaipmcbieaa", sum := "16210cf557add426c618b0273a587ffbba32fe4c1ef4b43772931eab30debc8b", func := "ropewalk/ropewalklaw05.MatchNil", spec := "matchNil", unfollowed := true, recurses := true, apart := false, narrowed := true }
def MatchNilUptoSaid : Prop := matchNilUptoRow.holds Try.pinned (OpenSpec.upto matchNilSpec)

end Rows
end Go.Proofs.Ytadjoaipmcbieaa
