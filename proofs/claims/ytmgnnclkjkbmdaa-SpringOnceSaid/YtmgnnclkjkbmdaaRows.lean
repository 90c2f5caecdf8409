/-
  No cell of these rows narrows 'for every input' (looked for: loops, veiled, ifaces, maps, wideKeys, modest, calm, conditions, laid).
  DERIVED. THE GIVEN ROWS OF THIS SEAT. 33 by the template 'for every input the law returns true; each argument reads behind the call as it read before'; 0 by the template 'total and deterministic' (their statements: YtmgnnclkjkbmdaaTotals.lean).
  GIVEN WITH THE SEED: the statements are not yours to turn. If you find one false, say at which input.
  Laid BY PROGRAM, IN A SANDBOX (cutbox-rows.mjs): the forced cells as the released guide's own fill.sh prints them over the translation 8309e2fdca71f056… (all of the seat's roots in one cut). By AI agents, Wed Nov 11 2026. No macro, syntax, notation, axiom, sorry.
-/
import Derived.Test.YtmgnnclkjkbmdaaChecked
import GoSem.Claim
import GoSem.ClaimJoined
import GoSem.ClaimMapViews
import Derived.JoinedTies
import Derived.KernelRfl
namespace Go.Proofs.Ytmgnnclkjkbmdaa
/- THE CELL 'sum', in the pinned program and in every row, IS THE sha256 OF THE DUMP (.gsa) THAT YtmgnnclkjkbmdaaProg.lean LOADS. Nothing in Lean hashes anything: it is a label: what it is worth is what the hold of that sum in a sandbox is worth. -/
noncomputable def Try.pinned : Pinned := { name := "ytmgnnclkjkbmdaa", sum := "8309e2fdca71f056427c188487ca0525a36e258a66b609e9c8d332c863bfde8a", checked := Try.checked }
namespace Rows
def none {H : Type} : Left H := { results := [], args := [] }

/-- 'fingerpostlaw10.OtsApart': WHATEVER THE INPUT: true; the input reads as it did. -/
def otsApartSpec : ChangeSpec := { name := "otsApart", fn := fun _ => fun
  | [d1, d2] => { results := [.lit (.bool true)], args := [d1, d2] }
  | _ => none }
def otsApartRow : OpenClaim := { program := "ytmgnnclkjkbmdaa", sum := "8309e2fdca71f056427c188487ca0525a36e258a66b609e9c8d332c863bfde8a", func := "fingerpost/fingerpostlaw10.OtsApart", spec := "otsApart", apart := false }
def OtsApartSaid : Prop := otsApartRow.holds Try.pinned (OpenSpec.ofChange otsApartSpec)

/-- ITS FALSE NEIGHBOUR: 'it returns false'. Refute it at one input. -/
def otsApartWrong : ChangeSpec := { name := "otsApart", fn := fun _ => fun
  | [d1, d2] => { results := [.lit (.bool false)], args := [d1, d2] }
  | _ => none }
def OtsApartWrongFalsely : Prop := otsApartRow.holds Try.pinned (OpenSpec.ofChange otsApartWrong)

/-- 'fingerpostlaw10.OtsDigits': WHATEVER THE INPUT: true; the input reads as it did. -/
def otsDigitsSpec : ChangeSpec := { name := "otsDigits", fn := fun _ => fun
  | [d1, d2] => { results := [.lit (.bool true)], args := [d1, d2] }
  | _ => none }
def otsDigitsRow : OpenClaim := { program := "ytmgnnclkjkbmdaa", sum := "8309e2fdca71f056427c188487ca0525a36e258a66b609e9c8d332c863bfde8a", func := "fingerpost/fingerpostlaw10.OtsDigits", spec := "otsDigits", apart := false }
def OtsDigitsSaid : Prop := otsDigitsRow.holds Try.pinned (OpenSpec.ofChange otsDigitsSpec)

/-- ITS FALSE NEIGHBOUR: 'it returns false'. Refute it at one input. -/
def otsDigitsWrong : ChangeSpec := { name := "otsDigits", fn := fun _ => fun
  | [d1, d2] => { results := [.lit (.bool false)], args := [d1, d2] }
  | _ => none }
def OtsDigitsWrongFalsely : Prop := otsDigitsRow.holds Try.pinned (OpenSpec.ofChange otsDigitsWrong)

/-- 'fingerpostlaw04.ShaSums': WHATEVER THE INPUT: true; the input reads as it did. -/
def shaSumsSpec : ChangeSpec := { name := "shaSums", fn := fun _ => fun
  | [d] => { results := [.lit (.bool true)], args := [d] }
  | _ => none }
def shaSumsRow : OpenClaim := { program := "ytmgnnclkjkbmdaa", sum := "8309e2fdca71f056427c188487ca0525a36e258a66b609e9c8d332c863bfde8a", func := "fingerpost/fingerpostlaw04.ShaSums", spec := "shaSums", apart := false }
def ShaSumsSaid : Prop := shaSumsRow.holds Try.pinned (OpenSpec.ofChange shaSumsSpec)

/-- ITS FALSE NEIGHBOUR: 'it returns false'. Refute it at one input. -/
def shaSumsWrong : ChangeSpec := { name := "shaSums", fn := fun _ => fun
  | [d] => { results := [.lit (.bool false)], args := [d] }
  | _ => none }
def ShaSumsWrongFalsely : Prop := shaSumsRow.holds Try.pinned (OpenSpec.ofChange shaSumsWrong)

/-- 'fingerpostlaw04.ShaEdges': WHATEVER THE INPUT: true; the input reads as it did. -/
def shaEdgesSpec : ChangeSpec := { name := "shaEdges", fn := fun _ => fun
  | [d1, d2, d3] => { results := [.lit (.bool true)], args := [d1, d2, d3] }
  | _ => none }
def shaEdgesRow : OpenClaim := { program := "ytmgnnclkjkbmdaa", sum := "8309e2fdca71f056427c188487ca0525a36e258a66b609e9c8d332c863bfde8a", func := "fingerpost/fingerpostlaw04.ShaEdges", spec := "shaEdges", apart := false }
def ShaEdgesSaid : Prop := shaEdgesRow.holds Try.pinned (OpenSpec.ofChange shaEdgesSpec)

/-- ITS FALSE NEIGHBOUR: 'it returns false'. Refute it at one input. -/
def shaEdgesWrong : ChangeSpec := { name := "shaEdges", fn := fun _ => fun
  | [d1, d2, d3] => { results := [.lit (.bool false)], args := [d1, d2, d3] }
  | _ => none }
def ShaEdgesWrongFalsely : Prop := shaEdgesRow.holds Try.pinned (OpenSpec.ofChange shaEdgesWrong)

/-- 'fingerpostlaw04.ShaBlocks': WHATEVER THE INPUT: true; the input reads as it did. -/
def shaBlocksSpec : ChangeSpec := { name := "shaBlocks", fn := fun _ => fun
  | [d] => { results := [.lit (.bool true)], args := [d] }
  | _ => none }
def shaBlocksRow : OpenClaim := { program := "ytmgnnclkjkbmdaa", sum := "8309e2fdca71f056427c188487ca0525a36e258a66b609e9c8d332c863bfde8a", func := "fingerpost/fingerpostlaw04.ShaBlocks", spec := "shaBlocks", apart := false }
def ShaBlocksSaid : Prop := shaBlocksRow.holds Try.pinned (OpenSpec.ofChange shaBlocksSpec)

/-- ITS FALSE NEIGHBOUR: 'it returns false'. Refute it at one input. -/
def shaBlocksWrong : ChangeSpec := { name := "shaBlocks", fn := fun _ => fun
  | [d] => { results := [.lit (.bool false)], args := [d] }
  | _ => none }
def ShaBlocksWrongFalsely : Prop := shaBlocksRow.holds Try.pinned (OpenSpec.ofChange shaBlocksWrong)

/-- 'fingerpostlaw04.ShaParts': WHATEVER THE INPUT: true; the input reads as it did. -/
def shaPartsSpec : ChangeSpec := { name := "shaParts", fn := fun _ => fun
  | [d] => { results := [.lit (.bool true)], args := [d] }
  | _ => none }
def shaPartsRow : OpenClaim := { program := "ytmgnnclkjkbmdaa", sum := "8309e2fdca71f056427c188487ca0525a36e258a66b609e9c8d332c863bfde8a", func := "fingerpost/fingerpostlaw04.ShaParts", spec := "shaParts", apart := false }
def ShaPartsSaid : Prop := shaPartsRow.holds Try.pinned (OpenSpec.ofChange shaPartsSpec)

/-- ITS FALSE NEIGHBOUR: 'it returns false'. Refute it at one input. -/
def shaPartsWrong : ChangeSpec := { name := "shaParts", fn := fun _ => fun
  | [d] => { results := [.lit (.bool false)], args := [d] }
  | _ => none }
def ShaPartsWrongFalsely : Prop := shaPartsRow.holds Try.pinned (OpenSpec.ofChange shaPartsWrong)

/-- 'fingerpostlaw10.OtsLinks': WHATEVER THE INPUT: true; the input reads as it did. -/
def otsLinksSpec : ChangeSpec := { name := "otsLinks", fn := fun _ => fun
  | [d1, d2, d3, d4] => { results := [.lit (.bool true)], args := [d1, d2, d3, d4] }
  | _ => none }
def otsLinksRow : OpenClaim := { program := "ytmgnnclkjkbmdaa", sum := "8309e2fdca71f056427c188487ca0525a36e258a66b609e9c8d332c863bfde8a", func := "fingerpost/fingerpostlaw10.OtsLinks", spec := "otsLinks", apart := false }
def OtsLinksSaid : Prop := otsLinksRow.holds Try.pinned (OpenSpec.ofChange otsLinksSpec)

/-- ITS FALSE NEIGHBOUR: 'it returns false'. Refute it at one input. -/
def otsLinksWrong : ChangeSpec := { name := "otsLinks", fn := fun _ => fun
  | [d1, d2, d3, d4] => { results := [.lit (.bool false)], args := [d1, d2, d3, d4] }
  | _ => none }
def OtsLinksWrongFalsely : Prop := otsLinksRow.holds Try.pinned (OpenSpec.ofChange otsLinksWrong)

/-- 'fingerpostlaw04.ShaHexes': WHATEVER THE INPUT: true; the input reads as it did. -/
def shaHexesSpec : ChangeSpec := { name := "shaHexes", fn := fun _ => fun
  | [d1, d2] => { results := [.lit (.bool true)], args := [d1, d2] }
  | _ => none }
def shaHexesRow : OpenClaim := { program := "ytmgnnclkjkbmdaa", sum := "8309e2fdca71f056427c188487ca0525a36e258a66b609e9c8d332c863bfde8a", func := "fingerpost/fingerpostlaw04.ShaHexes", spec := "shaHexes", apart := false }
def ShaHexesSaid : Prop := shaHexesRow.holds Try.pinned (OpenSpec.ofChange shaHexesSpec)

/-- ITS FALSE NEIGHBOUR: 'it returns false'. Refute it at one input. -/
def shaHexesWrong : ChangeSpec := { name := "shaHexes", fn := fun _ => fun
  | [d1, d2] => { results := [.lit (.bool false)], args := [d1, d2] }
  | _ => none }
def ShaHexesWrongFalsely : Prop := shaHexesRow.holds Try.pinned (OpenSpec.ofChange shaHexesWrong)

/-- 'fingerpostlaw10.OtsRecovers': WHATEVER THE INPUT: true; the input reads as it did. -/
def otsRecoversSpec : ChangeSpec := { name := "otsRecovers", fn := fun _ => fun
  | [d1, d2, d3] => { results := [.lit (.bool true)], args := [d1, d2, d3] }
  | _ => none }
def otsRecoversRow : OpenClaim := { program := "ytmgnnclkjkbmdaa", sum := "8309e2fdca71f056427c188487ca0525a36e258a66b609e9c8d332c863bfde8a", func := "fingerpost/fingerpostlaw10.OtsRecovers", spec := "otsRecovers", apart := false }
def OtsRecoversSaid : Prop := otsRecoversRow.holds Try.pinned (OpenSpec.ofChange otsRecoversSpec)

/-- ITS FALSE NEIGHBOUR: 'it returns false'. Refute it at one input. -/
def otsRecoversWrong : ChangeSpec := { name := "otsRecovers", fn := fun _ => fun
  | [d1, d2, d3] => { results := [.lit (.bool false)], args := [d1, d2, d3] }
  | _ => none }
def OtsRecoversWrongFalsely : Prop := otsRecoversRow.holds Try.pinned (OpenSpec.ofChange otsRecoversWrong)

/-- 'fingerpostlaw10.OtsSound': WHATEVER THE INPUT: true; the input reads as it did. -/
def otsSoundSpec : ChangeSpec := { name := "otsSound", fn := fun _ => fun
  | [d1, d2, d3, d4, d5, d6] => { results := [.lit (.bool true)], args := [d1, d2, d3, d4, d5, d6] }
  | _ => none }
def otsSoundRow : OpenClaim := { program := "ytmgnnclkjkbmdaa", sum := "8309e2fdca71f056427c188487ca0525a36e258a66b609e9c8d332c863bfde8a", func := "fingerpost/fingerpostlaw10.OtsSound", spec := "otsSound", apart := false }
def OtsSoundSaid : Prop := otsSoundRow.holds Try.pinned (OpenSpec.ofChange otsSoundSpec)

/-- ITS FALSE NEIGHBOUR: 'it returns false'. Refute it at one input. -/
def otsSoundWrong : ChangeSpec := { name := "otsSound", fn := fun _ => fun
  | [d1, d2, d3, d4, d5, d6] => { results := [.lit (.bool false)], args := [d1, d2, d3, d4, d5, d6] }
  | _ => none }
def OtsSoundWrongFalsely : Prop := otsSoundRow.holds Try.pinned (OpenSpec.ofChange otsSoundWrong)

/-- 'fingerpostlaw06.LadderUps': WHATEVER THE INPUT: true; the input reads as it did. -/
def ladderUpsSpec : ChangeSpec := { name := "ladderUps", fn := fun _ => fun
  | [d1, d2, d3, d4, d5, d6] => { results := [.lit (.bool true)], args := [d1, d2, d3, d4, d5, d6] }
  | _ => none }
def ladderUpsRow : OpenClaim := { program := "ytmgnnclkjkbmdaa", sum := "8309e2fdca71f056427c188487ca0525a36e258a66b609e9c8d332c863bfde8a", func := "fingerpost/fingerpostlaw06.LadderUps", spec := "ladderUps", recurses := true, apart := false }
def LadderUpsSaid : Prop := ladderUpsRow.holds Try.pinned (OpenSpec.ofChange ladderUpsSpec)

/-- ITS FALSE NEIGHBOUR: 'it returns false'. Refute it at one input. -/
def ladderUpsWrong : ChangeSpec := { name := "ladderUps", fn := fun _ => fun
  | [d1, d2, d3, d4, d5, d6] => { results := [.lit (.bool false)], args := [d1, d2, d3, d4, d5, d6] }
  | _ => none }
def LadderUpsWrongFalsely : Prop := ladderUpsRow.holds Try.pinned (OpenSpec.ofChange ladderUpsWrong)

/-- 'fingerpostlaw05.MacTags': WHATEVER THE INPUT: true; the input reads as it did. -/
def macTagsSpec : ChangeSpec := { name := "macTags", fn := fun _ => fun
  | [d1, d2] => { results := [.lit (.bool true)], args := [d1, d2] }
  | _ => none }
def macTagsRow : OpenClaim := { program := "ytmgnnclkjkbmdaa", sum := "8309e2fdca71f056427c188487ca0525a36e258a66b609e9c8d332c863bfde8a", func := "fingerpost/fingerpostlaw05.MacTags", spec := "macTags", apart := false }
def MacTagsSaid : Prop := macTagsRow.holds Try.pinned (OpenSpec.ofChange macTagsSpec)

/-- ITS FALSE NEIGHBOUR: 'it returns false'. Refute it at one input. -/
def macTagsWrong : ChangeSpec := { name := "macTags", fn := fun _ => fun
  | [d1, d2] => { results := [.lit (.bool false)], args := [d1, d2] }
  | _ => none }
def MacTagsWrongFalsely : Prop := macTagsRow.holds Try.pinned (OpenSpec.ofChange macTagsWrong)

/-- 'fingerpostlaw05.MacCosts': WHATEVER THE INPUT: true; the input reads as it did. -/
def macCostsSpec : ChangeSpec := { name := "macCosts", fn := fun _ => fun
  | [d1, d2] => { results := [.lit (.bool true)], args := [d1, d2] }
  | _ => none }
def macCostsRow : OpenClaim := { program := "ytmgnnclkjkbmdaa", sum := "8309e2fdca71f056427c188487ca0525a36e258a66b609e9c8d332c863bfde8a", func := "fingerpost/fingerpostlaw05.MacCosts", spec := "macCosts", apart := false }
def MacCostsSaid : Prop := macCostsRow.holds Try.pinned (OpenSpec.ofChange macCostsSpec)

/-- ITS FALSE NEIGHBOUR: 'it returns false'. Refute it at one input. -/
def macCostsWrong : ChangeSpec := { name := "macCosts", fn := fun _ => fun
  | [d1, d2] => { results := [.lit (.bool false)], args := [d1, d2] }
  | _ => none }
def MacCostsWrongFalsely : Prop := macCostsRow.holds Try.pinned (OpenSpec.ofChange macCostsWrong)

/-- 'fingerpostlaw06.LadderClimbs': WHATEVER THE INPUT: true; the input reads as it did. -/
def ladderClimbsSpec : ChangeSpec := { name := "ladderClimbs", fn := fun _ => fun
  | [d1, d2, d3, d4, d5, d6] => { results := [.lit (.bool true)], args := [d1, d2, d3, d4, d5, d6] }
  | _ => none }
def ladderClimbsRow : OpenClaim := { program := "ytmgnnclkjkbmdaa", sum := "8309e2fdca71f056427c188487ca0525a36e258a66b609e9c8d332c863bfde8a", func := "fingerpost/fingerpostlaw06.LadderClimbs", spec := "ladderClimbs", recurses := true, apart := false }
def LadderClimbsSaid : Prop := ladderClimbsRow.holds Try.pinned (OpenSpec.ofChange ladderClimbsSpec)

/-- ITS FALSE NEIGHBOUR: 'it returns false'. Refute it at one input. -/
def ladderClimbsWrong : ChangeSpec := { name := "ladderClimbs", fn := fun _ => fun
  | [d1, d2, d3, d4, d5, d6] => { results := [.lit (.bool false)], args := [d1, d2, d3, d4, d5, d6] }
  | _ => none }
def LadderClimbsWrongFalsely : Prop := ladderClimbsRow.holds Try.pinned (OpenSpec.ofChange ladderClimbsWrong)

/-- 'fingerpostlaw06.LadderCosts': WHATEVER THE INPUT: true; the input reads as it did. -/
def ladderCostsSpec : ChangeSpec := { name := "ladderCosts", fn := fun _ => fun
  | [d1, d2, d3] => { results := [.lit (.bool true)], args := [d1, d2, d3] }
  | _ => none }
def ladderCostsRow : OpenClaim := { program := "ytmgnnclkjkbmdaa", sum := "8309e2fdca71f056427c188487ca0525a36e258a66b609e9c8d332c863bfde8a", func := "fingerpost/fingerpostlaw06.LadderCosts", spec := "ladderCosts", recurses := true, apart := false }
def LadderCostsSaid : Prop := ladderCostsRow.holds Try.pinned (OpenSpec.ofChange ladderCostsSpec)

/-- ITS FALSE NEIGHBOUR: 'it returns false'. Refute it at one input. -/
def ladderCostsWrong : ChangeSpec := { name := "ladderCosts", fn := fun _ => fun
  | [d1, d2, d3] => { results := [.lit (.bool false)], args := [d1, d2, d3] }
  | _ => none }
def LadderCostsWrongFalsely : Prop := ladderCostsRow.holds Try.pinned (OpenSpec.ofChange ladderCostsWrong)

/-- 'fingerpostlaw05.MacShorts': WHATEVER THE INPUT: true; the input reads as it did. -/
def macShortsSpec : ChangeSpec := { name := "macShorts", fn := fun _ => fun
  | [d1, d2] => { results := [.lit (.bool true)], args := [d1, d2] }
  | _ => none }
def macShortsRow : OpenClaim := { program := "ytmgnnclkjkbmdaa", sum := "8309e2fdca71f056427c188487ca0525a36e258a66b609e9c8d332c863bfde8a", func := "fingerpost/fingerpostlaw05.MacShorts", spec := "macShorts", apart := false }
def MacShortsSaid : Prop := macShortsRow.holds Try.pinned (OpenSpec.ofChange macShortsSpec)

/-- ITS FALSE NEIGHBOUR: 'it returns false'. Refute it at one input. -/
def macShortsWrong : ChangeSpec := { name := "macShorts", fn := fun _ => fun
  | [d1, d2] => { results := [.lit (.bool false)], args := [d1, d2] }
  | _ => none }
def MacShortsWrongFalsely : Prop := macShortsRow.holds Try.pinned (OpenSpec.ofChange macShortsWrong)

/-- 'fingerpostlaw07.GroveNews': WHATEVER THE INPUT: true; the input reads as it did. -/
def groveNewsSpec : ChangeSpec := { name := "groveNews", fn := fun _ => fun
  | [d1, d2, d3, d4] => { results := [.lit (.bool true)], args := [d1, d2, d3, d4] }
  | _ => none }
def groveNewsRow : OpenClaim := { program := "ytmgnnclkjkbmdaa", sum := "8309e2fdca71f056427c188487ca0525a36e258a66b609e9c8d332c863bfde8a", func := "fingerpost/fingerpostlaw07.GroveNews", spec := "groveNews", recurses := true, apart := false }
def GroveNewsSaid : Prop := groveNewsRow.holds Try.pinned (OpenSpec.ofChange groveNewsSpec)

/-- ITS FALSE NEIGHBOUR: 'it returns false'. Refute it at one input. -/
def groveNewsWrong : ChangeSpec := { name := "groveNews", fn := fun _ => fun
  | [d1, d2, d3, d4] => { results := [.lit (.bool false)], args := [d1, d2, d3, d4] }
  | _ => none }
def GroveNewsWrongFalsely : Prop := groveNewsRow.holds Try.pinned (OpenSpec.ofChange groveNewsWrong)

/-- 'fingerpostlaw07.GroveNil': WHATEVER THE INPUT: true; the input reads as it did. -/
def groveNilSpec : ChangeSpec := { name := "groveNil", fn := fun _ => fun
  | [d] => { results := [.lit (.bool true)], args := [d] }
  | _ => none }
def groveNilRow : OpenClaim := { program := "ytmgnnclkjkbmdaa", sum := "8309e2fdca71f056427c188487ca0525a36e258a66b609e9c8d332c863bfde8a", func := "fingerpost/fingerpostlaw07.GroveNil", spec := "groveNil", apart := false }
def GroveNilSaid : Prop := groveNilRow.holds Try.pinned (OpenSpec.ofChange groveNilSpec)

/-- ITS FALSE NEIGHBOUR: 'it returns false'. Refute it at one input. -/
def groveNilWrong : ChangeSpec := { name := "groveNil", fn := fun _ => fun
  | [d] => { results := [.lit (.bool false)], args := [d] }
  | _ => none }
def GroveNilWrongFalsely : Prop := groveNilRow.holds Try.pinned (OpenSpec.ofChange groveNilWrong)

/-- 'fingerpostlaw05.MacGives': WHATEVER THE INPUT: true; the input reads as it did. -/
def macGivesSpec : ChangeSpec := { name := "macGives", fn := fun _ => fun
  | [d1, d2, d3] => { results := [.lit (.bool true)], args := [d1, d2, d3] }
  | _ => none }
def macGivesRow : OpenClaim := { program := "ytmgnnclkjkbmdaa", sum := "8309e2fdca71f056427c188487ca0525a36e258a66b609e9c8d332c863bfde8a", func := "fingerpost/fingerpostlaw05.MacGives", spec := "macGives", apart := false }
def MacGivesSaid : Prop := macGivesRow.holds Try.pinned (OpenSpec.ofChange macGivesSpec)

/-- ITS FALSE NEIGHBOUR: 'it returns false'. Refute it at one input. -/
def macGivesWrong : ChangeSpec := { name := "macGives", fn := fun _ => fun
  | [d1, d2, d3] => { results := [.lit (.bool false)], args := [d1, d2, d3] }
  | _ => none }
def MacGivesWrongFalsely : Prop := macGivesRow.holds Try.pinned (OpenSpec.ofChange macGivesWrong)

/-- 'fingerpostlaw06.LadderSound': WHATEVER THE INPUT: true; the input reads as it did. -/
def ladderSoundSpec : ChangeSpec := { name := "ladderSound", fn := fun _ => fun
  | [d1, d2, d3, d4, d5, d6, d7, d8] => { results := [.lit (.bool true)], args := [d1, d2, d3, d4, d5, d6, d7, d8] }
  | _ => none }
def ladderSoundRow : OpenClaim := { program := "ytmgnnclkjkbmdaa", sum := "8309e2fdca71f056427c188487ca0525a36e258a66b609e9c8d332c863bfde8a", func := "fingerpost/fingerpostlaw06.LadderSound", spec := "ladderSound", recurses := true, apart := false }
def LadderSoundSaid : Prop := ladderSoundRow.holds Try.pinned (OpenSpec.ofChange ladderSoundSpec)

/-- ITS FALSE NEIGHBOUR: 'it returns false'. Refute it at one input. -/
def ladderSoundWrong : ChangeSpec := { name := "ladderSound", fn := fun _ => fun
  | [d1, d2, d3, d4, d5, d6, d7, d8] => { results := [.lit (.bool false)], args := [d1, d2, d3, d4, d5, d6, d7, d8] }
  | _ => none }
def LadderSoundWrongFalsely : Prop := ladderSoundRow.holds Try.pinned (OpenSpec.ofChange ladderSoundWrong)

/-- 'fingerpostlaw05.MacHolds': WHATEVER THE INPUT: true; the input reads as it did. -/
def macHoldsSpec : ChangeSpec := { name := "macHolds", fn := fun _ => fun
  | [d1, d2, d3, d4, d5] => { results := [.lit (.bool true)], args := [d1, d2, d3, d4, d5] }
  | _ => none }
def macHoldsRow : OpenClaim := { program := "ytmgnnclkjkbmdaa", sum := "8309e2fdca71f056427c188487ca0525a36e258a66b609e9c8d332c863bfde8a", func := "fingerpost/fingerpostlaw05.MacHolds", spec := "macHolds", apart := false }
def MacHoldsSaid : Prop := macHoldsRow.holds Try.pinned (OpenSpec.ofChange macHoldsSpec)

/-- ITS FALSE NEIGHBOUR: 'it returns false'. Refute it at one input. -/
def macHoldsWrong : ChangeSpec := { name := "macHolds", fn := fun _ => fun
  | [d1, d2, d3, d4, d5] => { results := [.lit (.bool false)], args := [d1, d2, d3, d4, d5] }
  | _ => none }
def MacHoldsWrongFalsely : Prop := macHoldsRow.holds Try.pinned (OpenSpec.ofChange macHoldsWrong)

/-- 'fingerpostlaw06.LadderShows': WHATEVER THE INPUT: true; the input reads as it did. -/
def ladderShowsSpec : ChangeSpec := { name := "ladderShows", fn := fun _ => fun
  | [d1, d2, d3, d4, d5, d6, d7] => { results := [.lit (.bool true)], args := [d1, d2, d3, d4, d5, d6, d7] }
  | _ => none }
def ladderShowsRow : OpenClaim := { program := "ytmgnnclkjkbmdaa", sum := "8309e2fdca71f056427c188487ca0525a36e258a66b609e9c8d332c863bfde8a", func := "fingerpost/fingerpostlaw06.LadderShows", spec := "ladderShows", recurses := true, apart := false }
def LadderShowsSaid : Prop := ladderShowsRow.holds Try.pinned (OpenSpec.ofChange ladderShowsSpec)

/-- ITS FALSE NEIGHBOUR: 'it returns false'. Refute it at one input. -/
def ladderShowsWrong : ChangeSpec := { name := "ladderShows", fn := fun _ => fun
  | [d1, d2, d3, d4, d5, d6, d7] => { results := [.lit (.bool false)], args := [d1, d2, d3, d4, d5, d6, d7] }
  | _ => none }
def LadderShowsWrongFalsely : Prop := ladderShowsRow.holds Try.pinned (OpenSpec.ofChange ladderShowsWrong)

/-- 'fingerpostlaw06.LadderMeets': WHATEVER THE INPUT: true; the input reads as it did. -/
def ladderMeetsSpec : ChangeSpec := { name := "ladderMeets", fn := fun _ => fun
  | [d1, d2, d3, d4, d5] => { results := [.lit (.bool true)], args := [d1, d2, d3, d4, d5] }
  | _ => none }
def ladderMeetsRow : OpenClaim := { program := "ytmgnnclkjkbmdaa", sum := "8309e2fdca71f056427c188487ca0525a36e258a66b609e9c8d332c863bfde8a", func := "fingerpost/fingerpostlaw06.LadderMeets", spec := "ladderMeets", apart := false }
def LadderMeetsSaid : Prop := ladderMeetsRow.holds Try.pinned (OpenSpec.ofChange ladderMeetsSpec)

/-- ITS FALSE NEIGHBOUR: 'it returns false'. Refute it at one input. -/
def ladderMeetsWrong : ChangeSpec := { name := "ladderMeets", fn := fun _ => fun
  | [d1, d2, d3, d4, d5] => { results := [.lit (.bool false)], args := [d1, d2, d3, d4, d5] }
  | _ => none }
def LadderMeetsWrongFalsely : Prop := ladderMeetsRow.holds Try.pinned (OpenSpec.ofChange ladderMeetsWrong)

/-- 'fingerpostlaw07.GroveFolds': WHATEVER THE INPUT: true; the input reads as it did. -/
def groveFoldsSpec : ChangeSpec := { name := "groveFolds", fn := fun _ => fun
  | [d1, d2, d3, d4, d5, d6, d7, d8] => { results := [.lit (.bool true)], args := [d1, d2, d3, d4, d5, d6, d7, d8] }
  | _ => none }
def groveFoldsRow : OpenClaim := { program := "ytmgnnclkjkbmdaa", sum := "8309e2fdca71f056427c188487ca0525a36e258a66b609e9c8d332c863bfde8a", func := "fingerpost/fingerpostlaw07.GroveFolds", spec := "groveFolds", apart := false }
def GroveFoldsSaid : Prop := groveFoldsRow.holds Try.pinned (OpenSpec.ofChange groveFoldsSpec)

/-- ITS FALSE NEIGHBOUR: 'it returns false'. Refute it at one input. -/
def groveFoldsWrong : ChangeSpec := { name := "groveFolds", fn := fun _ => fun
  | [d1, d2, d3, d4, d5, d6, d7, d8] => { results := [.lit (.bool false)], args := [d1, d2, d3, d4, d5, d6, d7, d8] }
  | _ => none }
def GroveFoldsWrongFalsely : Prop := groveFoldsRow.holds Try.pinned (OpenSpec.ofChange groveFoldsWrong)

/-- 'fingerpostlaw07.GroveLeads': WHATEVER THE INPUT: true; the input reads as it did. -/
def groveLeadsSpec : ChangeSpec := { name := "groveLeads", fn := fun _ => fun
  | [d1, d2, d3] => { results := [.lit (.bool true)], args := [d1, d2, d3] }
  | _ => none }
def groveLeadsRow : OpenClaim := { program := "ytmgnnclkjkbmdaa", sum := "8309e2fdca71f056427c188487ca0525a36e258a66b609e9c8d332c863bfde8a", func := "fingerpost/fingerpostlaw07.GroveLeads", spec := "groveLeads", apart := false }
def GroveLeadsSaid : Prop := groveLeadsRow.holds Try.pinned (OpenSpec.ofChange groveLeadsSpec)

/-- ITS FALSE NEIGHBOUR: 'it returns false'. Refute it at one input. -/
def groveLeadsWrong : ChangeSpec := { name := "groveLeads", fn := fun _ => fun
  | [d1, d2, d3] => { results := [.lit (.bool false)], args := [d1, d2, d3] }
  | _ => none }
def GroveLeadsWrongFalsely : Prop := groveLeadsRow.holds Try.pinned (OpenSpec.ofChange groveLeadsWrong)

/-- 'fingerpostlaw07.GroveSound': WHATEVER THE INPUT: true; the input reads as it did. -/
def groveSoundSpec : ChangeSpec := { name := "groveSound", fn := fun _ => fun
  | [d1, d2, d3, d4, d5, d6, d7] => { results := [.lit (.bool true)], args := [d1, d2, d3, d4, d5, d6, d7] }
  | _ => none }
def groveSoundRow : OpenClaim := { program := "ytmgnnclkjkbmdaa", sum := "8309e2fdca71f056427c188487ca0525a36e258a66b609e9c8d332c863bfde8a", func := "fingerpost/fingerpostlaw07.GroveSound", spec := "groveSound", recurses := true, apart := false }
def GroveSoundSaid : Prop := groveSoundRow.holds Try.pinned (OpenSpec.ofChange groveSoundSpec)

/-- ITS FALSE NEIGHBOUR: 'it returns false'. Refute it at one input. -/
def groveSoundWrong : ChangeSpec := { name := "groveSound", fn := fun _ => fun
  | [d1, d2, d3, d4, d5, d6, d7] => { results := [.lit (.bool false)], args := [d1, d2, d3, d4, d5, d6, d7] }
  | _ => none }
def GroveSoundWrongFalsely : Prop := groveSoundRow.holds Try.pinned (OpenSpec.ofChange groveSoundWrong)

/-- 'fingerpostlaw10.OtsSigns': WHATEVER THE INPUT: true; the input reads as it did. -/
def otsSignsSpec : ChangeSpec := { name := "otsSigns", fn := fun _ => fun
  | [d1, d2, d3] => { results := [.lit (.bool true)], args := [d1, d2, d3] }
  | _ => none }
def otsSignsRow : OpenClaim := { program := "ytmgnnclkjkbmdaa", sum := "8309e2fdca71f056427c188487ca0525a36e258a66b609e9c8d332c863bfde8a", func := "fingerpost/fingerpostlaw10.OtsSigns", spec := "otsSigns", apart := false }
def OtsSignsSaid : Prop := otsSignsRow.holds Try.pinned (OpenSpec.ofChange otsSignsSpec)

/-- ITS FALSE NEIGHBOUR: 'it returns false'. Refute it at one input. -/
def otsSignsWrong : ChangeSpec := { name := "otsSigns", fn := fun _ => fun
  | [d1, d2, d3] => { results := [.lit (.bool false)], args := [d1, d2, d3] }
  | _ => none }
def OtsSignsWrongFalsely : Prop := otsSignsRow.holds Try.pinned (OpenSpec.ofChange otsSignsWrong)

/-- 'fingerpostlaw08.SpringNews': WHATEVER THE INPUT: true; the input reads as it did. -/
def springNewsSpec : ChangeSpec := { name := "springNews", fn := fun _ => fun
  | [d1, d2, d3, d4] => { results := [.lit (.bool true)], args := [d1, d2, d3, d4] }
  | _ => none }
def springNewsRow : OpenClaim := { program := "ytmgnnclkjkbmdaa", sum := "8309e2fdca71f056427c188487ca0525a36e258a66b609e9c8d332c863bfde8a", func := "fingerpost/fingerpostlaw08.SpringNews", spec := "springNews", inPlace := ["sync/atomic.LoadInt64", "sync/atomic.AddInt64", "sync/atomic.LoadUint32", "(*internal/sync.Mutex).Lock", "internal/race.Disable", "sync/atomic.CompareAndSwapInt32", "internal/race.Enable", "internal/race.Acquire", "(*internal/sync.Mutex).lockSlow", "internal/sync.runtime_canSpin", "internal/sync.runtime_doSpin", "internal/sync.throw", "internal/sync.runtime_nanotime", "internal/sync.runtime_SemacquireMutex", "sync/atomic.AddInt32", "(*internal/sync.Mutex).Unlock", "internal/race.ReleaseMerge", "(*internal/sync.Mutex).unlockSlow", "internal/sync.fatal", "internal/sync.runtime_Semrelease", "sync/atomic.StoreUint32"], unfollowed := true, recurses := true, apart := false }
def SpringNewsSaid : Prop := springNewsRow.holds Try.pinned (OpenSpec.ofChange springNewsSpec)

/-- ITS FALSE NEIGHBOUR: 'it returns false'. Refute it at one input. -/
def springNewsWrong : ChangeSpec := { name := "springNews", fn := fun _ => fun
  | [d1, d2, d3, d4] => { results := [.lit (.bool false)], args := [d1, d2, d3, d4] }
  | _ => none }
def SpringNewsWrongFalsely : Prop := springNewsRow.holds Try.pinned (OpenSpec.ofChange springNewsWrong)

/-- 'fingerpostlaw08.SpringOnce': WHATEVER THE INPUT: true; the input reads as it did. -/
def springOnceSpec : ChangeSpec := { name := "springOnce", fn := fun _ => fun
  | [d1, d2, d3, d4, d5] => { results := [.lit (.bool true)], args := [d1, d2, d3, d4, d5] }
  | _ => none }
def springOnceRow : OpenClaim := { program := "ytmgnnclkjkbmdaa", sum := "8309e2fdca71f056427c188487ca0525a36e258a66b609e9c8d332c863bfde8a", func := "fingerpost/fingerpostlaw08.SpringOnce", spec := "springOnce", inPlace := ["sync/atomic.LoadInt64", "sync/atomic.AddInt64", "sync/atomic.LoadUint32", "(*internal/sync.Mutex).Lock", "internal/race.Disable", "sync/atomic.CompareAndSwapInt32", "internal/race.Enable", "internal/race.Acquire", "(*internal/sync.Mutex).lockSlow", "internal/sync.runtime_canSpin", "internal/sync.runtime_doSpin", "internal/sync.throw", "internal/sync.runtime_nanotime", "internal/sync.runtime_SemacquireMutex", "sync/atomic.AddInt32", "(*internal/sync.Mutex).Unlock", "internal/race.ReleaseMerge", "(*internal/sync.Mutex).unlockSlow", "internal/sync.fatal", "internal/sync.runtime_Semrelease", "sync/atomic.StoreUint32"], unfollowed := true, recurses := true, apart := false }
def SpringOnceSaid : Prop := springOnceRow.holds Try.pinned (OpenSpec.ofChange springOnceSpec)

/-- ITS FALSE NEIGHBOUR: 'it returns false'. Refute it at one input. -/
def springOnceWrong : ChangeSpec := { name := "springOnce", fn := fun _ => fun
  | [d1, d2, d3, d4, d5] => { results := [.lit (.bool false)], args := [d1, d2, d3, d4, d5] }
  | _ => none }
def SpringOnceWrongFalsely : Prop := springOnceRow.holds Try.pinned (OpenSpec.ofChange springOnceWrong)

/-- 'fingerpostlaw08.SpringNil': WHATEVER THE INPUT: true; the input reads as it did. -/
def springNilSpec : ChangeSpec := { name := "springNil", fn := fun _ => fun
  | [d1, d2] => { results := [.lit (.bool true)], args := [d1, d2] }
  | _ => none }
def springNilRow : OpenClaim := { program := "ytmgnnclkjkbmdaa", sum := "8309e2fdca71f056427c188487ca0525a36e258a66b609e9c8d332c863bfde8a", func := "fingerpost/fingerpostlaw08.SpringNil", spec := "springNil", inPlace := ["sync/atomic.AddInt64", "sync/atomic.LoadUint32", "(*internal/sync.Mutex).Lock", "internal/race.Disable", "sync/atomic.CompareAndSwapInt32", "internal/race.Enable", "internal/race.Acquire", "(*internal/sync.Mutex).lockSlow", "internal/sync.runtime_canSpin", "internal/sync.runtime_doSpin", "internal/sync.throw", "internal/sync.runtime_nanotime", "internal/sync.runtime_SemacquireMutex", "sync/atomic.AddInt32", "(*internal/sync.Mutex).Unlock", "internal/race.ReleaseMerge", "(*internal/sync.Mutex).unlockSlow", "internal/sync.fatal", "internal/sync.runtime_Semrelease", "sync/atomic.StoreUint32", "sync/atomic.LoadInt64"], unfollowed := true, recurses := true, apart := false }
def SpringNilSaid : Prop := springNilRow.holds Try.pinned (OpenSpec.ofChange springNilSpec)

/-- ITS FALSE NEIGHBOUR: 'it returns false'. Refute it at one input. -/
def springNilWrong : ChangeSpec := { name := "springNil", fn := fun _ => fun
  | [d1, d2] => { results := [.lit (.bool false)], args := [d1, d2] }
  | _ => none }
def SpringNilWrongFalsely : Prop := springNilRow.holds Try.pinned (OpenSpec.ofChange springNilWrong)

/-- 'fingerpostlaw09.ProofCosts': WHATEVER THE INPUT: true; the input reads as it did. -/
def proofCostsSpec : ChangeSpec := { name := "proofCosts", fn := fun _ => fun
  | [d1, d2, d3, d4] => { results := [.lit (.bool true)], args := [d1, d2, d3, d4] }
  | _ => none }
def proofCostsRow : OpenClaim := { program := "ytmgnnclkjkbmdaa", sum := "8309e2fdca71f056427c188487ca0525a36e258a66b609e9c8d332c863bfde8a", func := "fingerpost/fingerpostlaw09.ProofCosts", spec := "proofCosts", inPlace := ["sync/atomic.AddInt64", "sync/atomic.LoadUint32", "(*internal/sync.Mutex).Lock", "internal/race.Disable", "sync/atomic.CompareAndSwapInt32", "internal/race.Enable", "internal/race.Acquire", "(*internal/sync.Mutex).lockSlow", "internal/sync.runtime_canSpin", "internal/sync.runtime_doSpin", "internal/sync.throw", "internal/sync.runtime_nanotime", "internal/sync.runtime_SemacquireMutex", "sync/atomic.AddInt32", "(*internal/sync.Mutex).Unlock", "internal/race.ReleaseMerge", "(*internal/sync.Mutex).unlockSlow", "internal/sync.fatal", "internal/sync.runtime_Semrelease", "sync/atomic.StoreUint32"], unfollowed := true, recurses := true, apart := false }
def ProofCostsSaid : Prop := proofCostsRow.holds Try.pinned (OpenSpec.ofChange proofCostsSpec)

/-- ITS FALSE NEIGHBOUR: 'it returns false'. Refute it at one input. -/
def proofCostsWrong : ChangeSpec := { name := "proofCosts", fn := fun _ => fun
  | [d1, d2, d3, d4] => { results := [.lit (.bool false)], args := [d1, d2, d3, d4] }
  | _ => none }
def ProofCostsWrongFalsely : Prop := proofCostsRow.holds Try.pinned (OpenSpec.ofChange proofCostsWrong)

/-- 'fingerpostlaw09.ProofLasts': WHATEVER THE INPUT: true; the input reads as it did. -/
def proofLastsSpec : ChangeSpec := { name := "proofLasts", fn := fun _ => fun
  | [d1, d2, d3, d4, d5, d6] => { results := [.lit (.bool true)], args := [d1, d2, d3, d4, d5, d6] }
  | _ => none }
def proofLastsRow : OpenClaim := { program := "ytmgnnclkjkbmdaa", sum := "8309e2fdca71f056427c188487ca0525a36e258a66b609e9c8d332c863bfde8a", func := "fingerpost/fingerpostlaw09.ProofLasts", spec := "proofLasts", inPlace := ["sync/atomic.AddInt64", "sync/atomic.LoadUint32", "(*internal/sync.Mutex).Lock", "internal/race.Disable", "sync/atomic.CompareAndSwapInt32", "internal/race.Enable", "internal/race.Acquire", "(*internal/sync.Mutex).lockSlow", "internal/sync.runtime_canSpin", "internal/sync.runtime_doSpin", "internal/sync.throw", "internal/sync.runtime_nanotime", "internal/sync.runtime_SemacquireMutex", "sync/atomic.AddInt32", "(*internal/sync.Mutex).Unlock", "internal/race.ReleaseMerge", "(*internal/sync.Mutex).unlockSlow", "internal/sync.fatal", "internal/sync.runtime_Semrelease", "sync/atomic.StoreUint32"], unfollowed := true, recurses := true, apart := false }
def ProofLastsSaid : Prop := proofLastsRow.holds Try.pinned (OpenSpec.ofChange proofLastsSpec)

/-- ITS FALSE NEIGHBOUR: 'it returns false'. Refute it at one input. -/
def proofLastsWrong : ChangeSpec := { name := "proofLasts", fn := fun _ => fun
  | [d1, d2, d3, d4, d5, d6] => { results := [.lit (.bool false)], args := [d1, d2, d3, d4, d5, d6] }
  | _ => none }
def ProofLastsWrongFalsely : Prop := proofLastsRow.holds Try.pinned (OpenSpec.ofChange proofLastsWrong)

/-- 'fingerpostlaw09.ProofQuick': WHATEVER THE INPUT: true; the input reads as it did. -/
def proofQuickSpec : ChangeSpec := { name := "proofQuick", fn := fun _ => fun
  | [d1, d2, d3, d4, d5, d6] => { results := [.lit (.bool true)], args := [d1, d2, d3, d4, d5, d6] }
  | _ => none }
def proofQuickRow : OpenClaim := { program := "ytmgnnclkjkbmdaa", sum := "8309e2fdca71f056427c188487ca0525a36e258a66b609e9c8d332c863bfde8a", func := "fingerpost/fingerpostlaw09.ProofQuick", spec := "proofQuick", inPlace := ["sync/atomic.AddInt64", "sync/atomic.LoadUint32", "(*internal/sync.Mutex).Lock", "internal/race.Disable", "sync/atomic.CompareAndSwapInt32", "internal/race.Enable", "internal/race.Acquire", "(*internal/sync.Mutex).lockSlow", "internal/sync.runtime_canSpin", "internal/sync.runtime_doSpin", "internal/sync.throw", "internal/sync.runtime_nanotime", "internal/sync.runtime_SemacquireMutex", "sync/atomic.AddInt32", "(*internal/sync.Mutex).Unlock", "internal/race.ReleaseMerge", "(*internal/sync.Mutex).unlockSlow", "internal/sync.fatal", "internal/sync.runtime_Semrelease", "sync/atomic.StoreUint32"], unfollowed := true, recurses := true, apart := false }
def ProofQuickSaid : Prop := proofQuickRow.holds Try.pinned (OpenSpec.ofChange proofQuickSpec)

/-- ITS FALSE NEIGHBOUR: 'it returns false'. Refute it at one input. -/
def proofQuickWrong : ChangeSpec := { name := "proofQuick", fn := fun _ => fun
  | [d1, d2, d3, d4, d5, d6] => { results := [.lit (.bool false)], args := [d1, d2, d3, d4, d5, d6] }
  | _ => none }
def ProofQuickWrongFalsely : Prop := proofQuickRow.holds Try.pinned (OpenSpec.ofChange proofQuickWrong)

/- THE SECOND FORM. 'bulk': how many values and letters a reading holds, each counted each time it is reached (what is shared counts as often as it is met; a slice's spare places count too). A statement '..UptoSaid' is the law's where the arguments, and the package variables that the reading takes, are together of bulk at most 1048576: NARROWER than '..Said'. Prove '..Said' where nothing that the law and all that it calls make is longer than what came in: it says more and counts as full. Else prove '..UptoSaid'. A law counts once. -/
mutual
def uptoBulk {H : Type} : DataW H → Nat
  | .lit (.string bytes) => bytes.length + 1
  | .lit _ => 1
  | .nil => 1
  | .ptr d => uptoBulk d + 1
  | .slice elems spare => uptoBulkAll elems + uptoBulkAll spare + 1
  | .agg parts => uptoBulkAll parts + 1
  | .iface _ d => uptoBulk d + 1
  | .map entries => uptoBulkEntries entries + 1
  | .held _ => 1
def uptoBulkAll {H : Type} : List (DataW H) → Nat
  | [] => 0
  | d :: r => uptoBulk d + uptoBulkAll r
def uptoBulkEntries {H : Type} : List (Lit × DataW H) → Nat
  | [] => 0
  | x :: r => uptoBulkEntry x + uptoBulkEntries r
def uptoBulkEntry {H : Type} : Lit × DataW H → Nat
  | (.string bytes, d) => bytes.length + uptoBulk d + 1
  | (_, d) => uptoBulk d + 1
 end
def uptoSmall : (H : Type) → List (DataW H) → Bool := fun _ ds => decide (uptoBulkAll ds ≤ 1048576)
def OpenSpec.upto (s : _root_.Go.ChangeSpec) : _root_.Go.OpenSpec := { _root_.Go.OpenSpec.ofChange s with cond := some uptoSmall }

/-- 'fingerpostlaw10.OtsApart', WHERE WHAT IT READS IS OF BULK AT MOST 1048576: true; the input reads as it did. -/
def otsApartUptoRow : OpenClaim := { program := "ytmgnnclkjkbmdaa", sum := "8309e2fdca71f056427c188487ca0525a36e258a66b609e9c8d332c863bfde8a", func := "fingerpost/fingerpostlaw10.OtsApart", spec := "otsApart", apart := false, narrowed := true }
def OtsApartUptoSaid : Prop := otsApartUptoRow.holds Try.pinned (OpenSpec.upto otsApartSpec)

/-- 'fingerpostlaw10.OtsDigits', WHERE WHAT IT READS IS OF BULK AT MOST 1048576: true; the input reads as it did. -/
def otsDigitsUptoRow : OpenClaim := { program := "ytmgnnclkjkbmdaa", sum := "8309e2fdca71f056427c188487ca0525a36e258a66b609e9c8d332c863bfde8a", func := "fingerpost/fingerpostlaw10.OtsDigits", spec := "otsDigits", apart := false, narrowed := true }
def OtsDigitsUptoSaid : Prop := otsDigitsUptoRow.holds Try.pinned (OpenSpec.upto otsDigitsSpec)

/-- 'fingerpostlaw04.ShaSums', WHERE WHAT IT READS IS OF BULK AT MOST 1048576: true; the input reads as it did. -/
def shaSumsUptoRow : OpenClaim := { program := "ytmgnnclkjkbmdaa", sum := "8309e2fdca71f056427c188487ca0525a36e258a66b609e9c8d332c863bfde8a", func := "fingerpost/fingerpostlaw04.ShaSums", spec := "shaSums", apart := false, narrowed := true }
def ShaSumsUptoSaid : Prop := shaSumsUptoRow.holds Try.pinned (OpenSpec.upto shaSumsSpec)

/-- 'fingerpostlaw04.ShaEdges', WHERE WHAT IT READS IS OF BULK AT MOST 1048576: true; the input reads as it did. -/
def shaEdgesUptoRow : OpenClaim := { program := "ytmgnnclkjkbmdaa", sum := "8309e2fdca71f056427c188487ca0525a36e258a66b609e9c8d332c863bfde8a", func := "fingerpost/fingerpostlaw04.ShaEdges", spec := "shaEdges", apart := false, narrowed := true }
def ShaEdgesUptoSaid : Prop := shaEdgesUptoRow.holds Try.pinned (OpenSpec.upto shaEdgesSpec)

/-- 'fingerpostlaw04.ShaBlocks', WHERE WHAT IT READS IS OF BULK AT MOST 1048576: true; the input reads as it did. -/
def shaBlocksUptoRow : OpenClaim := { program := "ytmgnnclkjkbmdaa", sum := "8309e2fdca71f056427c188487ca0525a36e258a66b609e9c8d332c863bfde8a", func := "fingerpost/fingerpostlaw04.ShaBlocks", spec := "shaBlocks", apart := false, narrowed := true }
def ShaBlocksUptoSaid : Prop := shaBlocksUptoRow.holds Try.pinned (OpenSpec.upto shaBlocksSpec)

/-- 'fingerpostlaw04.ShaParts', WHERE WHAT IT READS IS OF BULK AT MOST 1048576: true; the input reads as it did. -/
def shaPartsUptoRow : OpenClaim := { program := "ytmgnnclkjkbmdaa", sum := "8309e2fdca71f056427c188487ca0525a36e258a66b609e9c8d332c863bfde8a", func := "fingerpost/fingerpostlaw04.ShaParts", spec := "shaParts", apart := false, narrowed := true }
def ShaPartsUptoSaid : Prop := shaPartsUptoRow.holds Try.pinned (OpenSpec.upto shaPartsSpec)

/-- 'fingerpostlaw10.OtsLinks', WHERE WHAT IT READS IS OF BULK AT MOST 1048576: true; the input reads as it did. -/
def otsLinksUptoRow : OpenClaim := { program := "ytmgnnclkjkbmdaa", sum := "8309e2fdca71f056427c188487ca0525a36e258a66b609e9c8d332c863bfde8a", func := "fingerpost/fingerpostlaw10.OtsLinks", spec := "otsLinks", apart := false, narrowed := true }
def OtsLinksUptoSaid : Prop := otsLinksUptoRow.holds Try.pinned (OpenSpec.upto otsLinksSpec)

/-- 'fingerpostlaw04.ShaHexes', WHERE WHAT IT READS IS OF BULK AT MOST 1048576: true; the input reads as it did. -/
def shaHexesUptoRow : OpenClaim := { program := "ytmgnnclkjkbmdaa", sum := "8309e2fdca71f056427c188487ca0525a36e258a66b609e9c8d332c863bfde8a", func := "fingerpost/fingerpostlaw04.ShaHexes", spec := "shaHexes", apart := false, narrowed := true }
def ShaHexesUptoSaid : Prop := shaHexesUptoRow.holds Try.pinned (OpenSpec.upto shaHexesSpec)

/-- 'fingerpostlaw10.OtsRecovers', WHERE WHAT IT READS IS OF BULK AT MOST 1048576: true; the input reads as it did. -/
def otsRecoversUptoRow : OpenClaim := { program := "ytmgnnclkjkbmdaa", sum := "8309e2fdca71f056427c188487ca0525a36e258a66b609e9c8d332c863bfde8a", func := "fingerpost/fingerpostlaw10.OtsRecovers", spec := "otsRecovers", apart := false, narrowed := true }
def OtsRecoversUptoSaid : Prop := otsRecoversUptoRow.holds Try.pinned (OpenSpec.upto otsRecoversSpec)

/-- 'fingerpostlaw10.OtsSound', WHERE WHAT IT READS IS OF BULK AT MOST 1048576: true; the input reads as it did. -/
def otsSoundUptoRow : OpenClaim := { program := "ytmgnnclkjkbmdaa", sum := "8309e2fdca71f056427c188487ca0525a36e258a66b609e9c8d332c863bfde8a", func := "fingerpost/fingerpostlaw10.OtsSound", spec := "otsSound", apart := false, narrowed := true }
def OtsSoundUptoSaid : Prop := otsSoundUptoRow.holds Try.pinned (OpenSpec.upto otsSoundSpec)

/-- 'fingerpostlaw06.LadderUps', WHERE WHAT IT READS IS OF BULK AT MOST 1048576: true; the input reads as it did. -/
def ladderUpsUptoRow : OpenClaim := { program := "ytmgnnclkjkbmdaa", sum := "8309e2fdca71f056427c188487ca0525a36e258a66b609e9c8d332c863bfde8a", func := "fingerpost/fingerpostlaw06.LadderUps", spec := "ladderUps", recurses := true, apart := false, narrowed := true }
def LadderUpsUptoSaid : Prop := ladderUpsUptoRow.holds Try.pinned (OpenSpec.upto ladderUpsSpec)

/-- 'fingerpostlaw05.MacTags', WHERE WHAT IT READS IS OF BULK AT MOST 1048576: true; the input reads as it did. -/
def macTagsUptoRow : OpenClaim := { program := "ytmgnnclkjkbmdaa", sum := "8309e2fdca71f056427c188487ca0525a36e258a66b609e9c8d332c863bfde8a", func := "fingerpost/fingerpostlaw05.MacTags", spec := "macTags", apart := false, narrowed := true }
def MacTagsUptoSaid : Prop := macTagsUptoRow.holds Try.pinned (OpenSpec.upto macTagsSpec)

/-- 'fingerpostlaw05.MacCosts', WHERE WHAT IT READS IS OF BULK AT MOST 1048576: true; the input reads as it did. -/
def macCostsUptoRow : OpenClaim := { program := "ytmgnnclkjkbmdaa", sum := "8309e2fdca71f056427c188487ca0525a36e258a66b609e9c8d332c863bfde8a", func := "fingerpost/fingerpostlaw05.MacCosts", spec := "macCosts", apart := false, narrowed := true }
def MacCostsUptoSaid : Prop := macCostsUptoRow.holds Try.pinned (OpenSpec.upto macCostsSpec)

/-- 'fingerpostlaw06.LadderClimbs', WHERE WHAT IT READS IS OF BULK AT MOST 1048576: true; the input reads as it did. -/
def ladderClimbsUptoRow : OpenClaim := { program := "ytmgnnclkjkbmdaa", sum := "8309e2fdca71f056427c188487ca0525a36e258a66b609e9c8d332c863bfde8a", func := "fingerpost/fingerpostlaw06.LadderClimbs", spec := "ladderClimbs", recurses := true, apart := false, narrowed := true }
def LadderClimbsUptoSaid : Prop := ladderClimbsUptoRow.holds Try.pinned (OpenSpec.upto ladderClimbsSpec)

/-- 'fingerpostlaw06.LadderCosts', WHERE WHAT IT READS IS OF BULK AT MOST 1048576: true; the input reads as it did. -/
def ladderCostsUptoRow : OpenClaim := { program := "ytmgnnclkjkbmdaa", sum := "8309e2fdca71f056427c188487ca0525a36e258a66b609e9c8d332c863bfde8a", func := "fingerpost/fingerpostlaw06.LadderCosts", spec := "ladderCosts", recurses := true, apart := false, narrowed := true }
def LadderCostsUptoSaid : Prop := ladderCostsUptoRow.holds Try.pinned (OpenSpec.upto ladderCostsSpec)

/-- 'fingerpostlaw05.MacShorts', WHERE WHAT IT READS IS OF BULK AT MOST 1048576: true; the input reads as it did. -/
def macShortsUptoRow : OpenClaim := { program := "ytmgnnclkjkbmdaa", sum := "8309e2fdca71f056427c188487ca0525a36e258a66b609e9c8d332c863bfde8a", func := "fingerpost/fingerpostlaw05.MacShorts", spec := "macShorts", apart := false, narrowed := true }
def MacShortsUptoSaid : Prop := macShortsUptoRow.holds Try.pinned (OpenSpec.upto macShortsSpec)

/-- 'fingerpostlaw07.GroveNews', WHERE WHAT IT READS IS OF BULK AT MOST 1048576: true; the input reads as it did. -/
def groveNewsUptoRow : OpenClaim := { program := "ytmgnnclkjkbmdaa", sum := "8309e2fdca71f056427c188487ca0525a36e258a66b609e9c8d332c863bfde8a", func := "fingerpost/fingerpostlaw07.GroveNews", spec := "groveNews", recurses := true, apart := false, narrowed := true }
def GroveNewsUptoSaid : Prop := groveNewsUptoRow.holds Try.pinned (OpenSpec.upto groveNewsSpec)

/-- 'fingerpostlaw07.GroveNil', WHERE WHAT IT READS IS OF BULK AT MOST 1048576: true; the input reads as it did. -/
def groveNilUptoRow : OpenClaim := { program := "ytmgnnclkjkbmdaa", sum := "8309e2fdca71f056427c188487ca0525a36e258a66b609e9c8d332c863bfde8a", func := "fingerpost/fingerpostlaw07.GroveNil", spec := "groveNil", apart := false, narrowed := true }
def GroveNilUptoSaid : Prop := groveNilUptoRow.holds Try.pinned (OpenSpec.upto groveNilSpec)

/-- 'fingerpostlaw05.MacGives', WHERE WHAT IT READS IS OF BULK AT MOST 1048576: true; the input reads as it did. -/
def macGivesUptoRow : OpenClaim := { program := "ytmgnnclkjkbmdaa", sum := "8309e2fdca71f056427c188487ca0525a36e258a66b609e9c8d332c863bfde8a", func := "fingerpost/fingerpostlaw05.MacGives", spec := "macGives", apart := false, narrowed := true }
def MacGivesUptoSaid : Prop := macGivesUptoRow.holds Try.pinned (OpenSpec.upto macGivesSpec)

/-- 'fingerpostlaw06.LadderSound', WHERE WHAT IT READS IS OF BULK AT MOST 1048576: true; the input reads as it did. -/
def ladderSoundUptoRow : OpenClaim := { program := "ytmgnnclkjkbmdaa", sum := "8309e2fdca71f056427c188487ca0525a36e258a66b609e9c8d332c863bfde8a", func := "fingerpost/fingerpostlaw06.LadderSound", spec := "ladderSound", recurses := true, apart := false, narrowed := true }
def LadderSoundUptoSaid : Prop := ladderSoundUptoRow.holds Try.pinned (OpenSpec.upto ladderSoundSpec)

/-- 'fingerpostlaw05.MacHolds', WHERE WHAT IT READS IS OF BULK AT MOST 1048576: true; the input reads as it did. -/
def macHoldsUptoRow : OpenClaim := { program := "ytmgnnclkjkbmdaa", sum := "8309e2fdca71f056427c188487ca0525a36e258a66b609e9c8d332c863bfde8a", func := "fingerpost/fingerpostlaw05.MacHolds", spec := "macHolds", apart := false, narrowed := true }
def MacHoldsUptoSaid : Prop := macHoldsUptoRow.holds Try.pinned (OpenSpec.upto macHoldsSpec)

/-- 'fingerpostlaw06.LadderShows', WHERE WHAT IT READS IS OF BULK AT MOST 1048576: true; the input reads as it did. -/
def ladderShowsUptoRow : OpenClaim := { program := "ytmgnnclkjkbmdaa", sum := "8309e2fdca71f056427c188487ca0525a36e258a66b609e9c8d332c863bfde8a", func := "fingerpost/fingerpostlaw06.LadderShows", spec := "ladderShows", recurses := true, apart := false, narrowed := true }
def LadderShowsUptoSaid : Prop := ladderShowsUptoRow.holds Try.pinned (OpenSpec.upto ladderShowsSpec)

/-- 'fingerpostlaw06.LadderMeets', WHERE WHAT IT READS IS OF BULK AT MOST 1048576: true; the input reads as it did. -/
def ladderMeetsUptoRow : OpenClaim := { program := "ytmgnnclkjkbmdaa", sum := "8309e2fdca71f056427c188487ca0525a36e258a66b609e9c8d332c863bfde8a", func := "fingerpost/fingerpostlaw06.LadderMeets", spec := "ladderMeets", apart := false, narrowed := true }
def LadderMeetsUptoSaid : Prop := ladderMeetsUptoRow.holds Try.pinned (OpenSpec.upto ladderMeetsSpec)

/-- 'fingerpostlaw07.GroveFolds', WHERE WHAT IT READS IS OF BULK AT MOST 1048576: true; the input reads as it did. -/
def groveFoldsUptoRow : OpenClaim := { program := "ytmgnnclkjkbmdaa", sum := "8309e2fdca71f056427c188487ca0525a36e258a66b609e9c8d332c863bfde8a", func := "fingerpost/fingerpostlaw07.GroveFolds", spec := "groveFolds", apart := false, narrowed := true }
def GroveFoldsUptoSaid : Prop := groveFoldsUptoRow.holds Try.pinned (OpenSpec.upto groveFoldsSpec)

/-- 'fingerpostlaw07.GroveLeads', WHERE WHAT IT READS IS OF BULK AT MOST 1048576: true; the input reads as it did. -/
def groveLeadsUptoRow : OpenClaim := { program := "ytmgnnclkjkbmdaa", sum := "8309e2fdca71f056427c188487ca0525a36e258a66b609e9c8d332c863bfde8a", func := "fingerpost/fingerpostlaw07.GroveLeads", spec := "groveLeads", apart := false, narrowed := true }
def GroveLeadsUptoSaid : Prop := groveLeadsUptoRow.holds Try.pinned (OpenSpec.upto groveLeadsSpec)

/-- 'fingerpostlaw07.GroveSound', WHERE WHAT IT READS IS OF BULK AT MOST 1048576: true; the input reads as it did. -/
def groveSoundUptoRow : OpenClaim := { program := "ytmgnnclkjkbmdaa", sum := "8309e2fdca71f056427c188487ca0525a36e258a66b609e9c8d332c863bfde8a", func := "fingerpost/fingerpostlaw07.GroveSound", spec := "groveSound", recurses := true, apart := false, narrowed := true }
def GroveSoundUptoSaid : Prop := groveSoundUptoRow.holds Try.pinned (OpenSpec.upto groveSoundSpec)

/-- 'fingerpostlaw10.OtsSigns', WHERE WHAT IT READS IS OF BULK AT MOST 1048576: true; the input reads as it did. -/
def otsSignsUptoRow : OpenClaim := { program := "ytmgnnclkjkbmdaa", sum := "8309e2fdca71f056427c188487ca0525a36e258a66b609e9c8d332c863bfde8a", func := "fingerpost/fingerpostlaw10.OtsSigns", spec := "otsSigns", apart := false, narrowed := true }
def OtsSignsUptoSaid : Prop := otsSignsUptoRow.holds Try.pinned (OpenSpec.upto otsSignsSpec)

/-- 'fingerpostlaw08.SpringNews', WHERE WHAT IT READS IS OF BULK AT MOST 1048576: true; the input reads as it did. -/
def springNewsUptoRow : OpenClaim := { program := "ytmgnnclkjkbmdaa", sum := "8309e2fdca71f056427c188487ca0525a36e258a66b609e9c8d332c863bfde8a", func := "fingerpost/fingerpostlaw08.SpringNews", spec := "springNews", inPlace := ["sync/atomic.LoadInt64", "sync/atomic.AddInt64", "sync/atomic.LoadUint32", "(*internal/sync.Mutex).Lock", "internal/race.Disable", "sync/atomic.CompareAndSwapInt32", "internal/race.Enable", "internal/race.Acquire", "(*internal/sync.Mutex).lockSlow", "internal/sync.runtime_canSpin", "internal/sync.runtime_doSpin", "internal/sync.throw", "internal/sync.runtime_nanotime", "internal/sync.runtime_SemacquireMutex", "sync/atomic.AddInt32", "(*internal/sync.Mutex).Unlock", "internal/race.ReleaseMerge", "(*internal/sync.Mutex).unlockSlow", "internal/sync.fatal", "internal/sync.runtime_Semrelease", "sync/atomic.StoreUint32"], unfollowed := true, recurses := true, apart := false, narrowed := true }
def SpringNewsUptoSaid : Prop := springNewsUptoRow.holds Try.pinned (OpenSpec.upto springNewsSpec)

/-- 'fingerpostlaw08.SpringOnce', WHERE WHAT IT READS IS OF BULK AT MOST 1048576: true; the input reads as it did. -/
def springOnceUptoRow : OpenClaim := { program := "ytmgnnclkjkbmdaa", sum := "8309e2fdca71f056427c188487ca0525a36e258a66b609e9c8d332c863bfde8a", func := "fingerpost/fingerpostlaw08.SpringOnce", spec := "springOnce", inPlace := ["sync/atomic.LoadInt64", "sync/atomic.AddInt64", "sync/atomic.LoadUint32", "(*internal/sync.Mutex).Lock", "internal/race.Disable", "sync/atomic.CompareAndSwapInt32", "internal/race.Enable", "internal/race.Acquire", "(*internal/sync.Mutex).lockSlow", "internal/sync.runtime_canSpin", "internal/sync.runtime_doSpin", "internal/sync.throw", "internal/sync.runtime_nanotime", "internal/sync.runtime_SemacquireMutex", "sync/atomic.AddInt32", "(*internal/sync.Mutex).Unlock", "internal/race.ReleaseMerge", "(*internal/sync.Mutex).unlockSlow", "internal/sync.fatal", "internal/sync.runtime_Semrelease", "sync/atomic.StoreUint32"], unfollowed := true, recurses := true, apart := false, narrowed := true }
def SpringOnceUptoSaid : Prop := springOnceUptoRow.holds Try.pinned (OpenSpec.upto springOnceSpec)

/-- 'fingerpostlaw08.SpringNil', WHERE WHAT IT READS IS OF BULK AT MOST 1048576: true; the input reads as it did. -/
def springNilUptoRow : OpenClaim := { program := "ytmgnnclkjkbmdaa", sum := "8309e2fdca71f056427c188487ca0525a36e258a66b609e9c8d332c863bfde8a", func := "fingerpost/fingerpostlaw08.SpringNil", spec := "springNil", inPlace := ["sync/atomic.AddInt64", "sync/atomic.LoadUint32", "(*internal/sync.Mutex).Lock", "internal/race.Disable", "sync/atomic.CompareAndSwapInt32", "internal/race.Enable", "internal/race.Acquire", "(*internal/sync.Mutex).lockSlow", "internal/sync.runtime_canSpin", "internal/sync.runtime_doSpin", "internal/sync.throw", "internal/sync.runtime_nanotime", "internal/sync.runtime_SemacquireMutex", "sync/atomic.AddInt32", "(*internal/sync.Mutex).Unlock", "internal/race.ReleaseMerge", "(*internal/sync.Mutex).unlockSlow", "internal/sync.fatal", "internal/sync.runtime_Semrelease", "sync/atomic.StoreUint32", "sync/atomic.LoadInt64"], unfollowed := true, recurses := true, apart := false, narrowed := true }
def SpringNilUptoSaid : Prop := springNilUptoRow.holds Try.pinned (OpenSpec.upto springNilSpec)

/-- 'fingerpostlaw09.ProofCosts', WHERE WHAT IT READS IS OF BULK AT MOST 1048576: true; the input reads as it did. -/
def proofCostsUptoRow : OpenClaim := { program := "ytmgnnclkjkbmdaa", sum := "8309e2fdca71f056427c188487ca0525a36e258a66b609e9c8d332c863bfde8a", func := "fingerpost/fingerpostlaw09.ProofCosts", spec := "proofCosts", inPlace := ["sync/atomic.AddInt64", "sync/atomic.LoadUint32", "(*internal/sync.Mutex).Lock", "internal/race.Disable", "sync/atomic.CompareAndSwapInt32", "internal/race.Enable", "internal/race.Acquire", "(*internal/sync.Mutex).lockSlow", "internal/sync.runtime_canSpin", "internal/sync.runtime_doSpin", "internal/sync.throw", "internal/sync.runtime_nanotime", "internal/sync.runtime_SemacquireMutex", "sync/atomic.AddInt32", "(*internal/sync.Mutex).Unlock", "internal/race.ReleaseMerge", "(*internal/sync.Mutex).unlockSlow", "internal/sync.fatal", "internal/sync.runtime_Semrelease", "sync/atomic.StoreUint32"], unfollowed := true, recurses := true, apart := false, narrowed := true }
def ProofCostsUptoSaid : Prop := proofCostsUptoRow.holds Try.pinned (OpenSpec.upto proofCostsSpec)

/-- 'fingerpostlaw09.ProofLasts', WHERE WHAT IT READS IS OF BULK AT MOST 1048576: true; the input reads as it did. -/
def proofLastsUptoRow : OpenClaim := { program := "ytmgnnclkjkbmdaa", sum := "8309e2fdca71f056427c188487ca0525a36e258a66b609e9c8d332c863bfde8a", func := "fingerpost/fingerpostlaw09.ProofLasts", spec := "proofLasts", inPlace := ["sync/atomic.AddInt64", "sync/atomic.LoadUint32", "(*internal/sync.Mutex).Lock", "internal/race.Disable", "sync/atomic.CompareAndSwapInt32", "internal/race.Enable", "internal/race.Acquire", "(*internal/sync.Mutex).lockSlow", "internal/sync.runtime_canSpin", "internal/sync.runtime_doSpin", "internal/sync.throw", "internal/sync.runtime_nanotime", "internal/sync.runtime_SemacquireMutex", "sync/atomic.AddInt32", "(*internal/sync.Mutex).Unlock", "internal/race.ReleaseMerge", "(*internal/sync.Mutex).unlockSlow", "internal/sync.fatal", "internal/sync.runtime_Semrelease", "sync/atomic.StoreUint32"], unfollowed := true, recurses := true, apart := false, narrowed := true }
def ProofLastsUptoSaid : Prop := proofLastsUptoRow.holds Try.pinned (OpenSpec.upto proofLastsSpec)

/-- 'fingerpostlaw09.ProofQuick', WHERE WHAT IT READS IS OF BULK AT MOST 1048576: true; the input reads as it did. -/
def proofQuickUptoRow : OpenClaim := { program := "ytmgnnclkjkbmdaa", sum := "8309e2fdca71f056427c188487ca0525a36e258a66b609e9c8d332c863bfde8a", func := "fingerpost/fingerpostlaw09.ProofQuick", spec := "proofQuick", inPlace := ["sync/atomic.AddInt64", "sync/atomic.LoadUint32", "(*internal/sync.Mutex).Lock", "internal/race.Disable", "sync/atomic.CompareAndSwapInt32", "internal/race.Enable", "internal/race.Acquire", "(*internal/sync.Mutex).lockSlow", "internal/sync.runtime_canSpin", "internal/sync.runtime_doSpin", "internal/sync.throw", "internal/sync.runtime_nanotime", "internal/sync.runtime_SemacquireMutex", "sync/atomic.AddInt32", "(*internal/sync.Mutex).Unlock", "internal/race.ReleaseMerge", "(*internal/sync.Mutex).unlockSlow", "internal/sync.fatal", "internal/sync.runtime_Semrelease", "sync/atomic.StoreUint32"], unfollowed := true, recurses := true, apart := false, narrowed := true }
def ProofQuickUptoSaid : Prop := proofQuickUptoRow.holds Try.pinned (OpenSpec.upto proofQuickSpec)

end Rows
end Go.Proofs.Ytmgnnclkjkbmdaa
