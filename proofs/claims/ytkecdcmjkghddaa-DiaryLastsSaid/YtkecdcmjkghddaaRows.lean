/-
  No cell of these rows narrows 'for every input' (looked for: loops, veiled, ifaces, maps, wideKeys, modest, calm, conditions, laid).
  DERIVED. THE GIVEN ROWS OF THIS SEAT. 6 by the template 'for every input the law returns true; each argument reads behind the call as it read before'; 0 by the template 'total and deterministic' (their statements: YtkecdcmjkghddaaTotals.lean).
  GIVEN WITH THE SEED: the statements are not yours to turn. If you find one false, say at which input.
  Laid BY PROGRAM, IN A SANDBOX (cutbox-rows.mjs): the forced cells as the released guide's own fill.sh prints them over the translation 18819cd4a2d93d8f… (all of the seat's roots in one cut). By AI agents, Wed Nov 11 2026. No macro, syntax, notation, axiom, sorry.
-/
import Derived.Test.YtkecdcmjkghddaaChecked
import GoSem.Claim
import GoSem.ClaimJoined
import GoSem.ClaimMapViews
import Derived.JoinedTies
import Derived.KernelRfl
namespace Go.Proofs.Ytkecdcmjkghddaa
/- THE CELL 'sum', in the pinned program and in every row, IS THE sha256 OF THE DUMP (.gsa) THAT YtkecdcmjkghddaaProg.lean LOADS. Nothing in Lean hashes anything: it is a label: what it is worth is what the hold of that sum in a sandbox is worth. -/
noncomputable def Try.pinned : Pinned := { name := "ytkecdcmjkghddaa", sum := "18819cd4a2d93d8f7d0903e4fc77abbf0db9c06a82fc6b9befba53658deb2f94", checked := Try.checked }
namespace Rows
def none {H : Type} : Left H := { results := [], args := [] }

/-- 'fingerpostlaw14.SlateLasts': WHATEVER THE INPUT: true; the input reads as it did. -/
def slateLastsSpec : ChangeSpec := { name := "slateLasts", fn := fun _ => fun
  | [d] => { results := [.lit (.bool true)], args := [d] }
  | _ => none }
def slateLastsRow : OpenClaim := { program := "ytkecdcmjkghddaa", sum := "18819cd4a2d93d8f7d0903e4fc77abbf0db9c06a82fc6b9befba53658deb2f94", func := "fingerpost/fingerpostlaw14.SlateLasts", spec := "slateLasts", apart := false }
def SlateLastsSaid : Prop := slateLastsRow.holds Try.pinned (OpenSpec.ofChange slateLastsSpec)

/-- ITS FALSE NEIGHBOUR: 'it returns false'. Refute it at one input. -/
def slateLastsWrong : ChangeSpec := { name := "slateLasts", fn := fun _ => fun
  | [d] => { results := [.lit (.bool false)], args := [d] }
  | _ => none }
def SlateLastsWrongFalsely : Prop := slateLastsRow.holds Try.pinned (OpenSpec.ofChange slateLastsWrong)

/-- 'fingerpostlaw14.SlatePlays': WHATEVER THE INPUT: true; the input reads as it did. -/
def slatePlaysSpec : ChangeSpec := { name := "slatePlays", fn := fun _ => fun
  | [d1, d2, d3] => { results := [.lit (.bool true)], args := [d1, d2, d3] }
  | _ => none }
def slatePlaysRow : OpenClaim := { program := "ytkecdcmjkghddaa", sum := "18819cd4a2d93d8f7d0903e4fc77abbf0db9c06a82fc6b9befba53658deb2f94", func := "fingerpost/fingerpostlaw14.SlatePlays", spec := "slatePlays", apart := false }
def SlatePlaysSaid : Prop := slatePlaysRow.holds Try.pinned (OpenSpec.ofChange slatePlaysSpec)

/-- ITS FALSE NEIGHBOUR: 'it returns false'. Refute it at one input. -/
def slatePlaysWrong : ChangeSpec := { name := "slatePlays", fn := fun _ => fun
  | [d1, d2, d3] => { results := [.lit (.bool false)], args := [d1, d2, d3] }
  | _ => none }
def SlatePlaysWrongFalsely : Prop := slatePlaysRow.holds Try.pinned (OpenSpec.ofChange slatePlaysWrong)

/-- 'fingerpostlaw14.SlateNil': WHATEVER THE INPUT: true; the input reads as it did. -/
def slateNilSpec : ChangeSpec := { name := "slateNil", fn := fun _ => fun
  | [d1, d2] => { results := [.lit (.bool true)], args := [d1, d2] }
  | _ => none }
def slateNilRow : OpenClaim := { program := "ytkecdcmjkghddaa", sum := "18819cd4a2d93d8f7d0903e4fc77abbf0db9c06a82fc6b9befba53658deb2f94", func := "fingerpost/fingerpostlaw14.SlateNil", spec := "slateNil", apart := false }
def SlateNilSaid : Prop := slateNilRow.holds Try.pinned (OpenSpec.ofChange slateNilSpec)

/-- ITS FALSE NEIGHBOUR: 'it returns false'. Refute it at one input. -/
def slateNilWrong : ChangeSpec := { name := "slateNil", fn := fun _ => fun
  | [d1, d2] => { results := [.lit (.bool false)], args := [d1, d2] }
  | _ => none }
def SlateNilWrongFalsely : Prop := slateNilRow.holds Try.pinned (OpenSpec.ofChange slateNilWrong)

/-- 'fingerpostlaw15.DiaryTurns': WHATEVER THE INPUT: true; the input reads as it did. -/
def diaryTurnsSpec : ChangeSpec := { name := "diaryTurns", fn := fun _ => fun
  | [d1, d2, d3] => { results := [.lit (.bool true)], args := [d1, d2, d3] }
  | _ => none }
def diaryTurnsRow : OpenClaim := { program := "ytkecdcmjkghddaa", sum := "18819cd4a2d93d8f7d0903e4fc77abbf0db9c06a82fc6b9befba53658deb2f94", func := "fingerpost/fingerpostlaw15.DiaryTurns", spec := "diaryTurns", apart := false }
def DiaryTurnsSaid : Prop := diaryTurnsRow.holds Try.pinned (OpenSpec.ofChange diaryTurnsSpec)

/-- ITS FALSE NEIGHBOUR: 'it returns false'. Refute it at one input. -/
def diaryTurnsWrong : ChangeSpec := { name := "diaryTurns", fn := fun _ => fun
  | [d1, d2, d3] => { results := [.lit (.bool false)], args := [d1, d2, d3] }
  | _ => none }
def DiaryTurnsWrongFalsely : Prop := diaryTurnsRow.holds Try.pinned (OpenSpec.ofChange diaryTurnsWrong)

/-- 'fingerpostlaw15.DiaryNil': WHATEVER THE INPUT: true; the input reads as it did. -/
def diaryNilSpec : ChangeSpec := { name := "diaryNil", fn := fun _ => fun
  | [d1, d2] => { results := [.lit (.bool true)], args := [d1, d2] }
  | _ => none }
def diaryNilRow : OpenClaim := { program := "ytkecdcmjkghddaa", sum := "18819cd4a2d93d8f7d0903e4fc77abbf0db9c06a82fc6b9befba53658deb2f94", func := "fingerpost/fingerpostlaw15.DiaryNil", spec := "diaryNil", apart := false }
def DiaryNilSaid : Prop := diaryNilRow.holds Try.pinned (OpenSpec.ofChange diaryNilSpec)

/-- ITS FALSE NEIGHBOUR: 'it returns false'. Refute it at one input. -/
def diaryNilWrong : ChangeSpec := { name := "diaryNil", fn := fun _ => fun
  | [d1, d2] => { results := [.lit (.bool false)], args := [d1, d2] }
  | _ => none }
def DiaryNilWrongFalsely : Prop := diaryNilRow.holds Try.pinned (OpenSpec.ofChange diaryNilWrong)

/-- 'fingerpostlaw15.DiaryLasts': WHATEVER THE INPUT: true; the input reads as it did. -/
def diaryLastsSpec : ChangeSpec := { name := "diaryLasts", fn := fun _ => fun
  | [d] => { results := [.lit (.bool true)], args := [d] }
  | _ => none }
def diaryLastsRow : OpenClaim := { program := "ytkecdcmjkghddaa", sum := "18819cd4a2d93d8f7d0903e4fc77abbf0db9c06a82fc6b9befba53658deb2f94", func := "fingerpost/fingerpostlaw15.DiaryLasts", spec := "diaryLasts", apart := false }
def DiaryLastsSaid : Prop := diaryLastsRow.holds Try.pinned (OpenSpec.ofChange diaryLastsSpec)

/-- ITS FALSE NEIGHBOUR: 'it returns false'. Refute it at one input. -/
def diaryLastsWrong : ChangeSpec := { name := "diaryLasts", fn := fun _ => fun
  | [d] => { results := [.lit (.bool false)], args := [d] }
  | _ => none }
def DiaryLastsWrongFalsely : Prop := diaryLastsRow.holds Try.pinned (OpenSpec.ofChange diaryLastsWrong)

/- THE SECOND FORM. 'bulk': how many values and letters a reading holds, each counted each time it is reached (what is shared counts as often as it is met; a slice's spare places count too). A statement '..UptoSaid' is the law's where the arguments, and the package variables that the reading takes, are together of bulk at most 1048576: NARROWER than '..Said'. Prove '..Said' where nothing that the law and all that it calls make is longer than what came in: it says more and counts as full. Else prove '..UptoSaid'. A law counts once. -/
mutual
def uptoBulk {H : Type} : DataW H → Nat
  | .lit (.string bytes) => bytes.length + 1
  | .lit _ => 1
  | .nil => 1
  | .ptr d => uptoBulk d + 1
  | .slice elems spare => uptoBulkAll elems + uptoBulkAll spare + 1
  | .agg parts => uptoBulkAll parts + 1
  | .iface _ d => uptoBulk d + 1
  | .map entries => uptoBulkEntries entries + 1
  | .held _ => 1
def uptoBulkAll {H : Type} : List (DataW H) → Nat
  | [] => 0
  | d :: r => uptoBulk d + uptoBulkAll r
def uptoBulkEntries {H : Type} : List (Lit × DataW H) → Nat
  | [] => 0
  | x :: r => uptoBulkEntry x + uptoBulkEntries r
def uptoBulkEntry {H : Type} : Lit × DataW H → Nat
  | (.string bytes, d) => bytes.length + uptoBulk d + 1
  | (_, d) => uptoBulk d + 1
 end
def uptoSmall : (H : Type) → List (DataW H) → Bool := fun _ ds => decide (uptoBulkAll ds ≤ 1048576)
def OpenSpec.upto (s : _root_.Go.ChangeSpec) : _root_.Go.OpenSpec := { _root_.Go.OpenSpec.ofChange s with cond := some uptoSmall }

/-- 'fingerpostlaw14.SlateLasts', WHERE WHAT IT READS IS OF BULK AT MOST 1048576: true; the input reads as it did. -/
def slateLastsUptoRow : OpenClaim := { program := "ytkecdcmjkghddaa", sum := "18819cd4a2d93d8f7d0903e4fc77abbf0db9c06a82fc6b9befba53658deb2f94", func := "fingerpost/fingerpostlaw14.SlateLasts", spec := "slateLasts", apart := false, narrowed := true }
def SlateLastsUptoSaid : Prop := slateLastsUptoRow.holds Try.pinned (OpenSpec.upto slateLastsSpec)

/-- 'fingerpostlaw14.SlatePlays', WHERE WHAT IT READS IS OF BULK AT MOST 1048576: true; the input reads as it did. -/
def slatePlaysUptoRow : OpenClaim := { program := "ytkecdcmjkghddaa", sum := "18819cd4a2d93d8f7d0903e4fc77abbf0db9c06a82fc6b9befba53658deb2f94", func := "fingerpost/fingerpostlaw14.SlatePlays", spec := "slatePlays", apart := false, narrowed := true }
def SlatePlaysUptoSaid : Prop := slatePlaysUptoRow.holds Try.pinned (OpenSpec.upto slatePlaysSpec)

/-- 'fingerpostlaw14.SlateNil', WHERE WHAT IT READS IS OF BULK AT MOST 1048576: true; the input reads as it did. -/
def slateNilUptoRow : OpenClaim := { program := "ytkecdcmjkghddaa", sum := "18819cd4a2d93d8f7d0903e4fc77abbf0db9c06a82fc6b9befba53658deb2f94", func := "fingerpost/fingerpostlaw14.SlateNil", spec := "slateNil", apart := false, narrowed := true }
def SlateNilUptoSaid : Prop := slateNilUptoRow.holds Try.pinned (OpenSpec.upto slateNilSpec)

/-- 'fingerpostlaw15.DiaryTurns', WHERE WHAT IT READS IS OF BULK AT MOST 1048576: true; the input reads as it did. -/
def diaryTurnsUptoRow : OpenClaim := { program := "ytkecdcmjkghddaa", sum := "18819cd4a2d93d8f7d0903e4fc77abbf0db9c06a82fc6b9befba53658deb2f94", func := "fingerpost/fingerpostlaw15.DiaryTurns", spec := "diaryTurns", apart := false, narrowed := true }
def DiaryTurnsUptoSaid : Prop := diaryTurnsUptoRow.holds Try.pinned (OpenSpec.upto diaryTurnsSpec)

/-- 'fingerpostlaw15.DiaryNil', WHERE WHAT IT READS IS OF BULK AT MOST 1048576: true; the input reads as it did. -/
def diaryNilUptoRow : OpenClaim := { program := "ytkecdcmjkghddaa", sum := "18819cd4a2d93d8f7d0903e4fc77abbf0db9c06a82fc6b9befba53658deb2f94", func := "fingerpost/fingerpostlaw15.DiaryNil", spec := "diaryNil", apart := false, narrowed := true }
def DiaryNilUptoSaid : Prop := diaryNilUptoRow.holds Try.pinned (OpenSpec.upto diaryNilSpec)

/-- 'fingerpostlaw15.DiaryLasts', WHERE WHAT IT READS IS OF BULK AT MOST 1048576: true; the input reads as it did. -/
def diaryLastsUptoRow : OpenClaim := { program := "ytkecdcmjkghddaa", sum := "18819cd4a2d93d8f7d0903e4fc77abbf0db9c06a82fc6b9befba53658deb2f94", func := "fingerpost/fingerpostlaw15.DiaryLasts", spec := "diaryLasts", apart := false, narrowed := true }
def DiaryLastsUptoSaid : Prop := diaryLastsUptoRow.holds Try.pinned (OpenSpec.upto diaryLastsSpec)

end Rows
end Go.Proofs.Ytkecdcmjkghddaa
