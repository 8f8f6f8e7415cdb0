/-
  No cell of these rows narrows 'for every input' (looked for: loops, veiled, ifaces, maps, wideKeys, modest, calm, conditions, laid).
  DERIVED. THE GIVEN ROWS OF THIS SEAT. 15 by the template 'for every input the law returns true; each argument reads behind the call as it read before'; 0 by the template 'total and deterministic' (their statements: YtcjfpcajjhccaaaTotals.lean).
  GIVEN WITH THE SEED: the statements are not yours to turn. If you find one false, say at which input.
  Laid BY PROGRAM, IN A SANDBOX (cutbox-rows.mjs): the forced cells as the released guide's own fill.sh prints them over the translation 374270f250aeec16… (all of the seat's roots in one cut). By AI agents, Wed Nov 11 2026. No macro, syntax, notation, axiom, sorry.
-/
import Derived.Test.YtcjfpcajjhccaaaChecked
import GoSem.Claim
import GoSem.ClaimJoined
import GoSem.ClaimMapViews
import Derived.JoinedTies
import Derived.KernelRfl
namespace Go.Proofs.Ytcjfpcajjhccaaa
/- THE CELL 'sum', in the pinned program and in every row, IS THE sha256 OF THE DUMP (.gsa) THAT YtcjfpcajjhccaaaProg.lean LOADS. Nothing in Lean hashes anything: it is a label: what it is worth is what the hold of that sum in a sandbox is worth. -/
noncomputable def Try.pinned : Pinned := { name := "ytcjfpcajjhccaaa", sum := "374270f250aeec1628a6044751850f654bf7c4818921bf2191971b5adb80d0ed", checked := Try.checked }
namespace Rows
def none {H : Type} : Left H := { results := [], args := [] }

/-- 'caballaw03.StreamBlocks': WHATEVER THE INPUT: true; the input reads as it did. -/
def streamBlocksSpec : ChangeSpec := { name := "streamBlocks", fn := fun _ => fun
  | [d1, d2, d3] => { results := [.lit (.bool true)], args := [d1, d2, d3] }
  | _ => none }
def streamBlocksRow : OpenClaim := { program := "ytcjfpcajjhccaaa", sum := "374270f250aeec1628a6044751850f654bf7c4818921bf2191971b5adb80d0ed", func := "cabal/caballaw03.StreamBlocks", spec := "streamBlocks", apart := false }
def StreamBlocksSaid : Prop := streamBlocksRow.holds Try.pinned (OpenSpec.ofChange streamBlocksSpec)

/-- ITS FALSE NEIGHBOUR: 'it returns false'. Refute it at one input. -/
def streamBlocksWrong : ChangeSpec := { name := "streamBlocks", fn := fun _ => fun
  | [d1, d2, d3] => { results := [.lit (.bool false)], args := [d1, d2, d3] }
  | _ => none }
def StreamBlocksWrongFalsely : Prop := streamBlocksRow.holds Try.pinned (OpenSpec.ofChange streamBlocksWrong)

/-- 'caballaw03.StreamQuarter': WHATEVER THE INPUT: true; the input reads as it did. -/
def streamQuarterSpec : ChangeSpec := { name := "streamQuarter", fn := fun _ => fun
  | [d1, d2, d3, d4] => { results := [.lit (.bool true)], args := [d1, d2, d3, d4] }
  | _ => none }
def streamQuarterRow : OpenClaim := { program := "ytcjfpcajjhccaaa", sum := "374270f250aeec1628a6044751850f654bf7c4818921bf2191971b5adb80d0ed", func := "cabal/caballaw03.StreamQuarter", spec := "streamQuarter", apart := false }
def StreamQuarterSaid : Prop := streamQuarterRow.holds Try.pinned (OpenSpec.ofChange streamQuarterSpec)

/-- ITS FALSE NEIGHBOUR: 'it returns false'. Refute it at one input. -/
def streamQuarterWrong : ChangeSpec := { name := "streamQuarter", fn := fun _ => fun
  | [d1, d2, d3, d4] => { results := [.lit (.bool false)], args := [d1, d2, d3, d4] }
  | _ => none }
def StreamQuarterWrongFalsely : Prop := streamQuarterRow.holds Try.pinned (OpenSpec.ofChange streamQuarterWrong)

/-- 'caballaw03.StreamMasks': WHATEVER THE INPUT: true; the input reads as it did. -/
def streamMasksSpec : ChangeSpec := { name := "streamMasks", fn := fun _ => fun
  | [d1, d2, d3, d4] => { results := [.lit (.bool true)], args := [d1, d2, d3, d4] }
  | _ => none }
def streamMasksRow : OpenClaim := { program := "ytcjfpcajjhccaaa", sum := "374270f250aeec1628a6044751850f654bf7c4818921bf2191971b5adb80d0ed", func := "cabal/caballaw03.StreamMasks", spec := "streamMasks", apart := false }
def StreamMasksSaid : Prop := streamMasksRow.holds Try.pinned (OpenSpec.ofChange streamMasksSpec)

/-- ITS FALSE NEIGHBOUR: 'it returns false'. Refute it at one input. -/
def streamMasksWrong : ChangeSpec := { name := "streamMasks", fn := fun _ => fun
  | [d1, d2, d3, d4] => { results := [.lit (.bool false)], args := [d1, d2, d3, d4] }
  | _ => none }
def StreamMasksWrongFalsely : Prop := streamMasksRow.holds Try.pinned (OpenSpec.ofChange streamMasksWrong)

/-- 'caballaw03.StreamBack': WHATEVER THE INPUT: true; the input reads as it did. -/
def streamBackSpec : ChangeSpec := { name := "streamBack", fn := fun _ => fun
  | [d1, d2, d3, d4] => { results := [.lit (.bool true)], args := [d1, d2, d3, d4] }
  | _ => none }
def streamBackRow : OpenClaim := { program := "ytcjfpcajjhccaaa", sum := "374270f250aeec1628a6044751850f654bf7c4818921bf2191971b5adb80d0ed", func := "cabal/caballaw03.StreamBack", spec := "streamBack", apart := false }
def StreamBackSaid : Prop := streamBackRow.holds Try.pinned (OpenSpec.ofChange streamBackSpec)

/-- ITS FALSE NEIGHBOUR: 'it returns false'. Refute it at one input. -/
def streamBackWrong : ChangeSpec := { name := "streamBack", fn := fun _ => fun
  | [d1, d2, d3, d4] => { results := [.lit (.bool false)], args := [d1, d2, d3, d4] }
  | _ => none }
def StreamBackWrongFalsely : Prop := streamBackRow.holds Try.pinned (OpenSpec.ofChange streamBackWrong)

/-- 'caballaw03.StreamParts': WHATEVER THE INPUT: true; the input reads as it did. -/
def streamPartsSpec : ChangeSpec := { name := "streamParts", fn := fun _ => fun
  | [d1, d2, d3, d4, d5, d6] => { results := [.lit (.bool true)], args := [d1, d2, d3, d4, d5, d6] }
  | _ => none }
def streamPartsRow : OpenClaim := { program := "ytcjfpcajjhccaaa", sum := "374270f250aeec1628a6044751850f654bf7c4818921bf2191971b5adb80d0ed", func := "cabal/caballaw03.StreamParts", spec := "streamParts", apart := false }
def StreamPartsSaid : Prop := streamPartsRow.holds Try.pinned (OpenSpec.ofChange streamPartsSpec)

/-- ITS FALSE NEIGHBOUR: 'it returns false'. Refute it at one input. -/
def streamPartsWrong : ChangeSpec := { name := "streamParts", fn := fun _ => fun
  | [d1, d2, d3, d4, d5, d6] => { results := [.lit (.bool false)], args := [d1, d2, d3, d4, d5, d6] }
  | _ => none }
def StreamPartsWrongFalsely : Prop := streamPartsRow.holds Try.pinned (OpenSpec.ofChange streamPartsWrong)

/-- 'caballaw04.OnetimeTags': WHATEVER THE INPUT: true; the input reads as it did. -/
def onetimeTagsSpec : ChangeSpec := { name := "onetimeTags", fn := fun _ => fun
  | [d1, d2] => { results := [.lit (.bool true)], args := [d1, d2] }
  | _ => none }
def onetimeTagsRow : OpenClaim := { program := "ytcjfpcajjhccaaa", sum := "374270f250aeec1628a6044751850f654bf7c4818921bf2191971b5adb80d0ed", func := "cabal/caballaw04.OnetimeTags", spec := "onetimeTags", apart := false }
def OnetimeTagsSaid : Prop := onetimeTagsRow.holds Try.pinned (OpenSpec.ofChange onetimeTagsSpec)

/-- ITS FALSE NEIGHBOUR: 'it returns false'. Refute it at one input. -/
def onetimeTagsWrong : ChangeSpec := { name := "onetimeTags", fn := fun _ => fun
  | [d1, d2] => { results := [.lit (.bool false)], args := [d1, d2] }
  | _ => none }
def OnetimeTagsWrongFalsely : Prop := onetimeTagsRow.holds Try.pinned (OpenSpec.ofChange onetimeTagsWrong)

/-- 'caballaw04.OnetimeEnds': WHATEVER THE INPUT: true; the input reads as it did. -/
def onetimeEndsSpec : ChangeSpec := { name := "onetimeEnds", fn := fun _ => fun
  | [d1, d2] => { results := [.lit (.bool true)], args := [d1, d2] }
  | _ => none }
def onetimeEndsRow : OpenClaim := { program := "ytcjfpcajjhccaaa", sum := "374270f250aeec1628a6044751850f654bf7c4818921bf2191971b5adb80d0ed", func := "cabal/caballaw04.OnetimeEnds", spec := "onetimeEnds", apart := false }
def OnetimeEndsSaid : Prop := onetimeEndsRow.holds Try.pinned (OpenSpec.ofChange onetimeEndsSpec)

/-- ITS FALSE NEIGHBOUR: 'it returns false'. Refute it at one input. -/
def onetimeEndsWrong : ChangeSpec := { name := "onetimeEnds", fn := fun _ => fun
  | [d1, d2] => { results := [.lit (.bool false)], args := [d1, d2] }
  | _ => none }
def OnetimeEndsWrongFalsely : Prop := onetimeEndsRow.holds Try.pinned (OpenSpec.ofChange onetimeEndsWrong)

/-- 'caballaw04.OnetimeSums': WHATEVER THE INPUT: true; the input reads as it did. -/
def onetimeSumsSpec : ChangeSpec := { name := "onetimeSums", fn := fun _ => fun
  | [d1, d2, d3] => { results := [.lit (.bool true)], args := [d1, d2, d3] }
  | _ => none }
def onetimeSumsRow : OpenClaim := { program := "ytcjfpcajjhccaaa", sum := "374270f250aeec1628a6044751850f654bf7c4818921bf2191971b5adb80d0ed", func := "cabal/caballaw04.OnetimeSums", spec := "onetimeSums", apart := false }
def OnetimeSumsSaid : Prop := onetimeSumsRow.holds Try.pinned (OpenSpec.ofChange onetimeSumsSpec)

/-- ITS FALSE NEIGHBOUR: 'it returns false'. Refute it at one input. -/
def onetimeSumsWrong : ChangeSpec := { name := "onetimeSums", fn := fun _ => fun
  | [d1, d2, d3] => { results := [.lit (.bool false)], args := [d1, d2, d3] }
  | _ => none }
def OnetimeSumsWrongFalsely : Prop := onetimeSumsRow.holds Try.pinned (OpenSpec.ofChange onetimeSumsWrong)

/-- 'caballaw04.OnetimeWrites': WHATEVER THE INPUT: true; the input reads as it did. -/
def onetimeWritesSpec : ChangeSpec := { name := "onetimeWrites", fn := fun _ => fun
  | [d1, d2] => { results := [.lit (.bool true)], args := [d1, d2] }
  | _ => none }
def onetimeWritesRow : OpenClaim := { program := "ytcjfpcajjhccaaa", sum := "374270f250aeec1628a6044751850f654bf7c4818921bf2191971b5adb80d0ed", func := "cabal/caballaw04.OnetimeWrites", spec := "onetimeWrites", apart := false }
def OnetimeWritesSaid : Prop := onetimeWritesRow.holds Try.pinned (OpenSpec.ofChange onetimeWritesSpec)

/-- ITS FALSE NEIGHBOUR: 'it returns false'. Refute it at one input. -/
def onetimeWritesWrong : ChangeSpec := { name := "onetimeWrites", fn := fun _ => fun
  | [d1, d2] => { results := [.lit (.bool false)], args := [d1, d2] }
  | _ => none }
def OnetimeWritesWrongFalsely : Prop := onetimeWritesRow.holds Try.pinned (OpenSpec.ofChange onetimeWritesWrong)

/-- 'caballaw04.OnetimePieces': WHATEVER THE INPUT: true; the input reads as it did. -/
def onetimePiecesSpec : ChangeSpec := { name := "onetimePieces", fn := fun _ => fun
  | [d1, d2, d3] => { results := [.lit (.bool true)], args := [d1, d2, d3] }
  | _ => none }
def onetimePiecesRow : OpenClaim := { program := "ytcjfpcajjhccaaa", sum := "374270f250aeec1628a6044751850f654bf7c4818921bf2191971b5adb80d0ed", func := "cabal/caballaw04.OnetimePieces", spec := "onetimePieces", apart := false }
def OnetimePiecesSaid : Prop := onetimePiecesRow.holds Try.pinned (OpenSpec.ofChange onetimePiecesSpec)

/-- ITS FALSE NEIGHBOUR: 'it returns false'. Refute it at one input. -/
def onetimePiecesWrong : ChangeSpec := { name := "onetimePieces", fn := fun _ => fun
  | [d1, d2, d3] => { results := [.lit (.bool false)], args := [d1, d2, d3] }
  | _ => none }
def OnetimePiecesWrongFalsely : Prop := onetimePiecesRow.holds Try.pinned (OpenSpec.ofChange onetimePiecesWrong)

/-- 'caballaw05.AeadSeals': WHATEVER THE INPUT: true; the input reads as it did. -/
def aeadSealsSpec : ChangeSpec := { name := "aeadSeals", fn := fun _ => fun
  | [d1, d2, d3, d4] => { results := [.lit (.bool true)], args := [d1, d2, d3, d4] }
  | _ => none }
def aeadSealsRow : OpenClaim := { program := "ytcjfpcajjhccaaa", sum := "374270f250aeec1628a6044751850f654bf7c4818921bf2191971b5adb80d0ed", func := "cabal/caballaw05.AeadSeals", spec := "aeadSeals", apart := false }
def AeadSealsSaid : Prop := aeadSealsRow.holds Try.pinned (OpenSpec.ofChange aeadSealsSpec)

/-- ITS FALSE NEIGHBOUR: 'it returns false'. Refute it at one input. -/
def aeadSealsWrong : ChangeSpec := { name := "aeadSeals", fn := fun _ => fun
  | [d1, d2, d3, d4] => { results := [.lit (.bool false)], args := [d1, d2, d3, d4] }
  | _ => none }
def AeadSealsWrongFalsely : Prop := aeadSealsRow.holds Try.pinned (OpenSpec.ofChange aeadSealsWrong)

/-- 'caballaw05.AeadOpens': WHATEVER THE INPUT: true; the input reads as it did. -/
def aeadOpensSpec : ChangeSpec := { name := "aeadOpens", fn := fun _ => fun
  | [d1, d2, d3, d4] => { results := [.lit (.bool true)], args := [d1, d2, d3, d4] }
  | _ => none }
def aeadOpensRow : OpenClaim := { program := "ytcjfpcajjhccaaa", sum := "374270f250aeec1628a6044751850f654bf7c4818921bf2191971b5adb80d0ed", func := "cabal/caballaw05.AeadOpens", spec := "aeadOpens", apart := false }
def AeadOpensSaid : Prop := aeadOpensRow.holds Try.pinned (OpenSpec.ofChange aeadOpensSpec)

/-- ITS FALSE NEIGHBOUR: 'it returns false'. Refute it at one input. -/
def aeadOpensWrong : ChangeSpec := { name := "aeadOpens", fn := fun _ => fun
  | [d1, d2, d3, d4] => { results := [.lit (.bool false)], args := [d1, d2, d3, d4] }
  | _ => none }
def AeadOpensWrongFalsely : Prop := aeadOpensRow.holds Try.pinned (OpenSpec.ofChange aeadOpensWrong)

/-- 'caballaw05.AeadBack': WHATEVER THE INPUT: true; the input reads as it did. -/
def aeadBackSpec : ChangeSpec := { name := "aeadBack", fn := fun _ => fun
  | [d1, d2, d3, d4, d5] => { results := [.lit (.bool true)], args := [d1, d2, d3, d4, d5] }
  | _ => none }
def aeadBackRow : OpenClaim := { program := "ytcjfpcajjhccaaa", sum := "374270f250aeec1628a6044751850f654bf7c4818921bf2191971b5adb80d0ed", func := "cabal/caballaw05.AeadBack", spec := "aeadBack", apart := false }
def AeadBackSaid : Prop := aeadBackRow.holds Try.pinned (OpenSpec.ofChange aeadBackSpec)

/-- ITS FALSE NEIGHBOUR: 'it returns false'. Refute it at one input. -/
def aeadBackWrong : ChangeSpec := { name := "aeadBack", fn := fun _ => fun
  | [d1, d2, d3, d4, d5] => { results := [.lit (.bool false)], args := [d1, d2, d3, d4, d5] }
  | _ => none }
def AeadBackWrongFalsely : Prop := aeadBackRow.holds Try.pinned (OpenSpec.ofChange aeadBackWrong)

/-- 'caballaw05.AeadOnly': WHATEVER THE INPUT: true; the input reads as it did. -/
def aeadOnlySpec : ChangeSpec := { name := "aeadOnly", fn := fun _ => fun
  | [d1, d2, d3, d4] => { results := [.lit (.bool true)], args := [d1, d2, d3, d4] }
  | _ => none }
def aeadOnlyRow : OpenClaim := { program := "ytcjfpcajjhccaaa", sum := "374270f250aeec1628a6044751850f654bf7c4818921bf2191971b5adb80d0ed", func := "cabal/caballaw05.AeadOnly", spec := "aeadOnly", apart := false }
def AeadOnlySaid : Prop := aeadOnlyRow.holds Try.pinned (OpenSpec.ofChange aeadOnlySpec)

/-- ITS FALSE NEIGHBOUR: 'it returns false'. Refute it at one input. -/
def aeadOnlyWrong : ChangeSpec := { name := "aeadOnly", fn := fun _ => fun
  | [d1, d2, d3, d4] => { results := [.lit (.bool false)], args := [d1, d2, d3, d4] }
  | _ => none }
def AeadOnlyWrongFalsely : Prop := aeadOnlyRow.holds Try.pinned (OpenSpec.ofChange aeadOnlyWrong)

/-- 'caballaw05.AeadTurned': WHATEVER THE INPUT: true; the input reads as it did. -/
def aeadTurnedSpec : ChangeSpec := { name := "aeadTurned", fn := fun _ => fun
  | [d1, d2, d3, d4, d5, d6] => { results := [.lit (.bool true)], args := [d1, d2, d3, d4, d5, d6] }
  | _ => none }
def aeadTurnedRow : OpenClaim := { program := "ytcjfpcajjhccaaa", sum := "374270f250aeec1628a6044751850f654bf7c4818921bf2191971b5adb80d0ed", func := "cabal/caballaw05.AeadTurned", spec := "aeadTurned", apart := false }
def AeadTurnedSaid : Prop := aeadTurnedRow.holds Try.pinned (OpenSpec.ofChange aeadTurnedSpec)

/-- ITS FALSE NEIGHBOUR: 'it returns false'. Refute it at one input. -/
def aeadTurnedWrong : ChangeSpec := { name := "aeadTurned", fn := fun _ => fun
  | [d1, d2, d3, d4, d5, d6] => { results := [.lit (.bool false)], args := [d1, d2, d3, d4, d5, d6] }
  | _ => none }
def AeadTurnedWrongFalsely : Prop := aeadTurnedRow.holds Try.pinned (OpenSpec.ofChange aeadTurnedWrong)

/- THE SECOND FORM. 'bulk': how many values and letters a reading holds, each counted each time it is reached (what is shared counts as often as it is met; a slice's spare places count too). A statement '..UptoSaid' is the law's where the arguments, and the package variables that the reading takes, are together of bulk at most 1048576: NARROWER than '..Said'. Prove '..Said' where nothing that the law and all that it calls make is longer than what came in: it says more and counts as full. Else prove '..UptoSaid'. A law counts once. -/
mutual
def uptoBulk {H : Type} : DataW H → Nat
  | .lit (.string bytes) => bytes.length + 1
  | .lit _ => 1
  | .nil => 1
  | .ptr d => uptoBulk d + 1
  | .slice elems spare => uptoBulkAll elems + uptoBulkAll spare + 1
  | .agg parts => uptoBulkAll parts + 1
  | .iface _ d => uptoBulk d + 1
  | .map entries => uptoBulkEntries entries + 1
  | .held _ => 1
def uptoBulkAll {H : Type} : List (DataW H) → Nat
  | [] => 0
  | d :: r => uptoBulk d + uptoBulkAll r
def uptoBulkEntries {H : Type} : List (Lit × DataW H) → Nat
  | [] => 0
  | x :: r => uptoBulkEntry x + uptoBulkEntries r
def uptoBulkEntry {H : Type} : Lit × DataW H → Nat
  | (.string bytes, d) => bytes.length + uptoBulk d + 1
  | (_, d) => uptoBulk d + 1
 end
def uptoSmall : (H : Type) → List (DataW H) → Bool := fun _ ds => decide (uptoBulkAll ds ≤ 1048576)
def OpenSpec.upto (s : _root_.Go.ChangeSpec) : _root_.Go.OpenSpec := { _root_.Go.OpenSpec.ofChange s with cond := some uptoSmall }

/-- 'caballaw03.StreamBlocks', WHERE WHAT IT READS IS OF BULK AT MOST 1048576: true; the input reads as it did. -/
def streamBlocksUptoRow : OpenClaim := { program := "ytcjfpcajjhccaaa", sum := "374270f250aeec1628a6044751850f654bf7c4818921bf2191971b5adb80d0ed", func := "cabal/caballaw03.StreamBlocks", spec := "streamBlocks", apart := false, narrowed := true }
def StreamBlocksUptoSaid : Prop := streamBlocksUptoRow.holds Try.pinned (OpenSpec.upto streamBlocksSpec)

/-- 'caballaw03.StreamQuarter', WHERE WHAT IT READS IS OF BULK AT MOST 1048576: true; the input reads as it did. -/
def streamQuarterUptoRow : OpenClaim := { program := "ytcjfpcajjhccaaa", sum := "374270f250aeec1628a6044751850f654bf7c4818921bf2191971b5adb80d0ed", func := "cabal/caballaw03.StreamQuarter", spec := "streamQuarter", apart := false, narrowed := true }
def StreamQuarterUptoSaid : Prop := streamQuarterUptoRow.holds Try.pinned (OpenSpec.upto streamQuarterSpec)

/-- 'caballaw03.StreamMasks', WHERE WHAT IT READS IS OF BULK AT MOST 1048576: true; the input reads as it did. -/
def streamMasksUptoRow : OpenClaim := { program := "ytcjfpcajjhccaaa", sum := "374270f250aeec1628a6044751850f654bf7c4818921bf2191971b5adb80d0ed", func := "cabal/caballaw03.StreamMasks", spec := "streamMasks", apart := false, narrowed := true }
def StreamMasksUptoSaid : Prop := streamMasksUptoRow.holds Try.pinned (OpenSpec.upto streamMasksSpec)

/-- 'caballaw03.StreamBack', WHERE WHAT IT READS IS OF BULK AT MOST 1048576: true; the input reads as it did. -/
def streamBackUptoRow : OpenClaim := { program := "ytcjfpcajjhccaaa", sum := "374270f250aeec1628a6044751850f654bf7c4818921bf2191971b5adb80d0ed", func := "cabal/caballaw03.StreamBack", spec := "streamBack", apart := false, narrowed := true }
def StreamBackUptoSaid : Prop := streamBackUptoRow.holds Try.pinned (OpenSpec.upto streamBackSpec)

/-- 'caballaw03.StreamParts', WHERE WHAT IT READS IS OF BULK AT MOST 1048576: true; the input reads as it did. -/
def streamPartsUptoRow : OpenClaim := { program := "ytcjfpcajjhccaaa", sum := "374270f250aeec1628a6044751850f654bf7c4818921bf2191971b5adb80d0ed", func := "cabal/caballaw03.StreamParts", spec := "streamParts", apart := false, narrowed := true }
def StreamPartsUptoSaid : Prop := streamPartsUptoRow.holds Try.pinned (OpenSpec.upto streamPartsSpec)

/-- 'caballaw04.OnetimeTags', WHERE WHAT IT READS IS OF BULK AT MOST 1048576: true; the input reads as it did. -/
def onetimeTagsUptoRow : OpenClaim := { program := "ytcjfpcajjhccaaa", sum := "374270f250aeec1628a6044751850f654bf7c4818921bf2191971b5adb80d0ed", func := "cabal/caballaw04.OnetimeTags", spec := "onetimeTags", apart := false, narrowed := true }
def OnetimeTagsUptoSaid : Prop := onetimeTagsUptoRow.holds Try.pinned (OpenSpec.upto onetimeTagsSpec)

/-- 'caballaw04.OnetimeEnds', WHERE WHAT IT READS IS OF BULK AT MOST 1048576: true; the input reads as it did. -/
def onetimeEndsUptoRow : OpenClaim := { program := "ytcjfpcajjhccaaa", sum := "374270f250aeec1628a6044751850f654bf7c4818921bf2191971b5adb80d0ed", func := "cabal/caballaw04.OnetimeEnds", spec := "onetimeEnds", apart := false, narrowed := true }
def OnetimeEndsUptoSaid : Prop := onetimeEndsUptoRow.holds Try.pinned (OpenSpec.upto onetimeEndsSpec)

/-- 'caballaw04.OnetimeSums', WHERE WHAT IT READS IS OF BULK AT MOST 1048576: true; the input reads as it did. -/
def onetimeSumsUptoRow : OpenClaim := { program := "ytcjfpcajjhccaaa", sum := "374270f250aeec1628a6044751850f654bf7c4818921bf2191971b5adb80d0ed", func := "cabal/caballaw04.OnetimeSums", spec := "onetimeSums", apart := false, narrowed := true }
def OnetimeSumsUptoSaid : Prop := onetimeSumsUptoRow.holds Try.pinned (OpenSpec.upto onetimeSumsSpec)

/-- 'caballaw04.OnetimeWrites', WHERE WHAT IT READS IS OF BULK AT MOST 1048576: true; the input reads as it did. -/
def onetimeWritesUptoRow : OpenClaim := { program := "ytcjfpcajjhccaaa", sum := "374270f250aeec1628a6044751850f654bf7c4818921bf2191971b5adb80d0ed", func := "cabal/caballaw04.OnetimeWrites", spec := "onetimeWrites", apart := false, narrowed := true }
def OnetimeWritesUptoSaid : Prop := onetimeWritesUptoRow.holds Try.pinned (OpenSpec.upto onetimeWritesSpec)

/-- 'caballaw04.OnetimePieces', WHERE WHAT IT READS IS OF BULK AT MOST 1048576: true; the input reads as it did. -/
def onetimePiecesUptoRow : OpenClaim := { program := "ytcjfpcajjhccaaa", sum := "374270f250aeec1628a6044751850f654bf7c4818921bf2191971b5adb80d0ed", func := "cabal/caballaw04.OnetimePieces", spec := "onetimePieces", apart := false, narrowed := true }
def OnetimePiecesUptoSaid : Prop := onetimePiecesUptoRow.holds Try.pinned (OpenSpec.upto onetimePiecesSpec)

/-- 'caballaw05.AeadSeals', WHERE WHAT IT READS IS OF BULK AT MOST 1048576: true; the input reads as it did. -/
def aeadSealsUptoRow : OpenClaim := { program := "ytcjfpcajjhccaaa", sum := "374270f250aeec1628a6044751850f654bf7c4818921bf2191971b5adb80d0ed", func := "cabal/caballaw05.AeadSeals", spec := "aeadSeals", apart := false, narrowed := true }
def AeadSealsUptoSaid : Prop := aeadSealsUptoRow.holds Try.pinned (OpenSpec.upto aeadSealsSpec)

/-- 'caballaw05.AeadOpens', WHERE WHAT IT READS IS OF BULK AT MOST 1048576: true; the input reads as it did. -/
def aeadOpensUptoRow : OpenClaim := { program := "ytcjfpcajjhccaaa", sum := "374270f250aeec1628a6044751850f654bf7c4818921bf2191971b5adb80d0ed", func := "cabal/caballaw05.AeadOpens", spec := "aeadOpens", apart := false, narrowed := true }
def AeadOpensUptoSaid : Prop := aeadOpensUptoRow.holds Try.pinned (OpenSpec.upto aeadOpensSpec)

/-- 'caballaw05.AeadBack', WHERE WHAT IT READS IS OF BULK AT MOST 1048576: true; the input reads as it did. -/
def aeadBackUptoRow : OpenClaim := { program := "ytcjfpcajjhccaaa", sum := "374270f250aeec1628a6044751850f654bf7c4818921bf2191971b5adb80d0ed", func := "cabal/caballaw05.AeadBack", spec := "aeadBack", apart := false, narrowed := true }
def AeadBackUptoSaid : Prop := aeadBackUptoRow.holds Try.pinned (OpenSpec.upto aeadBackSpec)

/-- 'caballaw05.AeadOnly', WHERE WHAT IT READS IS OF BULK AT MOST 1048576: true; the input reads as it did. -/
def aeadOnlyUptoRow : OpenClaim := { program := "ytcjfpcajjhccaaa", sum := "374270f250aeec1628a6044751850f654bf7c4818921bf2191971b5adb80d0ed", func := "cabal/caballaw05.AeadOnly", spec := "aeadOnly", apart := false, narrowed := true }
def AeadOnlyUptoSaid : Prop := aeadOnlyUptoRow.holds Try.pinned (OpenSpec.upto aeadOnlySpec)

/-- 'caballaw05.AeadTurned', WHERE WHAT IT READS IS OF BULK AT MOST 1048576: true; the input reads as it did. -/
def aeadTurnedUptoRow : OpenClaim := { program := "ytcjfpcajjhccaaa", sum := "374270f250aeec1628a6044751850f654bf7c4818921bf2191971b5adb80d0ed", func := "cabal/caballaw05.AeadTurned", spec := "aeadTurned", apart := false, narrowed := true }
def AeadTurnedUptoSaid : Prop := aeadTurnedUptoRow.holds Try.pinned (OpenSpec.upto aeadTurnedSpec)

end Rows
end Go.Proofs.Ytcjfpcajjhccaaa
