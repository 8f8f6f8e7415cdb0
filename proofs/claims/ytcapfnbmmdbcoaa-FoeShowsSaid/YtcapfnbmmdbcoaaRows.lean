/-
  No cell of these rows narrows 'for every input' (looked for: loops, veiled, ifaces, maps, wideKeys, modest, calm, conditions, laid).
  DERIVED. THE GIVEN ROWS OF THIS SEAT. 7 by the template 'for every input the law returns true; each argument reads behind the call as it read before'; 0 by the template 'total and deterministic' (their statements: YtcapfnbmmdbcoaaTotals.lean).
  GIVEN WITH THE SEED: the statements are not yours to turn. If you find one false, say at which input.
  Laid BY PROGRAM, IN A SANDBOX (cutbox-rows.mjs): the forced cells as the released guide's own fill.sh prints them over the translation 728760e2710c10ed… (all of the seat's roots in one cut). By AI agents, Wed Nov 11 2026. No macro, syntax, notation, axiom, sorry.
-/
import Derived.Test.YtcapfnbmmdbcoaaChecked
import GoSem.Claim
import GoSem.ClaimJoined
import GoSem.ClaimMapViews
import Derived.JoinedTies
import Derived.KernelRfl
namespace Go.Proofs.Ytcapfnbmmdbcoaa
/- THE CELL 'sum', in the pinned program and in every row, IS THE sha256 OF THE DUMP (.gsa) THAT YtcapfnbmmdbcoaaProg.lean LOADS. Nothing in Lean hashes anything: it is a label: what it is worth is what the hold of that sum in a sandbox is worth. -/
noncomputable def Try.pinned : Pinned := { name := "ytcapfnbmmdbcoaa", sum := "728760e2710c10ed2e7aec616f7614b91c0ab83d7656c19d4335261fb67ff6a7", checked := Try.checked }
namespace Rows
def none {H : Type} : Left H := { results := [], args := [] }

/-- 'caballaw08.TermHides': WHATEVER THE INPUT: true; the input reads as it did. -/
def termHidesSpec : ChangeSpec := { name := "termHides", fn := fun _ => fun
  | [d1, d2, d3] => { results := [.lit (.bool true)], args := [d1, d2, d3] }
  | _ => none }
def termHidesRow : OpenClaim := { program := "ytcapfnbmmdbcoaa", sum := "728760e2710c10ed2e7aec616f7614b91c0ab83d7656c19d4335261fb67ff6a7", func := "cabal/caballaw08.TermHides", spec := "termHides", unfollowed := true, recurses := true, apart := false }
def TermHidesSaid : Prop := termHidesRow.holds Try.pinned (OpenSpec.ofChange termHidesSpec)

/-- ITS FALSE NEIGHBOUR: 'it returns false'. Refute it at one input. -/
def termHidesWrong : ChangeSpec := { name := "termHides", fn := fun _ => fun
  | [d1, d2, d3] => { results := [.lit (.bool false)], args := [d1, d2, d3] }
  | _ => none }
def TermHidesWrongFalsely : Prop := termHidesRow.holds Try.pinned (OpenSpec.ofChange termHidesWrong)

/-- 'caballaw24.FoeMakes': WHATEVER THE INPUT: true; the input reads as it did. -/
def foeMakesSpec : ChangeSpec := { name := "foeMakes", fn := fun _ => fun
  | [d] => { results := [.lit (.bool true)], args := [d] }
  | _ => none }
def foeMakesRow : OpenClaim := { program := "ytcapfnbmmdbcoaa", sum := "728760e2710c10ed2e7aec616f7614b91c0ab83d7656c19d4335261fb67ff6a7", func := "cabal/caballaw24.FoeMakes", spec := "foeMakes", inPlace := ["internal/bytealg.Compare"], apart := false }
def FoeMakesSaid : Prop := foeMakesRow.holds Try.pinned (OpenSpec.ofChange foeMakesSpec)

/-- ITS FALSE NEIGHBOUR: 'it returns false'. Refute it at one input. -/
def foeMakesWrong : ChangeSpec := { name := "foeMakes", fn := fun _ => fun
  | [d] => { results := [.lit (.bool false)], args := [d] }
  | _ => none }
def FoeMakesWrongFalsely : Prop := foeMakesRow.holds Try.pinned (OpenSpec.ofChange foeMakesWrong)

/-- 'caballaw08.TermMeets': WHATEVER THE INPUT: true; the input reads as it did. -/
def termMeetsSpec : ChangeSpec := { name := "termMeets", fn := fun _ => fun
  | [d1, d2] => { results := [.lit (.bool true)], args := [d1, d2] }
  | _ => none }
def termMeetsRow : OpenClaim := { program := "ytcapfnbmmdbcoaa", sum := "728760e2710c10ed2e7aec616f7614b91c0ab83d7656c19d4335261fb67ff6a7", func := "cabal/caballaw08.TermMeets", spec := "termMeets", inPlace := ["internal/bytealg.Compare"], unfollowed := true, recurses := true, apart := false }
def TermMeetsSaid : Prop := termMeetsRow.holds Try.pinned (OpenSpec.ofChange termMeetsSpec)

/-- ITS FALSE NEIGHBOUR: 'it returns false'. Refute it at one input. -/
def termMeetsWrong : ChangeSpec := { name := "termMeets", fn := fun _ => fun
  | [d1, d2] => { results := [.lit (.bool false)], args := [d1, d2] }
  | _ => none }
def TermMeetsWrongFalsely : Prop := termMeetsRow.holds Try.pinned (OpenSpec.ofChange termMeetsWrong)

/-- 'caballaw08.TermPlays': WHATEVER THE INPUT: true; the input reads as it did. -/
def termPlaysSpec : ChangeSpec := { name := "termPlays", fn := fun _ => fun
  | [d] => { results := [.lit (.bool true)], args := [d] }
  | _ => none }
def termPlaysRow : OpenClaim := { program := "ytcapfnbmmdbcoaa", sum := "728760e2710c10ed2e7aec616f7614b91c0ab83d7656c19d4335261fb67ff6a7", func := "cabal/caballaw08.TermPlays", spec := "termPlays", inPlace := ["internal/bytealg.Compare"], unfollowed := true, recurses := true, apart := false }
def TermPlaysSaid : Prop := termPlaysRow.holds Try.pinned (OpenSpec.ofChange termPlaysSpec)

/-- ITS FALSE NEIGHBOUR: 'it returns false'. Refute it at one input. -/
def termPlaysWrong : ChangeSpec := { name := "termPlays", fn := fun _ => fun
  | [d] => { results := [.lit (.bool false)], args := [d] }
  | _ => none }
def TermPlaysWrongFalsely : Prop := termPlaysRow.holds Try.pinned (OpenSpec.ofChange termPlaysWrong)

/-- 'caballaw08.TermMore': WHATEVER THE INPUT: true; the input reads as it did. -/
def termMoreSpec : ChangeSpec := { name := "termMore", fn := fun _ => fun
  | [d1, d2, d3] => { results := [.lit (.bool true)], args := [d1, d2, d3] }
  | _ => none }
def termMoreRow : OpenClaim := { program := "ytcapfnbmmdbcoaa", sum := "728760e2710c10ed2e7aec616f7614b91c0ab83d7656c19d4335261fb67ff6a7", func := "cabal/caballaw08.TermMore", spec := "termMore", inPlace := ["internal/bytealg.Compare"], unfollowed := true, recurses := true, apart := false }
def TermMoreSaid : Prop := termMoreRow.holds Try.pinned (OpenSpec.ofChange termMoreSpec)

/-- ITS FALSE NEIGHBOUR: 'it returns false'. Refute it at one input. -/
def termMoreWrong : ChangeSpec := { name := "termMore", fn := fun _ => fun
  | [d1, d2, d3] => { results := [.lit (.bool false)], args := [d1, d2, d3] }
  | _ => none }
def TermMoreWrongFalsely : Prop := termMoreRow.holds Try.pinned (OpenSpec.ofChange termMoreWrong)

/-- 'caballaw24.FoeFollows': WHATEVER THE INPUT: true; the input reads as it did. -/
def foeFollowsSpec : ChangeSpec := { name := "foeFollows", fn := fun _ => fun
  | [d] => { results := [.lit (.bool true)], args := [d] }
  | _ => none }
def foeFollowsRow : OpenClaim := { program := "ytcapfnbmmdbcoaa", sum := "728760e2710c10ed2e7aec616f7614b91c0ab83d7656c19d4335261fb67ff6a7", func := "cabal/caballaw24.FoeFollows", spec := "foeFollows", inPlace := ["internal/bytealg.Compare"], unfollowed := true, recurses := true, apart := false }
def FoeFollowsSaid : Prop := foeFollowsRow.holds Try.pinned (OpenSpec.ofChange foeFollowsSpec)

/-- ITS FALSE NEIGHBOUR: 'it returns false'. Refute it at one input. -/
def foeFollowsWrong : ChangeSpec := { name := "foeFollows", fn := fun _ => fun
  | [d] => { results := [.lit (.bool false)], args := [d] }
  | _ => none }
def FoeFollowsWrongFalsely : Prop := foeFollowsRow.holds Try.pinned (OpenSpec.ofChange foeFollowsWrong)

/-- 'caballaw24.FoeShows': WHATEVER THE INPUT: true; the input reads as it did. -/
def foeShowsSpec : ChangeSpec := { name := "foeShows", fn := fun _ => fun
  | [d1, d2] => { results := [.lit (.bool true)], args := [d1, d2] }
  | _ => none }
def foeShowsRow : OpenClaim := { program := "ytcapfnbmmdbcoaa", sum := "728760e2710c10ed2e7aec616f7614b91c0ab83d7656c19d4335261fb67ff6a7", func := "cabal/caballaw24.FoeShows", spec := "foeShows", inPlace := ["internal/bytealg.Compare"], unfollowed := true, recurses := true, apart := false }
def FoeShowsSaid : Prop := foeShowsRow.holds Try.pinned (OpenSpec.ofChange foeShowsSpec)

/-- ITS FALSE NEIGHBOUR: 'it returns false'. Refute it at one input. -/
def foeShowsWrong : ChangeSpec := { name := "foeShows", fn := fun _ => fun
  | [d1, d2] => { results := [.lit (.bool false)], args := [d1, d2] }
  | _ => none }
def FoeShowsWrongFalsely : Prop := foeShowsRow.holds Try.pinned (OpenSpec.ofChange foeShowsWrong)

/- THE SECOND FORM. 'bulk': how many values and letters a reading holds, each counted each time it is reached (what is shared counts as often as it is met; a slice's spare places count too). A statement '..UptoSaid' is the law's where the arguments, and the package variables that the reading takes, are together of bulk at most 1048576: NARROWER than '..Said'. Prove '..Said' where nothing that the law and all that it calls make is longer than what came in: it says more and counts as full. Else prove '..UptoSaid'. A law counts once. -/
mutual
def uptoBulk {H : Type} : DataW H → Nat
  | .lit (.string bytes) => bytes.length + 1
  | .lit _ => 1
  | .nil => 1
  | .ptr d => uptoBulk d + 1
  | .slice elems spare => uptoBulkAll elems + uptoBulkAll spare + 1
  | .agg parts => uptoBulkAll parts + 1
  | .iface _ d => uptoBulk d + 1
  | .map entries => uptoBulkEntries entries + 1
  | .held _ => 1
def uptoBulkAll {H : Type} : List (DataW H) → Nat
  | [] => 0
  | d :: r => uptoBulk d + uptoBulkAll r
def uptoBulkEntries {H : Type} : List (Lit × DataW H) → Nat
  | [] => 0
  | x :: r => uptoBulkEntry x + uptoBulkEntries r
def uptoBulkEntry {H : Type} : Lit × DataW H → Nat
  | (.string bytes, d) => bytes.length + uptoBulk d + 1
  | (_, d) => uptoBulk d + 1
 end
def uptoSmall : (H : Type) → List (DataW H) → Bool := fun _ ds => decide (uptoBulkAll ds ≤ 1048576)
def OpenSpec.upto (s : _root_.Go.ChangeSpec) : _root_.Go.OpenSpec := { _root_.Go.OpenSpec.ofChange s with cond := some uptoSmall }

/-- 'caballaw08.TermHides', WHERE WHAT IT READS IS OF BULK AT MOST 1048576: true; the input reads as it did. -/
def termHidesUptoRow : OpenClaim := { program := "ytcapfnbmmdbcoaa", sum := "728760e2710c10ed2e7aec616f7614b91c0ab83d7656c19d4335261fb67ff6a7", func := "cabal/caballaw08.TermHides", spec := "termHides", unfollowed := true, recurses := true, apart := false, narrowed := true }
def TermHidesUptoSaid : Prop := termHidesUptoRow.holds Try.pinned (OpenSpec.upto termHidesSpec)

/-- 'caballaw24.FoeMakes', WHERE WHAT IT READS IS OF BULK AT MOST 1048576: true; the input reads as it did. -/
def foeMakesUptoRow : OpenClaim := { program := "ytcapfnbmmdbcoaa", sum := "728760e2710c10ed2e7aec616f7614b91c0ab83d7656c19d4335261fb67ff6a7", func := "cabal/caballaw24.FoeMakes", spec := "foeMakes", inPlace := ["internal/bytealg.Compare"], apart := false, narrowed := true }
def FoeMakesUptoSaid : Prop := foeMakesUptoRow.holds Try.pinned (OpenSpec.upto foeMakesSpec)

/-- 'caballaw08.TermMeets', WHERE WHAT IT READS IS OF BULK AT MOST 1048576: true; the input reads as it did. -/
def termMeetsUptoRow : OpenClaim := { program := "ytcapfnbmmdbcoaa", sum := "728760e2710c10ed2e7aec616f7614b91c0ab83d7656c19d4335261fb67ff6a7", func := "cabal/caballaw08.TermMeets", spec := "termMeets", inPlace := ["internal/bytealg.Compare"], unfollowed := true, recurses := true, apart := false, narrowed := true }
def TermMeetsUptoSaid : Prop := termMeetsUptoRow.holds Try.pinned (OpenSpec.upto termMeetsSpec)

/-- 'caballaw08.TermPlays', WHERE WHAT IT READS IS OF BULK AT MOST 1048576: true; the input reads as it did. -/
def termPlaysUptoRow : OpenClaim := { program := "ytcapfnbmmdbcoaa", sum := "728760e2710c10ed2e7aec616f7614b91c0ab83d7656c19d4335261fb67ff6a7", func := "cabal/caballaw08.TermPlays", spec := "termPlays", inPlace := ["internal/bytealg.Compare"], unfollowed := true, recurses := true, apart := false, narrowed := true }
def TermPlaysUptoSaid : Prop := termPlaysUptoRow.holds Try.pinned (OpenSpec.upto termPlaysSpec)

/-- 'caballaw08.TermMore', WHERE WHAT IT READS IS OF BULK AT MOST 1048576: true; the input reads as it did. -/
def termMoreUptoRow : OpenClaim := { program := "ytcapfnbmmdbcoaa", sum := "728760e2710c10ed2e7aec616f7614b91c0ab83d7656c19d4335261fb67ff6a7", func := "cabal/caballaw08.TermMore", spec := "termMore", inPlace := ["internal/bytealg.Compare"], unfollowed := true, recurses := true, apart := false, narrowed := true }
def TermMoreUptoSaid : Prop := termMoreUptoRow.holds Try.pinned (OpenSpec.upto termMoreSpec)

/-- 'caballaw24.FoeFollows', WHERE WHAT IT READS IS OF BULK AT MOST 1048576: true; the input reads as it did. -/
def foeFollowsUptoRow : OpenClaim := { program := "ytcapfnbmmdbcoaa", sum := "728760e2710c10ed2e7aec616f7614b91c0ab83d7656c19d4335261fb67ff6a7", func := "cabal/caballaw24.FoeFollows", spec := "foeFollows", inPlace := ["internal/bytealg.Compare"], unfollowed := true, recurses := true, apart := false, narrowed := true }
def FoeFollowsUptoSaid : Prop := foeFollowsUptoRow.holds Try.pinned (OpenSpec.upto foeFollowsSpec)

/-- 'caballaw24.FoeShows', WHERE WHAT IT READS IS OF BULK AT MOST 1048576: true; the input reads as it did. -/
def foeShowsUptoRow : OpenClaim := { program := "ytcapfnbmmdbcoaa", sum := "728760e2710c10ed2e7aec616f7614b91c0ab83d7656c19d4335261fb67ff6a7", func := "cabal/caballaw24.FoeShows", spec := "foeShows", inPlace := ["internal/bytealg.Compare"], unfollowed := true, recurses := true, apart := false, narrowed := true }
def FoeShowsUptoSaid : Prop := foeShowsUptoRow.holds Try.pinned (OpenSpec.upto foeShowsSpec)

end Rows
end Go.Proofs.Ytcapfnbmmdbcoaa
