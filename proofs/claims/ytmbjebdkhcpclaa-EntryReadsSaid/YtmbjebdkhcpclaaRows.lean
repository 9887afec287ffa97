/-
  No cell of these rows narrows 'for every input' (looked for: loops, veiled, ifaces, maps, wideKeys, modest, calm, conditions, laid).
  DERIVED. THE GIVEN ROWS OF THIS SEAT. 7 by the template 'for every input the law returns true; each argument reads behind the call as it read before'; 0 by the template 'total and deterministic' (their statements: YtmbjebdkhcpclaaTotals.lean).
  GIVEN WITH THE SEED: the statements are not yours to turn. If you find one false, say at which input.
  Laid BY PROGRAM, IN A SANDBOX (cutbox-rows.mjs): the forced cells as the released guide's own fill.sh prints them over the translation 42d8ce2caeeb02e2… (all of the seat's roots in one cut). By AI agents, Wed Nov 11 2026. No macro, syntax, notation, axiom, sorry.
-/
import Derived.Test.YtmbjebdkhcpclaaChecked
import GoSem.Claim
import GoSem.ClaimJoined
import GoSem.ClaimMapViews
import Derived.JoinedTies
import Derived.KernelRfl
namespace Go.Proofs.Ytmbjebdkhcpclaa
/- THE CELL 'sum', in the pinned program and in every row, IS THE sha256 OF THE DUMP (.gsa) THAT YtmbjebdkhcpclaaProg.lean LOADS. Nothing in Lean hashes anything: it is a label: what it is worth is what the hold of that sum in a sandbox is worth. -/
noncomputable def Try.pinned : Pinned := { name := "ytmbjebdkhcpclaa", sum := "42d8ce2caeeb02e279ec1a7fcdc47145da00c7b10e3bb7ead3797d7d4d033ef8", checked := Try.checked }
namespace Rows
def none {H : Type} : Left H := { results := [], args := [] }

/-- 'ramekinlaw10.EntryReads': WHATEVER THE INPUT: true; the input reads as it did. -/
def entryReadsSpec : ChangeSpec := { name := "entryReads", fn := fun _ => fun
  | [d1, d2, d3, d4, d5] => { results := [.lit (.bool true)], args := [d1, d2, d3, d4, d5] }
  | _ => none }
def entryReadsRow : OpenClaim := { program := "ytmbjebdkhcpclaa", sum := "42d8ce2caeeb02e279ec1a7fcdc47145da00c7b10e3bb7ead3797d7d4d033ef8", func := "ramekin/ramekinlaw10.EntryReads", spec := "entryReads", unfollowed := true, recurses := true, apart := false }
def EntryReadsSaid : Prop := entryReadsRow.holds Try.pinned (OpenSpec.ofChange entryReadsSpec)

/-- ITS FALSE NEIGHBOUR: 'it returns false'. Refute it at one input. -/
def entryReadsWrong : ChangeSpec := { name := "entryReads", fn := fun _ => fun
  | [d1, d2, d3, d4, d5] => { results := [.lit (.bool false)], args := [d1, d2, d3, d4, d5] }
  | _ => none }
def EntryReadsWrongFalsely : Prop := entryReadsRow.holds Try.pinned (OpenSpec.ofChange entryReadsWrong)

/-- 'ramekinlaw10.EntryBounds': WHATEVER THE INPUT: true; the input reads as it did. -/
def entryBoundsSpec : ChangeSpec := { name := "entryBounds", fn := fun _ => fun
  | [d1, d2] => { results := [.lit (.bool true)], args := [d1, d2] }
  | _ => none }
def entryBoundsRow : OpenClaim := { program := "ytmbjebdkhcpclaa", sum := "42d8ce2caeeb02e279ec1a7fcdc47145da00c7b10e3bb7ead3797d7d4d033ef8", func := "ramekin/ramekinlaw10.EntryBounds", spec := "entryBounds", unfollowed := true, recurses := true, apart := false }
def EntryBoundsSaid : Prop := entryBoundsRow.holds Try.pinned (OpenSpec.ofChange entryBoundsSpec)

/-- ITS FALSE NEIGHBOUR: 'it returns false'. Refute it at one input. -/
def entryBoundsWrong : ChangeSpec := { name := "entryBounds", fn := fun _ => fun
  | [d1, d2] => { results := [.lit (.bool false)], args := [d1, d2] }
  | _ => none }
def EntryBoundsWrongFalsely : Prop := entryBoundsRow.holds Try.pinned (OpenSpec.ofChange entryBoundsWrong)

/-- 'ramekinlaw10.EntryCuts': WHATEVER THE INPUT: true; the input reads as it did. -/
def entryCutsSpec : ChangeSpec := { name := "entryCuts", fn := fun _ => fun
  | [d1, d2] => { results := [.lit (.bool true)], args := [d1, d2] }
  | _ => none }
def entryCutsRow : OpenClaim := { program := "ytmbjebdkhcpclaa", sum := "42d8ce2caeeb02e279ec1a7fcdc47145da00c7b10e3bb7ead3797d7d4d033ef8", func := "ramekin/ramekinlaw10.EntryCuts", spec := "entryCuts", unfollowed := true, recurses := true, apart := false }
def EntryCutsSaid : Prop := entryCutsRow.holds Try.pinned (OpenSpec.ofChange entryCutsSpec)

/-- ITS FALSE NEIGHBOUR: 'it returns false'. Refute it at one input. -/
def entryCutsWrong : ChangeSpec := { name := "entryCuts", fn := fun _ => fun
  | [d1, d2] => { results := [.lit (.bool false)], args := [d1, d2] }
  | _ => none }
def EntryCutsWrongFalsely : Prop := entryCutsRow.holds Try.pinned (OpenSpec.ofChange entryCutsWrong)

/-- 'ramekinlaw10.EntrySerials': WHATEVER THE INPUT: true; the input reads as it did. -/
def entrySerialsSpec : ChangeSpec := { name := "entrySerials", fn := fun _ => fun
  | [d1, d2, d3, d4] => { results := [.lit (.bool true)], args := [d1, d2, d3, d4] }
  | _ => none }
def entrySerialsRow : OpenClaim := { program := "ytmbjebdkhcpclaa", sum := "42d8ce2caeeb02e279ec1a7fcdc47145da00c7b10e3bb7ead3797d7d4d033ef8", func := "ramekin/ramekinlaw10.EntrySerials", spec := "entrySerials", unfollowed := true, recurses := true, apart := false }
def EntrySerialsSaid : Prop := entrySerialsRow.holds Try.pinned (OpenSpec.ofChange entrySerialsSpec)

/-- ITS FALSE NEIGHBOUR: 'it returns false'. Refute it at one input. -/
def entrySerialsWrong : ChangeSpec := { name := "entrySerials", fn := fun _ => fun
  | [d1, d2, d3, d4] => { results := [.lit (.bool false)], args := [d1, d2, d3, d4] }
  | _ => none }
def EntrySerialsWrongFalsely : Prop := entrySerialsRow.holds Try.pinned (OpenSpec.ofChange entrySerialsWrong)

/-- 'ramekinlaw10.EntryBytes': WHATEVER THE INPUT: true; the input reads as it did. -/
def entryBytesSpec : ChangeSpec := { name := "entryBytes", fn := fun _ => fun
  | [d1, d2, d3, d4, d5] => { results := [.lit (.bool true)], args := [d1, d2, d3, d4, d5] }
  | _ => none }
def entryBytesRow : OpenClaim := { program := "ytmbjebdkhcpclaa", sum := "42d8ce2caeeb02e279ec1a7fcdc47145da00c7b10e3bb7ead3797d7d4d033ef8", func := "ramekin/ramekinlaw10.EntryBytes", spec := "entryBytes", unfollowed := true, recurses := true, apart := false }
def EntryBytesSaid : Prop := entryBytesRow.holds Try.pinned (OpenSpec.ofChange entryBytesSpec)

/-- ITS FALSE NEIGHBOUR: 'it returns false'. Refute it at one input. -/
def entryBytesWrong : ChangeSpec := { name := "entryBytes", fn := fun _ => fun
  | [d1, d2, d3, d4, d5] => { results := [.lit (.bool false)], args := [d1, d2, d3, d4, d5] }
  | _ => none }
def EntryBytesWrongFalsely : Prop := entryBytesRow.holds Try.pinned (OpenSpec.ofChange entryBytesWrong)

/-- 'ramekinlaw10.EntryPlaces': WHATEVER THE INPUT: true; the input reads as it did. -/
def entryPlacesSpec : ChangeSpec := { name := "entryPlaces", fn := fun _ => fun
  | [d1, d2, d3, d4, d5] => { results := [.lit (.bool true)], args := [d1, d2, d3, d4, d5] }
  | _ => none }
def entryPlacesRow : OpenClaim := { program := "ytmbjebdkhcpclaa", sum := "42d8ce2caeeb02e279ec1a7fcdc47145da00c7b10e3bb7ead3797d7d4d033ef8", func := "ramekin/ramekinlaw10.EntryPlaces", spec := "entryPlaces", unfollowed := true, recurses := true, apart := false }
def EntryPlacesSaid : Prop := entryPlacesRow.holds Try.pinned (OpenSpec.ofChange entryPlacesSpec)

/-- ITS FALSE NEIGHBOUR: 'it returns false'. Refute it at one input. -/
def entryPlacesWrong : ChangeSpec := { name := "entryPlaces", fn := fun _ => fun
  | [d1, d2, d3, d4, d5] => { results := [.lit (.bool false)], args := [d1, d2, d3, d4, d5] }
  | _ => none }
def EntryPlacesWrongFalsely : Prop := entryPlacesRow.holds Try.pinned (OpenSpec.ofChange entryPlacesWrong)

/-- 'ramekinlaw10.EntryUnlike': WHATEVER THE INPUT: true; the input reads as it did. -/
def entryUnlikeSpec : ChangeSpec := { name := "entryUnlike", fn := fun _ => fun
  | [d1, d2, d3, d4] => { results := [.lit (.bool true)], args := [d1, d2, d3, d4] }
  | _ => none }
def entryUnlikeRow : OpenClaim := { program := "ytmbjebdkhcpclaa", sum := "42d8ce2caeeb02e279ec1a7fcdc47145da00c7b10e3bb7ead3797d7d4d033ef8", func := "ramekin/ramekinlaw10.EntryUnlike", spec := "entryUnlike", unfollowed := true, recurses := true, apart := false }
def EntryUnlikeSaid : Prop := entryUnlikeRow.holds Try.pinned (OpenSpec.ofChange entryUnlikeSpec)

/-- ITS FALSE NEIGHBOUR: 'it returns false'. Refute it at one input. -/
def entryUnlikeWrong : ChangeSpec := { name := "entryUnlike", fn := fun _ => fun
  | [d1, d2, d3, d4] => { results := [.lit (.bool false)], args := [d1, d2, d3, d4] }
  | _ => none }
def EntryUnlikeWrongFalsely : Prop := entryUnlikeRow.holds Try.pinned (OpenSpec.ofChange entryUnlikeWrong)

/- THE SECOND FORM. 'bulk': how many values and letters a reading holds, each counted each time it is reached (what is shared counts as often as it is met; a slice's spare places count too). A statement '..UptoSaid' is the law's where the arguments, and the package variables that the reading takes, are together of bulk at most 1048576: NARROWER than '..Said'. Prove '..Said' where nothing that the law and all that it calls make is longer than what came in: it says more and counts as full. Else prove '..UptoSaid'. A law counts once. -/
mutual
def uptoBulk {H : Type} : DataW H → Nat
  | .lit (.string bytes) => bytes.length + 1
  | .lit _ => 1
  | .nil => 1
  | .ptr d => uptoBulk d + 1
  | .slice elems spare => uptoBulkAll elems + uptoBulkAll spare + 1
  | .agg parts => uptoBulkAll parts + 1
  | .iface _ d => uptoBulk d + 1
  | .map entries => uptoBulkEntries entries + 1
  | .held _ => 1
def uptoBulkAll {H : Type} : List (DataW H) → Nat
  | [] => 0
  | d :: r => uptoBulk d + uptoBulkAll r
def uptoBulkEntries {H : Type} : List (Lit × DataW H) → Nat
  | [] => 0
  | x :: r => uptoBulkEntry x + uptoBulkEntries r
def uptoBulkEntry {H : Type} : Lit × DataW H → Nat
  | (.string bytes, d) => bytes.length + uptoBulk d + 1
  | (_, d) => uptoBulk d + 1
 end
def uptoSmall : (H : Type) → List (DataW H) → Bool := fun _ ds => decide (uptoBulkAll ds ≤ 1048576)
def OpenSpec.upto (s : _root_.Go.ChangeSpec) : _root_.Go.OpenSpec := { _root_.Go.OpenSpec.ofChange s with cond := some uptoSmall }

/-- 'ramekinlaw10.EntryReads', WHERE WHAT IT READS IS OF BULK AT MOST 1048576: true; the input reads as it did. -/
def entryReadsUptoRow : OpenClaim := { program := "ytmbjebdkhcpclaa", sum := "42d8ce2caeeb02e279ec1a7fcdc47145da00c7b10e3bb7ead3797d7d4d033ef8", func := "ramekin/ramekinlaw10.EntryReads", spec := "entryReads", unfollowed := true, recurses := true, apart := false, narrowed := true }
def EntryReadsUptoSaid : Prop := entryReadsUptoRow.holds Try.pinned (OpenSpec.upto entryReadsSpec)

/-- 'ramekinlaw10.EntryBounds', WHERE WHAT IT READS IS OF BULK AT MOST 1048576: true; the input reads as it did. -/
def entryBoundsUptoRow : OpenClaim := { program := "ytmbjebdkhcpclaa", sum := "42d8ce2caeeb02e279ec1a7fcdc47145da00c7b10e3bb7ead3797d7d4d033ef8", func := "ramekin/ramekinlaw10.EntryBounds", spec := "entryBounds", unfollowed := true, recurses := true, apart := false, narrowed := true }
def EntryBoundsUptoSaid : Prop := entryBoundsUptoRow.holds Try.pinned (OpenSpec.upto entryBoundsSpec)

/-- 'ramekinlaw10.EntryCuts', WHERE WHAT IT READS IS OF BULK AT MOST 1048576: true; the input reads as it did. -/
def entryCutsUptoRow : OpenClaim := { program := "ytmbjebdkhcpclaa", sum := "42d8ce2caeeb02e279ec1a7fcdc47145da00c7b10e3bb7ead3797d7d4d033ef8", func := "ramekin/ramekinlaw10.EntryCuts", spec := "entryCuts", unfollowed := true, recurses := true, apart := false, narrowed := true }
def EntryCutsUptoSaid : Prop := entryCutsUptoRow.holds Try.pinned (OpenSpec.upto entryCutsSpec)

/-- 'ramekinlaw10.EntrySerials', WHERE WHAT IT READS IS OF BULK AT MOST 1048576: true; the input reads as it did. -/
def entrySerialsUptoRow : OpenClaim := { program := "ytmbjebdkhcpclaa", sum := "42d8ce2caeeb02e279ec1a7fcdc47145da00c7b10e3bb7ead3797d7d4d033ef8", func := "ramekin/ramekinlaw10.EntrySerials", spec := "entrySerials", unfollowed := true, recurses := true, apart := false, narrowed := true }
def EntrySerialsUptoSaid : Prop := entrySerialsUptoRow.holds Try.pinned (OpenSpec.upto entrySerialsSpec)

/-- 'ramekinlaw10.EntryBytes', WHERE WHAT IT READS IS OF BULK AT MOST 1048576: true; the input reads as it did. -/
def entryBytesUptoRow : OpenClaim := { program := "ytmbjebdkhcpclaa", sum := "42d8ce2caeeb02e279ec1a7fcdc47145da00c7b10e3bb7ead3797d7d4d033ef8", func := "ramekin/ramekinlaw10.EntryBytes", spec := "entryBytes", unfollowed := true, recurses := true, apart := false, narrowed := true }
def EntryBytesUptoSaid : Prop := entryBytesUptoRow.holds Try.pinned (OpenSpec.upto entryBytesSpec)

/-- 'ramekinlaw10.EntryPlaces', WHERE WHAT IT READS IS OF BULK AT MOST 1048576: true; the input reads as it did. -/
def entryPlacesUptoRow : OpenClaim := { program := "ytmbjebdkhcpclaa", sum := "42d8ce2caeeb02e279ec1a7fcdc47145da00c7b10e3bb7ead3797d7d4d033ef8", func := "ramekin/ramekinlaw10.EntryPlaces", spec := "entryPlaces", unfollowed := true, recurses := true, apart := false, narrowed := true }
def EntryPlacesUptoSaid : Prop := entryPlacesUptoRow.holds Try.pinned (OpenSpec.upto entryPlacesSpec)

/-- 'ramekinlaw10.EntryUnlike', WHERE WHAT IT READS IS OF BULK AT MOST 1048576: true; the input reads as it did. -/
def entryUnlikeUptoRow : OpenClaim := { program := "ytmbjebdkhcpclaa", sum := "42d8ce2caeeb02e279ec1a7fcdc47145da00c7b10e3bb7ead3797d7d4d033ef8", func := "ramekin/ramekinlaw10.EntryUnlike", spec := "entryUnlike", unfollowed := true, recurses := true, apart := false, narrowed := true }
def EntryUnlikeUptoSaid : Prop := entryUnlikeUptoRow.holds Try.pinned (OpenSpec.upto entryUnlikeSpec)

end Rows
end Go.Proofs.Ytmbjebdkhcpclaa
