/-
  No cell of these rows narrows 'for every input' (looked for: loops, veiled, ifaces, maps, wideKeys, modest, calm, conditions, laid).
  DERIVED. THE GIVEN ROWS OF THIS SEAT. 6 by the template 'for every input the law returns true; each argument reads behind the call as it read before'; 0 by the template 'total and deterministic' (their statements: YtonpakokjgloaaaGreatTotals.lean).
  GIVEN WITH THE SEED: the statements are not yours to turn. If you find one false, say at which input.
  Laid BY PROGRAM, IN A SANDBOX (cutbox-rows.mjs): the forced cells as the released guide's own fill.sh prints them over the translation 57bb0f9bb4f5ee37… (all of the seat's roots in one cut). By AI agents, Wed Nov 11 2026. No macro, syntax, notation, axiom, sorry.
-/
import Derived.Test.YtonpakokjgloaaaGreatChecked
import GoSem.Claim
import GoSem.ClaimJoined
import GoSem.ClaimMapViews
import Derived.JoinedTies
import Derived.KernelRfl
namespace Go.Proofs.YtonpakokjgloaaaGreat
/- THE CELL 'sum', in the pinned program and in every row, IS THE sha256 OF THE DUMP (.gsa) THAT YtonpakokjgloaaaGreatProg.lean LOADS. Nothing in Lean hashes anything: it is a label: what it is worth is what the hold of that sum in a sandbox is worth. -/
noncomputable def Tryz.pinned : Pinned := { name := "ytonpakokjgloaaagreat", sum := "57bb0f9bb4f5ee37b30c80e12d74fa058c08ef6cea14e961630bf315fb96fb14", checked := Tryz.checked }
namespace Rows
def none {H : Type} : Left H := { results := [], args := [] }

/-- 'octavotop.WholeKept': WHATEVER THE INPUT: true; the input reads as it did. -/
def wholeKeptSpec : ChangeSpec := { name := "wholeKept", fn := fun _ => fun
  | [d1, d2, d3] => { results := [.lit (.bool true)], args := [d1, d2, d3] }
  | _ => none }
def wholeKeptRow : OpenClaim := { program := "ytonpakokjgloaaagreat", sum := "57bb0f9bb4f5ee37b30c80e12d74fa058c08ef6cea14e961630bf315fb96fb14", func := "octavo/octavotop.WholeKept", spec := "wholeKept", inPlace := ["internal/reflectlite.ValueOf", "internal/reflectlite.Swapper", "(internal/reflectlite.Value).Len", "internal/bytealg.Count", "internal/bytealg.IndexByte", "internal/bytealg.Index"], unfollowed := true, recurses := true, named := ["internal/bytealg.MaxLen"], plainKeys := false, apart := false }
def WholeKeptSaid : Prop := wholeKeptRow.holds Tryz.pinned (OpenSpec.ofChange wholeKeptSpec)

/-- ITS FALSE NEIGHBOUR: 'it returns false'. Refute it at one input. -/
def wholeKeptWrong : ChangeSpec := { name := "wholeKept", fn := fun _ => fun
  | [d1, d2, d3] => { results := [.lit (.bool false)], args := [d1, d2, d3] }
  | _ => none }
def WholeKeptWrongFalsely : Prop := wholeKeptRow.holds Tryz.pinned (OpenSpec.ofChange wholeKeptWrong)

/-- 'octavotop.WholeApart': WHATEVER THE INPUT: true; the input reads as it did. -/
def wholeApartSpec : ChangeSpec := { name := "wholeApart", fn := fun _ => fun
  | [d1, d2, d3] => { results := [.lit (.bool true)], args := [d1, d2, d3] }
  | _ => none }
def wholeApartRow : OpenClaim := { program := "ytonpakokjgloaaagreat", sum := "57bb0f9bb4f5ee37b30c80e12d74fa058c08ef6cea14e961630bf315fb96fb14", func := "octavo/octavotop.WholeApart", spec := "wholeApart", inPlace := ["internal/reflectlite.ValueOf", "internal/reflectlite.Swapper", "(internal/reflectlite.Value).Len", "internal/bytealg.Count", "internal/bytealg.IndexByte", "internal/bytealg.Index"], unfollowed := true, recurses := true, named := ["internal/bytealg.MaxLen"], plainKeys := false, apart := false }
def WholeApartSaid : Prop := wholeApartRow.holds Tryz.pinned (OpenSpec.ofChange wholeApartSpec)

/-- ITS FALSE NEIGHBOUR: 'it returns false'. Refute it at one input. -/
def wholeApartWrong : ChangeSpec := { name := "wholeApart", fn := fun _ => fun
  | [d1, d2, d3] => { results := [.lit (.bool false)], args := [d1, d2, d3] }
  | _ => none }
def WholeApartWrongFalsely : Prop := wholeApartRow.holds Tryz.pinned (OpenSpec.ofChange wholeApartWrong)

/-- 'octavotop.WholeBytes': WHATEVER THE INPUT: true; the input reads as it did. -/
def wholeBytesSpec : ChangeSpec := { name := "wholeBytes", fn := fun _ => fun
  | [d1, d2, d3, d4, d5] => { results := [.lit (.bool true)], args := [d1, d2, d3, d4, d5] }
  | _ => none }
def wholeBytesRow : OpenClaim := { program := "ytonpakokjgloaaagreat", sum := "57bb0f9bb4f5ee37b30c80e12d74fa058c08ef6cea14e961630bf315fb96fb14", func := "octavo/octavotop.WholeBytes", spec := "wholeBytes", inPlace := ["internal/reflectlite.ValueOf", "internal/reflectlite.Swapper", "(internal/reflectlite.Value).Len", "internal/bytealg.Count", "internal/bytealg.IndexByte", "internal/bytealg.Index"], unfollowed := true, recurses := true, named := ["internal/bytealg.MaxLen"], plainKeys := false, apart := false }
def WholeBytesSaid : Prop := wholeBytesRow.holds Tryz.pinned (OpenSpec.ofChange wholeBytesSpec)

/-- ITS FALSE NEIGHBOUR: 'it returns false'. Refute it at one input. -/
def wholeBytesWrong : ChangeSpec := { name := "wholeBytes", fn := fun _ => fun
  | [d1, d2, d3, d4, d5] => { results := [.lit (.bool false)], args := [d1, d2, d3, d4, d5] }
  | _ => none }
def WholeBytesWrongFalsely : Prop := wholeBytesRow.holds Tryz.pinned (OpenSpec.ofChange wholeBytesWrong)

/-- 'octavotop.WholePieces': WHATEVER THE INPUT: true; the input reads as it did. -/
def wholePiecesSpec : ChangeSpec := { name := "wholePieces", fn := fun _ => fun
  | [d1, d2, d3, d4] => { results := [.lit (.bool true)], args := [d1, d2, d3, d4] }
  | _ => none }
def wholePiecesRow : OpenClaim := { program := "ytonpakokjgloaaagreat", sum := "57bb0f9bb4f5ee37b30c80e12d74fa058c08ef6cea14e961630bf315fb96fb14", func := "octavo/octavotop.WholePieces", spec := "wholePieces", inPlace := ["internal/reflectlite.ValueOf", "internal/reflectlite.Swapper", "(internal/reflectlite.Value).Len", "internal/bytealg.Count", "internal/bytealg.IndexByte", "internal/bytealg.Index"], unfollowed := true, recurses := true, named := ["internal/bytealg.MaxLen"], plainKeys := false, apart := false }
def WholePiecesSaid : Prop := wholePiecesRow.holds Tryz.pinned (OpenSpec.ofChange wholePiecesSpec)

/-- ITS FALSE NEIGHBOUR: 'it returns false'. Refute it at one input. -/
def wholePiecesWrong : ChangeSpec := { name := "wholePieces", fn := fun _ => fun
  | [d1, d2, d3, d4] => { results := [.lit (.bool false)], args := [d1, d2, d3, d4] }
  | _ => none }
def WholePiecesWrongFalsely : Prop := wholePiecesRow.holds Tryz.pinned (OpenSpec.ofChange wholePiecesWrong)

/-- 'octavotop.WholeStops': WHATEVER THE INPUT: true; the input reads as it did. -/
def wholeStopsSpec : ChangeSpec := { name := "wholeStops", fn := fun _ => fun
  | [d1, d2, d3, d4] => { results := [.lit (.bool true)], args := [d1, d2, d3, d4] }
  | _ => none }
def wholeStopsRow : OpenClaim := { program := "ytonpakokjgloaaagreat", sum := "57bb0f9bb4f5ee37b30c80e12d74fa058c08ef6cea14e961630bf315fb96fb14", func := "octavo/octavotop.WholeStops", spec := "wholeStops", inPlace := ["internal/reflectlite.ValueOf", "internal/reflectlite.Swapper", "(internal/reflectlite.Value).Len", "internal/bytealg.Count", "internal/bytealg.IndexByte", "internal/bytealg.Index"], unfollowed := true, recurses := true, named := ["internal/bytealg.MaxLen"], plainKeys := false, apart := false }
def WholeStopsSaid : Prop := wholeStopsRow.holds Tryz.pinned (OpenSpec.ofChange wholeStopsSpec)

/-- ITS FALSE NEIGHBOUR: 'it returns false'. Refute it at one input. -/
def wholeStopsWrong : ChangeSpec := { name := "wholeStops", fn := fun _ => fun
  | [d1, d2, d3, d4] => { results := [.lit (.bool false)], args := [d1, d2, d3, d4] }
  | _ => none }
def WholeStopsWrongFalsely : Prop := wholeStopsRow.holds Tryz.pinned (OpenSpec.ofChange wholeStopsWrong)

/-- 'octavotop.WholeLines': WHATEVER THE INPUT: true; the input reads as it did. -/
def wholeLinesSpec : ChangeSpec := { name := "wholeLines", fn := fun _ => fun
  | [d1, d2, d3] => { results := [.lit (.bool true)], args := [d1, d2, d3] }
  | _ => none }
def wholeLinesRow : OpenClaim := { program := "ytonpakokjgloaaagreat", sum := "57bb0f9bb4f5ee37b30c80e12d74fa058c08ef6cea14e961630bf315fb96fb14", func := "octavo/octavotop.WholeLines", spec := "wholeLines", inPlace := ["internal/reflectlite.ValueOf", "internal/reflectlite.Swapper", "(internal/reflectlite.Value).Len", "internal/bytealg.Count", "internal/bytealg.IndexByte", "internal/bytealg.Index"], unfollowed := true, recurses := true, named := ["internal/bytealg.MaxLen"], plainKeys := false, apart := false }
def WholeLinesSaid : Prop := wholeLinesRow.holds Tryz.pinned (OpenSpec.ofChange wholeLinesSpec)

/-- ITS FALSE NEIGHBOUR: 'it returns false'. Refute it at one input. -/
def wholeLinesWrong : ChangeSpec := { name := "wholeLines", fn := fun _ => fun
  | [d1, d2, d3] => { results := [.lit (.bool false)], args := [d1, d2, d3] }
  | _ => none }
def WholeLinesWrongFalsely : Prop := wholeLinesRow.holds Tryz.pinned (OpenSpec.ofChange wholeLinesWrong)

/- THE SECOND FORM. 'bulk': how many values and letters a reading holds, each counted each time it is reached (what is shared counts as often as it is met; a slice's spare places count too). A statement '..UptoSaid' is the law's where the arguments, and the package variables that the reading takes, are together of bulk at most 1048576: NARROWER than '..Said'. Prove '..Said' where nothing that the law and all that it calls make is longer than what came in: it says more and counts as full. Else prove '..UptoSaid'. A law counts once. -/
mutual
def uptoBulk {H : Type} : DataW H → Nat
  | .lit (.string bytes) => bytes.length + 1
  | .lit _ => 1
  | .nil => 1
  | .ptr d => uptoBulk d + 1
  | .slice elems spare => uptoBulkAll elems + uptoBulkAll spare + 1
  | .agg parts => uptoBulkAll parts + 1
  | .iface _ d => uptoBulk d + 1
  | .map entries => uptoBulkEntries entries + 1
  | .held _ => 1
def uptoBulkAll {H : Type} : List (DataW H) → Nat
  | [] => 0
  | d :: r => uptoBulk d + uptoBulkAll r
def uptoBulkEntries {H : Type} : List (Lit × DataW H) → Nat
  | [] => 0
  | x :: r => uptoBulkEntry x + uptoBulkEntries r
def uptoBulkEntry {H : Type} : Lit × DataW H → Nat
  | (.string bytes, d) => bytes.length + uptoBulk d + 1
  | (_, d) => uptoBulk d + 1
 end
def uptoSmall : (H : Type) → List (DataW H) → Bool := fun _ ds => decide (uptoBulkAll ds ≤ 1048576)
def OpenSpec.upto (s : _root_.Go.ChangeSpec) : _root_.Go.OpenSpec := { _root_.Go.OpenSpec.ofChange s with cond := some uptoSmall }

/-- 'octavotop.WholeKept', WHERE WHAT IT READS IS OF BULK AT MOST 1048576: true; the input reads as it did. -/
def wholeKeptUptoRow : OpenClaim := { program := "ytonpakokjgloaaagreat", sum := "57bb0f9bb4f5ee37b30c80e12d74fa058c08ef6cea14e961630bf315fb96fb14", func := "octavo/octavotop.WholeKept", spec := "wholeKept", inPlace := ["internal/reflectlite.ValueOf", "internal/reflectlite.Swapper", "(internal/reflectlite.Value).Len", "internal/bytealg.Count", "internal/bytealg.IndexByte", "internal/bytealg.Index"], unfollowed := true, recurses := true, named := ["internal/bytealg.MaxLen"], plainKeys := false, apart := false, narrowed := true }
def WholeKeptUptoSaid : Prop := wholeKeptUptoRow.holds Tryz.pinned (OpenSpec.upto wholeKeptSpec)

/-- 'octavotop.WholeApart', WHERE WHAT IT READS IS OF BULK AT MOST 1048576: true; the input reads as it did. -/
def wholeApartUptoRow : OpenClaim := { program := "ytonpakokjgloaaagreat", sum := "57bb0f9bb4f5ee37b30c80e12d74fa058c08ef6cea14e961630bf315fb96fb14", func := "octavo/octavotop.WholeApart", spec := "wholeApart", inPlace := ["internal/reflectlite.ValueOf", "internal/reflectlite.Swapper", "(internal/reflectlite.Value).Len", "internal/bytealg.Count", "internal/bytealg.IndexByte", "internal/bytealg.Index"], unfollowed := true, recurses := true, named := ["internal/bytealg.MaxLen"], plainKeys := false, apart := false, narrowed := true }
def WholeApartUptoSaid : Prop := wholeApartUptoRow.holds Tryz.pinned (OpenSpec.upto wholeApartSpec)

/-- 'octavotop.WholeBytes', WHERE WHAT IT READS IS OF BULK AT MOST 1048576: true; the input reads as it did. -/
def wholeBytesUptoRow : OpenClaim := { program := "ytonpakokjgloaaagreat", sum := "57bb0f9bb4f5ee37b30c80e12d74fa058c08ef6cea14e961630bf315fb96fb14", func := "octavo/octavotop.WholeBytes", spec := "wholeBytes", inPlace := ["internal/reflectlite.ValueOf", "internal/reflectlite.Swapper", "(internal/reflectlite.Value).Len", "internal/bytealg.Count", "internal/bytealg.IndexByte", "internal/bytealg.Index"], unfollowed := true, recurses := true, named := ["internal/bytealg.MaxLen"], plainKeys := false, apart := false, narrowed := true }
def WholeBytesUptoSaid : Prop := wholeBytesUptoRow.holds Tryz.pinned (OpenSpec.upto wholeBytesSpec)

/-- 'octavotop.WholePieces', WHERE WHAT IT READS IS OF BULK AT MOST 1048576: true; the input reads as it did. -/
def wholePiecesUptoRow : OpenClaim := { program := "ytonpakokjgloaaagreat", sum := "57bb0f9bb4f5ee37b30c80e12d74fa058c08ef6cea14e961630bf315fb96fb14", func := "octavo/octavotop.WholePieces", spec := "wholePieces", inPlace := ["internal/reflectlite.ValueOf", "internal/reflectlite.Swapper", "(internal/reflectlite.Value).Len", "internal/bytealg.Count", "internal/bytealg.IndexByte", "internal/bytealg.Index"], unfollowed := true, recurses := true, named := ["internal/bytealg.MaxLen"], plainKeys := false, apart := false, narrowed := true }
def WholePiecesUptoSaid : Prop := wholePiecesUptoRow.holds Tryz.pinned (OpenSpec.upto wholePiecesSpec)

/-- 'octavotop.WholeStops', WHERE WHAT IT READS IS OF BULK AT MOST 1048576: true; the input reads as it did. -/
def wholeStopsUptoRow : OpenClaim := { program := "ytonpakokjgloaaagreat", sum := "57bb0f9bb4f5ee37b30c80e12d74fa058c08ef6cea14e961630bf315fb96fb14", func := "octavo/octavotop.WholeStops", spec := "wholeStops", inPlace := ["internal/reflectlite.ValueOf", "internal/reflectlite.Swapper", "(internal/reflectlite.Value).Len", "internal/bytealg.Count", "internal/bytealg.IndexByte", "internal/bytealg.Index"], unfollowed := true, recurses := true, named := ["internal/bytealg.MaxLen"], plainKeys := false, apart := false, narrowed := true }
def WholeStopsUptoSaid : Prop := wholeStopsUptoRow.holds Tryz.pinned (OpenSpec.upto wholeStopsSpec)

/-- 'octavotop.WholeLines', WHERE WHAT IT READS IS OF BULK AT MOST 1048576: true; the input reads as it did. -/
def wholeLinesUptoRow : OpenClaim := { program := "ytonpakokjgloaaagreat", sum := "57bb0f9bb4f5ee37b30c80e12d74fa058c08ef6cea14e961630bf315fb96fb14", func := "octavo/octavotop.WholeLines", spec := "wholeLines", inPlace := ["internal/reflectlite.ValueOf", "internal/reflectlite.Swapper", "(internal/reflectlite.Value).Len", "internal/bytealg.Count", "internal/bytealg.IndexByte", "internal/bytealg.Index"], unfollowed := true, recurses := true, named := ["internal/bytealg.MaxLen"], plainKeys := false, apart := false, narrowed := true }
def WholeLinesUptoSaid : Prop := wholeLinesUptoRow.holds Tryz.pinned (OpenSpec.upto wholeLinesSpec)

end Rows
end Go.Proofs.YtonpakokjgloaaaGreat
