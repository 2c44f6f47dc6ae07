/-
  No cell of these rows narrows 'for every input' (looked for: loops, veiled, ifaces, maps, wideKeys, modest, calm, conditions, laid).
  DERIVED. THE GIVEN ROWS OF THIS SEAT. 18 by the template 'for every input the law returns true; each argument reads behind the call as it read before'; 0 by the template 'total and deterministic' (their statements: YtkkbncgnobaliaaTotals.lean).
  GIVEN WITH THE SEED: the statements are not yours to turn. If you find one false, say at which input.
  Laid BY PROGRAM, IN A SANDBOX (cutbox-rows.mjs): the forced cells as the released guide's own fill.sh prints them over the translation 46fcd0cfb90c184b… (all of the seat's roots in one cut). By AI agents, Wed Nov 11 2026. No macro, syntax, notation, axiom, sorry.
-/
import Derived.Test.YtkkbncgnobaliaaChecked
import GoSem.Claim
import GoSem.ClaimJoined
import GoSem.ClaimMapViews
import Derived.JoinedTies
import Derived.KernelRfl
namespace Go.Proofs.Ytkkbncgnobaliaa
/- THE CELL 'sum', in the pinned program and in every row, IS THE sha256 OF THE DUMP (.gsa) THAT YtkkbncgnobaliaaProg.lean LOADS. Nothing in Lean hashes anything: it is a label: what it is worth is what the hold of that sum in a sandbox is worth. -/
noncomputable def Try.pinned : Pinned := { name := "ytkkbncgnobaliaa", sum := "46fcd0cfb90c184b6559ca23354de27e5c9c34d46b7eb85f9e6f6b018008e108", checked := Try.checked }
namespace Rows
def none {H : Type} : Left H := { results := [], args := [] }

/-- 'watchtowerlaw06.FrameSeen': WHATEVER THE INPUT: true; the input reads as it did. -/
def frameSeenSpec : ChangeSpec := { name := "frameSeen", fn := fun _ => fun
  | [d1, d2, d3] => { results := [.lit (.bool true)], args := [d1, d2, d3] }
  | _ => none }
def frameSeenRow : OpenClaim := { program := "ytkkbncgnobaliaa", sum := "46fcd0cfb90c184b6559ca23354de27e5c9c34d46b7eb85f9e6f6b018008e108", func := "watchtower/watchtowerlaw06.FrameSeen", spec := "frameSeen", apart := false }
def FrameSeenSaid : Prop := frameSeenRow.holds Try.pinned (OpenSpec.ofChange frameSeenSpec)

/-- ITS FALSE NEIGHBOUR: 'it returns false'. Refute it at one input. -/
def frameSeenWrong : ChangeSpec := { name := "frameSeen", fn := fun _ => fun
  | [d1, d2, d3] => { results := [.lit (.bool false)], args := [d1, d2, d3] }
  | _ => none }
def FrameSeenWrongFalsely : Prop := frameSeenRow.holds Try.pinned (OpenSpec.ofChange frameSeenWrong)

/-- 'watchtowerlaw06.FrameCut': WHATEVER THE INPUT: true; the input reads as it did. -/
def frameCutSpec : ChangeSpec := { name := "frameCut", fn := fun _ => fun
  | [d1, d2] => { results := [.lit (.bool true)], args := [d1, d2] }
  | _ => none }
def frameCutRow : OpenClaim := { program := "ytkkbncgnobaliaa", sum := "46fcd0cfb90c184b6559ca23354de27e5c9c34d46b7eb85f9e6f6b018008e108", func := "watchtower/watchtowerlaw06.FrameCut", spec := "frameCut", unfollowed := true, recurses := true, apart := false }
def FrameCutSaid : Prop := frameCutRow.holds Try.pinned (OpenSpec.ofChange frameCutSpec)

/-- ITS FALSE NEIGHBOUR: 'it returns false'. Refute it at one input. -/
def frameCutWrong : ChangeSpec := { name := "frameCut", fn := fun _ => fun
  | [d1, d2] => { results := [.lit (.bool false)], args := [d1, d2] }
  | _ => none }
def FrameCutWrongFalsely : Prop := frameCutRow.holds Try.pinned (OpenSpec.ofChange frameCutWrong)

/-- 'watchtowerlaw06.FrameOnly': WHATEVER THE INPUT: true; the input reads as it did. -/
def frameOnlySpec : ChangeSpec := { name := "frameOnly", fn := fun _ => fun
  | [d] => { results := [.lit (.bool true)], args := [d] }
  | _ => none }
def frameOnlyRow : OpenClaim := { program := "ytkkbncgnobaliaa", sum := "46fcd0cfb90c184b6559ca23354de27e5c9c34d46b7eb85f9e6f6b018008e108", func := "watchtower/watchtowerlaw06.FrameOnly", spec := "frameOnly", unfollowed := true, recurses := true, apart := false }
def FrameOnlySaid : Prop := frameOnlyRow.holds Try.pinned (OpenSpec.ofChange frameOnlySpec)

/-- ITS FALSE NEIGHBOUR: 'it returns false'. Refute it at one input. -/
def frameOnlyWrong : ChangeSpec := { name := "frameOnly", fn := fun _ => fun
  | [d] => { results := [.lit (.bool false)], args := [d] }
  | _ => none }
def FrameOnlyWrongFalsely : Prop := frameOnlyRow.holds Try.pinned (OpenSpec.ofChange frameOnlyWrong)

/-- 'watchtowerlaw06.FrameMany': WHATEVER THE INPUT: true; the input reads as it did. -/
def frameManySpec : ChangeSpec := { name := "frameMany", fn := fun _ => fun
  | [d1, d2] => { results := [.lit (.bool true)], args := [d1, d2] }
  | _ => none }
def frameManyRow : OpenClaim := { program := "ytkkbncgnobaliaa", sum := "46fcd0cfb90c184b6559ca23354de27e5c9c34d46b7eb85f9e6f6b018008e108", func := "watchtower/watchtowerlaw06.FrameMany", spec := "frameMany", unfollowed := true, recurses := true, apart := false }
def FrameManySaid : Prop := frameManyRow.holds Try.pinned (OpenSpec.ofChange frameManySpec)

/-- ITS FALSE NEIGHBOUR: 'it returns false'. Refute it at one input. -/
def frameManyWrong : ChangeSpec := { name := "frameMany", fn := fun _ => fun
  | [d1, d2] => { results := [.lit (.bool false)], args := [d1, d2] }
  | _ => none }
def FrameManyWrongFalsely : Prop := frameManyRow.holds Try.pinned (OpenSpec.ofChange frameManyWrong)

/-- 'watchtowerlaw05.CodecBack': WHATEVER THE INPUT: true; the input reads as it did. -/
def codecBackSpec : ChangeSpec := { name := "codecBack", fn := fun _ => fun
  | [d1, d2, d3, d4, d5] => { results := [.lit (.bool true)], args := [d1, d2, d3, d4, d5] }
  | _ => none }
def codecBackRow : OpenClaim := { program := "ytkkbncgnobaliaa", sum := "46fcd0cfb90c184b6559ca23354de27e5c9c34d46b7eb85f9e6f6b018008e108", func := "watchtower/watchtowerlaw05.CodecBack", spec := "codecBack", unfollowed := true, recurses := true, apart := false }
def CodecBackSaid : Prop := codecBackRow.holds Try.pinned (OpenSpec.ofChange codecBackSpec)

/-- ITS FALSE NEIGHBOUR: 'it returns false'. Refute it at one input. -/
def codecBackWrong : ChangeSpec := { name := "codecBack", fn := fun _ => fun
  | [d1, d2, d3, d4, d5] => { results := [.lit (.bool false)], args := [d1, d2, d3, d4, d5] }
  | _ => none }
def CodecBackWrongFalsely : Prop := codecBackRow.holds Try.pinned (OpenSpec.ofChange codecBackWrong)

/-- 'watchtowerlaw05.CodecOnly': WHATEVER THE INPUT: true; the input reads as it did. -/
def codecOnlySpec : ChangeSpec := { name := "codecOnly", fn := fun _ => fun
  | [d] => { results := [.lit (.bool true)], args := [d] }
  | _ => none }
def codecOnlyRow : OpenClaim := { program := "ytkkbncgnobaliaa", sum := "46fcd0cfb90c184b6559ca23354de27e5c9c34d46b7eb85f9e6f6b018008e108", func := "watchtower/watchtowerlaw05.CodecOnly", spec := "codecOnly", unfollowed := true, recurses := true, apart := false }
def CodecOnlySaid : Prop := codecOnlyRow.holds Try.pinned (OpenSpec.ofChange codecOnlySpec)

/-- ITS FALSE NEIGHBOUR: 'it returns false'. Refute it at one input. -/
def codecOnlyWrong : ChangeSpec := { name := "codecOnly", fn := fun _ => fun
  | [d] => { results := [.lit (.bool false)], args := [d] }
  | _ => none }
def CodecOnlyWrongFalsely : Prop := codecOnlyRow.holds Try.pinned (OpenSpec.ofChange codecOnlyWrong)

/-- 'watchtowerlaw05.CodecShort': WHATEVER THE INPUT: true; the input reads as it did. -/
def codecShortSpec : ChangeSpec := { name := "codecShort", fn := fun _ => fun
  | [d1, d2, d3, d4] => { results := [.lit (.bool true)], args := [d1, d2, d3, d4] }
  | _ => none }
def codecShortRow : OpenClaim := { program := "ytkkbncgnobaliaa", sum := "46fcd0cfb90c184b6559ca23354de27e5c9c34d46b7eb85f9e6f6b018008e108", func := "watchtower/watchtowerlaw05.CodecShort", spec := "codecShort", unfollowed := true, recurses := true, apart := false }
def CodecShortSaid : Prop := codecShortRow.holds Try.pinned (OpenSpec.ofChange codecShortSpec)

/-- ITS FALSE NEIGHBOUR: 'it returns false'. Refute it at one input. -/
def codecShortWrong : ChangeSpec := { name := "codecShort", fn := fun _ => fun
  | [d1, d2, d3, d4] => { results := [.lit (.bool false)], args := [d1, d2, d3, d4] }
  | _ => none }
def CodecShortWrongFalsely : Prop := codecShortRow.holds Try.pinned (OpenSpec.ofChange codecShortWrong)

/-- 'watchtowerlaw05.CodecSize': WHATEVER THE INPUT: true; the input reads as it did. -/
def codecSizeSpec : ChangeSpec := { name := "codecSize", fn := fun _ => fun
  | [d1, d2] => { results := [.lit (.bool true)], args := [d1, d2] }
  | _ => none }
def codecSizeRow : OpenClaim := { program := "ytkkbncgnobaliaa", sum := "46fcd0cfb90c184b6559ca23354de27e5c9c34d46b7eb85f9e6f6b018008e108", func := "watchtower/watchtowerlaw05.CodecSize", spec := "codecSize", unfollowed := true, recurses := true, apart := false }
def CodecSizeSaid : Prop := codecSizeRow.holds Try.pinned (OpenSpec.ofChange codecSizeSpec)

/-- ITS FALSE NEIGHBOUR: 'it returns false'. Refute it at one input. -/
def codecSizeWrong : ChangeSpec := { name := "codecSize", fn := fun _ => fun
  | [d1, d2] => { results := [.lit (.bool false)], args := [d1, d2] }
  | _ => none }
def CodecSizeWrongFalsely : Prop := codecSizeRow.holds Try.pinned (OpenSpec.ofChange codecSizeWrong)

/-- 'watchtowerlaw05.CodecMany': WHATEVER THE INPUT: true; the input reads as it did. -/
def codecManySpec : ChangeSpec := { name := "codecMany", fn := fun _ => fun
  | [d] => { results := [.lit (.bool true)], args := [d] }
  | _ => none }
def codecManyRow : OpenClaim := { program := "ytkkbncgnobaliaa", sum := "46fcd0cfb90c184b6559ca23354de27e5c9c34d46b7eb85f9e6f6b018008e108", func := "watchtower/watchtowerlaw05.CodecMany", spec := "codecMany", unfollowed := true, recurses := true, apart := false }
def CodecManySaid : Prop := codecManyRow.holds Try.pinned (OpenSpec.ofChange codecManySpec)

/-- ITS FALSE NEIGHBOUR: 'it returns false'. Refute it at one input. -/
def codecManyWrong : ChangeSpec := { name := "codecMany", fn := fun _ => fun
  | [d] => { results := [.lit (.bool false)], args := [d] }
  | _ => none }
def CodecManyWrongFalsely : Prop := codecManyRow.holds Try.pinned (OpenSpec.ofChange codecManyWrong)

/-- 'watchtowerlaw21.DiskBack': WHATEVER THE INPUT: true; the input reads as it did. -/
def diskBackSpec : ChangeSpec := { name := "diskBack", fn := fun _ => fun
  | [d1, d2, d3] => { results := [.lit (.bool true)], args := [d1, d2, d3] }
  | _ => none }
def diskBackRow : OpenClaim := { program := "ytkkbncgnobaliaa", sum := "46fcd0cfb90c184b6559ca23354de27e5c9c34d46b7eb85f9e6f6b018008e108", func := "watchtower/watchtowerlaw21.DiskBack", spec := "diskBack", apart := false }
def DiskBackSaid : Prop := diskBackRow.holds Try.pinned (OpenSpec.ofChange diskBackSpec)

/-- ITS FALSE NEIGHBOUR: 'it returns false'. Refute it at one input. -/
def diskBackWrong : ChangeSpec := { name := "diskBack", fn := fun _ => fun
  | [d1, d2, d3] => { results := [.lit (.bool false)], args := [d1, d2, d3] }
  | _ => none }
def DiskBackWrongFalsely : Prop := diskBackRow.holds Try.pinned (OpenSpec.ofChange diskBackWrong)

/-- 'watchtowerlaw21.DiskWalk': WHATEVER THE INPUT: true; the input reads as it did. -/
def diskWalkSpec : ChangeSpec := { name := "diskWalk", fn := fun _ => fun
  | [d] => { results := [.lit (.bool true)], args := [d] }
  | _ => none }
def diskWalkRow : OpenClaim := { program := "ytkkbncgnobaliaa", sum := "46fcd0cfb90c184b6559ca23354de27e5c9c34d46b7eb85f9e6f6b018008e108", func := "watchtower/watchtowerlaw21.DiskWalk", spec := "diskWalk", apart := false }
def DiskWalkSaid : Prop := diskWalkRow.holds Try.pinned (OpenSpec.ofChange diskWalkSpec)

/-- ITS FALSE NEIGHBOUR: 'it returns false'. Refute it at one input. -/
def diskWalkWrong : ChangeSpec := { name := "diskWalk", fn := fun _ => fun
  | [d] => { results := [.lit (.bool false)], args := [d] }
  | _ => none }
def DiskWalkWrongFalsely : Prop := diskWalkRow.holds Try.pinned (OpenSpec.ofChange diskWalkWrong)

/-- 'watchtowerlaw21.DiskSeen': WHATEVER THE INPUT: true; the input reads as it did. -/
def diskSeenSpec : ChangeSpec := { name := "diskSeen", fn := fun _ => fun
  | [d1, d2, d3, d4] => { results := [.lit (.bool true)], args := [d1, d2, d3, d4] }
  | _ => none }
def diskSeenRow : OpenClaim := { program := "ytkkbncgnobaliaa", sum := "46fcd0cfb90c184b6559ca23354de27e5c9c34d46b7eb85f9e6f6b018008e108", func := "watchtower/watchtowerlaw21.DiskSeen", spec := "diskSeen", apart := false }
def DiskSeenSaid : Prop := diskSeenRow.holds Try.pinned (OpenSpec.ofChange diskSeenSpec)

/-- ITS FALSE NEIGHBOUR: 'it returns false'. Refute it at one input. -/
def diskSeenWrong : ChangeSpec := { name := "diskSeen", fn := fun _ => fun
  | [d1, d2, d3, d4] => { results := [.lit (.bool false)], args := [d1, d2, d3, d4] }
  | _ => none }
def DiskSeenWrongFalsely : Prop := diskSeenRow.holds Try.pinned (OpenSpec.ofChange diskSeenWrong)

/-- 'watchtowerlaw21.DiskApart': WHATEVER THE INPUT: true; the input reads as it did. -/
def diskApartSpec : ChangeSpec := { name := "diskApart", fn := fun _ => fun
  | [d1, d2, d3, d4] => { results := [.lit (.bool true)], args := [d1, d2, d3, d4] }
  | _ => none }
def diskApartRow : OpenClaim := { program := "ytkkbncgnobaliaa", sum := "46fcd0cfb90c184b6559ca23354de27e5c9c34d46b7eb85f9e6f6b018008e108", func := "watchtower/watchtowerlaw21.DiskApart", spec := "diskApart", apart := false }
def DiskApartSaid : Prop := diskApartRow.holds Try.pinned (OpenSpec.ofChange diskApartSpec)

/-- ITS FALSE NEIGHBOUR: 'it returns false'. Refute it at one input. -/
def diskApartWrong : ChangeSpec := { name := "diskApart", fn := fun _ => fun
  | [d1, d2, d3, d4] => { results := [.lit (.bool false)], args := [d1, d2, d3, d4] }
  | _ => none }
def DiskApartWrongFalsely : Prop := diskApartRow.holds Try.pinned (OpenSpec.ofChange diskApartWrong)

/-- 'watchtowerlaw22.QueueFirst': WHATEVER THE INPUT: true; the input reads as it did. -/
def queueFirstSpec : ChangeSpec := { name := "queueFirst", fn := fun _ => fun
  | [d1, d2, d3, d4] => { results := [.lit (.bool true)], args := [d1, d2, d3, d4] }
  | _ => none }
def queueFirstRow : OpenClaim := { program := "ytkkbncgnobaliaa", sum := "46fcd0cfb90c184b6559ca23354de27e5c9c34d46b7eb85f9e6f6b018008e108", func := "watchtower/watchtowerlaw22.QueueFirst", spec := "queueFirst", unfollowed := true, recurses := true, apart := false }
def QueueFirstSaid : Prop := queueFirstRow.holds Try.pinned (OpenSpec.ofChange queueFirstSpec)

/-- ITS FALSE NEIGHBOUR: 'it returns false'. Refute it at one input. -/
def queueFirstWrong : ChangeSpec := { name := "queueFirst", fn := fun _ => fun
  | [d1, d2, d3, d4] => { results := [.lit (.bool false)], args := [d1, d2, d3, d4] }
  | _ => none }
def QueueFirstWrongFalsely : Prop := queueFirstRow.holds Try.pinned (OpenSpec.ofChange queueFirstWrong)

/-- 'watchtowerlaw22.QueueTries': WHATEVER THE INPUT: true; the input reads as it did. -/
def queueTriesSpec : ChangeSpec := { name := "queueTries", fn := fun _ => fun
  | [d1, d2, d3] => { results := [.lit (.bool true)], args := [d1, d2, d3] }
  | _ => none }
def queueTriesRow : OpenClaim := { program := "ytkkbncgnobaliaa", sum := "46fcd0cfb90c184b6559ca23354de27e5c9c34d46b7eb85f9e6f6b018008e108", func := "watchtower/watchtowerlaw22.QueueTries", spec := "queueTries", unfollowed := true, recurses := true, apart := false }
def QueueTriesSaid : Prop := queueTriesRow.holds Try.pinned (OpenSpec.ofChange queueTriesSpec)

/-- ITS FALSE NEIGHBOUR: 'it returns false'. Refute it at one input. -/
def queueTriesWrong : ChangeSpec := { name := "queueTries", fn := fun _ => fun
  | [d1, d2, d3] => { results := [.lit (.bool false)], args := [d1, d2, d3] }
  | _ => none }
def QueueTriesWrongFalsely : Prop := queueTriesRow.holds Try.pinned (OpenSpec.ofChange queueTriesWrong)

/-- 'watchtowerlaw22.QueueBack': WHATEVER THE INPUT: true; the input reads as it did. -/
def queueBackSpec : ChangeSpec := { name := "queueBack", fn := fun _ => fun
  | [d1, d2, d3] => { results := [.lit (.bool true)], args := [d1, d2, d3] }
  | _ => none }
def queueBackRow : OpenClaim := { program := "ytkkbncgnobaliaa", sum := "46fcd0cfb90c184b6559ca23354de27e5c9c34d46b7eb85f9e6f6b018008e108", func := "watchtower/watchtowerlaw22.QueueBack", spec := "queueBack", unfollowed := true, recurses := true, apart := false }
def QueueBackSaid : Prop := queueBackRow.holds Try.pinned (OpenSpec.ofChange queueBackSpec)

/-- ITS FALSE NEIGHBOUR: 'it returns false'. Refute it at one input. -/
def queueBackWrong : ChangeSpec := { name := "queueBack", fn := fun _ => fun
  | [d1, d2, d3] => { results := [.lit (.bool false)], args := [d1, d2, d3] }
  | _ => none }
def QueueBackWrongFalsely : Prop := queueBackRow.holds Try.pinned (OpenSpec.ofChange queueBackWrong)

/-- 'watchtowerlaw22.QueueWaits': WHATEVER THE INPUT: true; the input reads as it did. -/
def queueWaitsSpec : ChangeSpec := { name := "queueWaits", fn := fun _ => fun
  | [d1, d2] => { results := [.lit (.bool true)], args := [d1, d2] }
  | _ => none }
def queueWaitsRow : OpenClaim := { program := "ytkkbncgnobaliaa", sum := "46fcd0cfb90c184b6559ca23354de27e5c9c34d46b7eb85f9e6f6b018008e108", func := "watchtower/watchtowerlaw22.QueueWaits", spec := "queueWaits", unfollowed := true, recurses := true, apart := false }
def QueueWaitsSaid : Prop := queueWaitsRow.holds Try.pinned (OpenSpec.ofChange queueWaitsSpec)

/-- ITS FALSE NEIGHBOUR: 'it returns false'. Refute it at one input. -/
def queueWaitsWrong : ChangeSpec := { name := "queueWaits", fn := fun _ => fun
  | [d1, d2] => { results := [.lit (.bool false)], args := [d1, d2] }
  | _ => none }
def QueueWaitsWrongFalsely : Prop := queueWaitsRow.holds Try.pinned (OpenSpec.ofChange queueWaitsWrong)

/-- 'watchtowerlaw22.QueueAll': WHATEVER THE INPUT: true; the input reads as it did. -/
def queueAllSpec : ChangeSpec := { name := "queueAll", fn := fun _ => fun
  | [d1, d2] => { results := [.lit (.bool true)], args := [d1, d2] }
  | _ => none }
def queueAllRow : OpenClaim := { program := "ytkkbncgnobaliaa", sum := "46fcd0cfb90c184b6559ca23354de27e5c9c34d46b7eb85f9e6f6b018008e108", func := "watchtower/watchtowerlaw22.QueueAll", spec := "queueAll", unfollowed := true, recurses := true, apart := false }
def QueueAllSaid : Prop := queueAllRow.holds Try.pinned (OpenSpec.ofChange queueAllSpec)

/-- ITS FALSE NEIGHBOUR: 'it returns false'. Refute it at one input. -/
def queueAllWrong : ChangeSpec := { name := "queueAll", fn := fun _ => fun
  | [d1, d2] => { results := [.lit (.bool false)], args := [d1, d2] }
  | _ => none }
def QueueAllWrongFalsely : Prop := queueAllRow.holds Try.pinned (OpenSpec.ofChange queueAllWrong)

/- THE SECOND FORM. 'bulk': how many values and letters a reading holds, each counted each time it is reached (what is shared counts as often as it is met; a slice's spare places count too). A statement '..UptoSaid' is the law's where the arguments, and the package variables that the reading takes, are together of bulk at most 1048576: NARROWER than '..Said'. Prove '..Said' where nothing that the law and all that it calls make is longer than what came in: it says more and counts as full. Else prove '..UptoSaid'. A law counts once. -/
mutual
def uptoBulk {H : Type} : DataW H → Nat
  | .lit (.string bytes) => bytes.length + 1
  | .lit _ => 1
  | .nil => 1
  | .ptr d => uptoBulk d + 1
  | .slice elems spare => uptoBulkAll elems + uptoBulkAll spare + 1
  | .agg parts => uptoBulkAll parts + 1
  | .iface _ d => uptoBulk d + 1
  | .map entries => uptoBulkEntries entries + 1
  | .held _ => 1
def uptoBulkAll {H : Type} : List (DataW H) → Nat
  | [] => 0
  | d :: r => uptoBulk d + uptoBulkAll r
def uptoBulkEntries {H : Type} : List (Lit × DataW H) → Nat
  | [] => 0
  | x :: r => uptoBulkEntry x + uptoBulkEntries r
def uptoBulkEntry {H : Type} : Lit × DataW H → Nat
  | (.string bytes, d) => bytes.length + uptoBulk d + 1
  | (_, d) => uptoBulk d + 1
 end
def uptoSmall : (H : Type) → List (DataW H) → Bool := fun _ ds => decide (uptoBulkAll ds ≤ 1048576)
def OpenSpec.upto (s : _root_.Go.ChangeSpec) : _root_.Go.OpenSpec := { _root_.Go.OpenSpec.ofChange s with cond := some uptoSmall }

/-- 'watchtowerlaw06.FrameSeen', WHERE WHAT IT READS IS OF BULK AT MOST 1048576: true; the input reads as it did. -/
def frameSeenUptoRow : OpenClaim := { program := "ytkkbncgnobaliaa", sum := "46fcd0cfb90c184b6559ca23354de27e5c9c34d46b7eb85f9e6f6b018008e108", func := "watchtower/watchtowerlaw06.FrameSeen", spec := "frameSeen", apart := false, narrowed := true }
def FrameSeenUptoSaid : Prop := frameSeenUptoRow.holds Try.pinned (OpenSpec.upto frameSeenSpec)

/-- 'watchtowerlaw06.FrameCut', WHERE WHAT IT READS IS OF BULK AT MOST 1048576: true; the input reads as it did. -/
def frameCutUptoRow : OpenClaim := { program := "ytkkbncgnobaliaa", sum := "46fcd0cfb90c184b6559ca23354de27e5c9c34d46b7eb85f9e6f6b018008e108", func := "watchtower/watchtowerlaw06.FrameCut", spec := "frameCut", unfollowed := true, recurses := true, apart := false, narrowed := true }
def FrameCutUptoSaid : Prop := frameCutUptoRow.holds Try.pinned (OpenSpec.upto frameCutSpec)

/-- 'watchtowerlaw06.FrameOnly', WHERE WHAT IT READS IS OF BULK AT MOST 1048576: true; the input reads as it did. -/
def frameOnlyUptoRow : OpenClaim := { program := "ytkkbncgnobaliaa", sum := "46fcd0cfb90c184b6559ca23354de27e5c9c34d46b7eb85f9e6f6b018008e108", func := "watchtower/watchtowerlaw06.FrameOnly", spec := "frameOnly", unfollowed := true, recurses := true, apart := false, narrowed := true }
def FrameOnlyUptoSaid : Prop := frameOnlyUptoRow.holds Try.pinned (OpenSpec.upto frameOnlySpec)

/-- 'watchtowerlaw06.FrameMany', WHERE WHAT IT READS IS OF BULK AT MOST 1048576: true; the input reads as it did. -/
def frameManyUptoRow : OpenClaim := { program := "ytkkbncgnobaliaa", sum := "46fcd0cfb90c184b6559ca23354de27e5c9c34d46b7eb85f9e6f6b018008e108", func := "watchtower/watchtowerlaw06.FrameMany", spec := "frameMany", unfollowed := true, recurses := true, apart := false, narrowed := true }
def FrameManyUptoSaid : Prop := frameManyUptoRow.holds Try.pinned (OpenSpec.upto frameManySpec)

/-- 'watchtowerlaw05.CodecBack', WHERE WHAT IT READS IS OF BULK AT MOST 1048576: true; the input reads as it did. -/
def codecBackUptoRow : OpenClaim := { program := "ytkkbncgnobaliaa", sum := "46fcd0cfb90c184b6559ca23354de27e5c9c34d46b7eb85f9e6f6b018008e108", func := "watchtower/watchtowerlaw05.CodecBack", spec := "codecBack", unfollowed := true, recurses := true, apart := false, narrowed := true }
def CodecBackUptoSaid : Prop := codecBackUptoRow.holds Try.pinned (OpenSpec.upto codecBackSpec)

/-- 'watchtowerlaw05.CodecOnly', WHERE WHAT IT READS IS OF BULK AT MOST 1048576: true; the input reads as it did. -/
def codecOnlyUptoRow : OpenClaim := { program := "ytkkbncgnobaliaa", sum := "46fcd0cfb90c184b6559ca23354de27e5c9c34d46b7eb85f9e6f6b018008e108", func := "watchtower/watchtowerlaw05.CodecOnly", spec := "codecOnly", unfollowed := true, recurses := true, apart := false, narrowed := true }
def CodecOnlyUptoSaid : Prop := codecOnlyUptoRow.holds Try.pinned (OpenSpec.upto codecOnlySpec)

/-- 'watchtowerlaw05.CodecShort', WHERE WHAT IT READS IS OF BULK AT MOST 1048576: true; the input reads as it did. -/
def codecShortUptoRow : OpenClaim := { program := "ytkkbncgnobaliaa", sum := "46fcd0cfb90c184b6559ca23354de27e5c9c34d46b7eb85f9e6f6b018008e108", func := "watchtower/watchtowerlaw05.CodecShort", spec := "codecShort", unfollowed := true, recurses := true, apart := false, narrowed := true }
def CodecShortUptoSaid : Prop := codecShortUptoRow.holds Try.pinned (OpenSpec.upto codecShortSpec)

/-- 'watchtowerlaw05.CodecSize', WHERE WHAT IT READS IS OF BULK AT MOST 1048576: true; the input reads as it did. -/
def codecSizeUptoRow : OpenClaim := { program := "ytkkbncgnobaliaa", sum := "46fcd0cfb90c184b6559ca23354de27e5c9c34d46b7eb85f9e6f6b018008e108", func := "watchtower/watchtowerlaw05.CodecSize", spec := "codecSize", unfollowed := true, recurses := true, apart := false, narrowed := true }
def CodecSizeUptoSaid : Prop := codecSizeUptoRow.holds Try.pinned (OpenSpec.upto codecSizeSpec)

/-- 'watchtowerlaw05.CodecMany', WHERE WHAT IT READS IS OF BULK AT MOST 1048576: true; the input reads as it did. -/
def codecManyUptoRow : OpenClaim := { program := "ytkkbncgnobaliaa", sum := "46fcd0cfb90c184b6559ca23354de27e5c9c34d46b7eb85f9e6f6b018008e108", func := "watchtower/watchtowerlaw05.CodecMany", spec := "codecMany", unfollowed := true, recurses := true, apart := false, narrowed := true }
def CodecManyUptoSaid : Prop := codecManyUptoRow.holds Try.pinned (OpenSpec.upto codecManySpec)

/-- 'watchtowerlaw21.DiskBack', WHERE WHAT IT READS IS OF BULK AT MOST 1048576: true; the input reads as it did. -/
def diskBackUptoRow : OpenClaim := { program := "ytkkbncgnobaliaa", sum := "46fcd0cfb90c184b6559ca23354de27e5c9c34d46b7eb85f9e6f6b018008e108", func := "watchtower/watchtowerlaw21.DiskBack", spec := "diskBack", apart := false, narrowed := true }
def DiskBackUptoSaid : Prop := diskBackUptoRow.holds Try.pinned (OpenSpec.upto diskBackSpec)

/-- 'watchtowerlaw21.DiskWalk', WHERE WHAT IT READS IS OF BULK AT MOST 1048576: true; the input reads as it did. -/
def diskWalkUptoRow : OpenClaim := { program := "ytkkbncgnobaliaa", sum := "46fcd0cfb90c184b6559ca23354de27e5c9c34d46b7eb85f9e6f6b018008e108", func := "watchtower/watchtowerlaw21.DiskWalk", spec := "diskWalk", apart := false, narrowed := true }
def DiskWalkUptoSaid : Prop := diskWalkUptoRow.holds Try.pinned (OpenSpec.upto diskWalkSpec)

/-- 'watchtowerlaw21.DiskSeen', WHERE WHAT IT READS IS OF BULK AT MOST 1048576: true; the input reads as it did. -/
def diskSeenUptoRow : OpenClaim := { program := "ytkkbncgnobaliaa", sum := "46fcd0cfb90c184b6559ca23354de27e5c9c34d46b7eb85f9e6f6b018008e108", func := "watchtower/watchtowerlaw21.DiskSeen", spec := "diskSeen", apart := false, narrowed := true }
def DiskSeenUptoSaid : Prop := diskSeenUptoRow.holds Try.pinned (OpenSpec.upto diskSeenSpec)

/-- 'watchtowerlaw21.DiskApart', WHERE WHAT IT READS IS OF BULK AT MOST 1048576: true; the input reads as it did. -/
def diskApartUptoRow : OpenClaim := { program := "ytkkbncgnobaliaa", sum := "46fcd0cfb90c184b6559ca23354de27e5c9c34d46b7eb85f9e6f6b018008e108", func := "watchtower/watchtowerlaw21.DiskApart", spec := "diskApart", apart := false, narrowed := true }
def DiskApartUptoSaid : Prop := diskApartUptoRow.holds Try.pinned (OpenSpec.upto diskApartSpec)

/-- 'watchtowerlaw22.QueueFirst', WHERE WHAT IT READS IS OF BULK AT MOST 1048576: true; the input reads as it did. -/
def queueFirstUptoRow : OpenClaim := { program := "ytkkbncgnobaliaa", sum := "46fcd0cfb90c184b6559ca23354de27e5c9c34d46b7eb85f9e6f6b018008e108", func := "watchtower/watchtowerlaw22.QueueFirst", spec := "queueFirst", unfollowed := true, recurses := true, apart := false, narrowed := true }
def QueueFirstUptoSaid : Prop := queueFirstUptoRow.holds Try.pinned (OpenSpec.upto queueFirstSpec)

/-- 'watchtowerlaw22.QueueTries', WHERE WHAT IT READS IS OF BULK AT MOST 1048576: true; the input reads as it did. -/
def queueTriesUptoRow : OpenClaim := { program := "ytkkbncgnobaliaa", sum := "46fcd0cfb90c184b6559ca23354de27e5c9c34d46b7eb85f9e6f6b018008e108", func := "watchtower/watchtowerlaw22.QueueTries", spec := "queueTries", unfollowed := true, recurses := true, apart := false, narrowed := true }
def QueueTriesUptoSaid : Prop := queueTriesUptoRow.holds Try.pinned (OpenSpec.upto queueTriesSpec)

/-- 'watchtowerlaw22.QueueBack', WHERE WHAT IT READS IS OF BULK AT MOST 1048576: true; the input reads as it did. -/
def queueBackUptoRow : OpenClaim := { program := "ytkkbncgnobaliaa", sum := "46fcd0cfb90c184b6559ca23354de27e5c9c34d46b7eb85f9e6f6b018008e108", func := "watchtower/watchtowerlaw22.QueueBack", spec := "queueBack", unfollowed := true, recurses := true, apart := false, narrowed := true }
def QueueBackUptoSaid : Prop := queueBackUptoRow.holds Try.pinned (OpenSpec.upto queueBackSpec)

/-- 'watchtowerlaw22.QueueWaits', WHERE WHAT IT READS IS OF BULK AT MOST 1048576: true; the input reads as it did. -/
def queueWaitsUptoRow : OpenClaim := { program := "ytkkbncgnobaliaa", sum := "46fcd0cfb90c184b6559ca23354de27e5c9c34d46b7eb85f9e6f6b018008e108", func := "watchtower/watchtowerlaw22.QueueWaits", spec := "queueWaits", unfollowed := true, recurses := true, apart := false, narrowed := true }
def QueueWaitsUptoSaid : Prop := queueWaitsUptoRow.holds Try.pinned (OpenSpec.upto queueWaitsSpec)

/-- 'watchtowerlaw22.QueueAll', WHERE WHAT IT READS IS OF BULK AT MOST 1048576: true; the input reads as it did. -/
def queueAllUptoRow : OpenClaim := { program := "ytkkbncgnobaliaa", sum := "46fcd0cfb90c184b6559ca23354de27e5c9c34d46b7eb85f9e6f6b018008e108", func := "watchtower/watchtowerlaw22.QueueAll", spec := "queueAll", unfollowed := true, recurses := true, apart := false, narrowed := true }
def QueueAllUptoSaid : Prop := queueAllUptoRow.holds Try.pinned (OpenSpec.upto queueAllSpec)

end Rows
end Go.Proofs.Ytkkbncgnobaliaa
