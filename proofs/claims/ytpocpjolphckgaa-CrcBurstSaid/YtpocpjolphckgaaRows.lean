/-
  No cell of these rows narrows 'for every input' (looked for: loops, veiled, ifaces, maps, wideKeys, modest, calm, conditions, laid).
  DERIVED. THE GIVEN ROWS OF THIS SEAT. 6 by the template 'for every input the law returns true; each argument reads behind the call as it read before'; 0 by the template 'total and deterministic' (their statements: YtpocpjolphckgaaTotals.lean).
  GIVEN WITH THE SEED: the statements are not yours to turn. If you find one false, say at which input.
  Laid BY PROGRAM, IN A SANDBOX (cutbox-rows.mjs): the forced cells as the released guide's own fill.sh prints them over the translation e2b64148b8972155… (all of the seat's roots in one cut). By AI agents, Wed Nov 11 2026. No macro, syntax, notation, axiom, sorry.
-/
import Derived.Test.YtpocpjolphckgaaChecked
import GoSem.Claim
import GoSem.ClaimJoined
import GoSem.ClaimMapViews
import Derived.JoinedTies
import Derived.KernelRfl
namespace Go.Proofs.Ytpocpjolphckgaa
/- THE CELL 'sum', in the pinned program and in every row, IS THE sha256 OF THE DUMP (.gsa) THAT YtpocpjolphckgaaProg.lean LOADS. Nothing in Lean hashes anything: it is a label: what it is worth is what the hold of that sum in a sandbox is worth. -/
noncomputable def Try.pinned : Pinned := { name := "ytpocpjolphckgaa", sum := "e2b64148b8972155d4ef97bcf9b97d82dd77203ee97da1784afdc4245b6c97c4", checked := Try.checked }
namespace Rows
def none {H : Type} : Left H := { results := [], args := [] }

/-- 'watchtowerlaw04.CrcIs': WHATEVER THE INPUT: true; the input reads as it did. -/
def crcIsSpec : ChangeSpec := { name := "crcIs", fn := fun _ => fun
  | [d1, d2, d3] => { results := [.lit (.bool true)], args := [d1, d2, d3] }
  | _ => none }
def crcIsRow : OpenClaim := { program := "ytpocpjolphckgaa", sum := "e2b64148b8972155d4ef97bcf9b97d82dd77203ee97da1784afdc4245b6c97c4", func := "watchtower/watchtowerlaw04.CrcIs", spec := "crcIs", apart := false }
def CrcIsSaid : Prop := crcIsRow.holds Try.pinned (OpenSpec.ofChange crcIsSpec)

/-- ITS FALSE NEIGHBOUR: 'it returns false'. Refute it at one input. -/
def crcIsWrong : ChangeSpec := { name := "crcIs", fn := fun _ => fun
  | [d1, d2, d3] => { results := [.lit (.bool false)], args := [d1, d2, d3] }
  | _ => none }
def CrcIsWrongFalsely : Prop := crcIsRow.holds Try.pinned (OpenSpec.ofChange crcIsWrong)

/-- 'watchtowerlaw04.CrcParts': WHATEVER THE INPUT: true; the input reads as it did. -/
def crcPartsSpec : ChangeSpec := { name := "crcParts", fn := fun _ => fun
  | [d1, d2, d3] => { results := [.lit (.bool true)], args := [d1, d2, d3] }
  | _ => none }
def crcPartsRow : OpenClaim := { program := "ytpocpjolphckgaa", sum := "e2b64148b8972155d4ef97bcf9b97d82dd77203ee97da1784afdc4245b6c97c4", func := "watchtower/watchtowerlaw04.CrcParts", spec := "crcParts", apart := false }
def CrcPartsSaid : Prop := crcPartsRow.holds Try.pinned (OpenSpec.ofChange crcPartsSpec)

/-- ITS FALSE NEIGHBOUR: 'it returns false'. Refute it at one input. -/
def crcPartsWrong : ChangeSpec := { name := "crcParts", fn := fun _ => fun
  | [d1, d2, d3] => { results := [.lit (.bool false)], args := [d1, d2, d3] }
  | _ => none }
def CrcPartsWrongFalsely : Prop := crcPartsRow.holds Try.pinned (OpenSpec.ofChange crcPartsWrong)

/-- 'watchtowerlaw04.CrcBurst': WHATEVER THE INPUT: true; the input reads as it did. -/
def crcBurstSpec : ChangeSpec := { name := "crcBurst", fn := fun _ => fun
  | [d1, d2, d3] => { results := [.lit (.bool true)], args := [d1, d2, d3] }
  | _ => none }
def crcBurstRow : OpenClaim := { program := "ytpocpjolphckgaa", sum := "e2b64148b8972155d4ef97bcf9b97d82dd77203ee97da1784afdc4245b6c97c4", func := "watchtower/watchtowerlaw04.CrcBurst", spec := "crcBurst", apart := false }
def CrcBurstSaid : Prop := crcBurstRow.holds Try.pinned (OpenSpec.ofChange crcBurstSpec)

/-- ITS FALSE NEIGHBOUR: 'it returns false'. Refute it at one input. -/
def crcBurstWrong : ChangeSpec := { name := "crcBurst", fn := fun _ => fun
  | [d1, d2, d3] => { results := [.lit (.bool false)], args := [d1, d2, d3] }
  | _ => none }
def CrcBurstWrongFalsely : Prop := crcBurstRow.holds Try.pinned (OpenSpec.ofChange crcBurstWrong)

/-- 'watchtowerlaw04.CrcAdds': WHATEVER THE INPUT: true; the input reads as it did. -/
def crcAddsSpec : ChangeSpec := { name := "crcAdds", fn := fun _ => fun
  | [d1, d2, d3] => { results := [.lit (.bool true)], args := [d1, d2, d3] }
  | _ => none }
def crcAddsRow : OpenClaim := { program := "ytpocpjolphckgaa", sum := "e2b64148b8972155d4ef97bcf9b97d82dd77203ee97da1784afdc4245b6c97c4", func := "watchtower/watchtowerlaw04.CrcAdds", spec := "crcAdds", apart := false }
def CrcAddsSaid : Prop := crcAddsRow.holds Try.pinned (OpenSpec.ofChange crcAddsSpec)

/-- ITS FALSE NEIGHBOUR: 'it returns false'. Refute it at one input. -/
def crcAddsWrong : ChangeSpec := { name := "crcAdds", fn := fun _ => fun
  | [d1, d2, d3] => { results := [.lit (.bool false)], args := [d1, d2, d3] }
  | _ => none }
def CrcAddsWrongFalsely : Prop := crcAddsRow.holds Try.pinned (OpenSpec.ofChange crcAddsWrong)

/-- 'watchtowerlaw04.CrcStep': WHATEVER THE INPUT: true; the input reads as it did. -/
def crcStepSpec : ChangeSpec := { name := "crcStep", fn := fun _ => fun
  | [d1, d2, d3, d4] => { results := [.lit (.bool true)], args := [d1, d2, d3, d4] }
  | _ => none }
def crcStepRow : OpenClaim := { program := "ytpocpjolphckgaa", sum := "e2b64148b8972155d4ef97bcf9b97d82dd77203ee97da1784afdc4245b6c97c4", func := "watchtower/watchtowerlaw04.CrcStep", spec := "crcStep", apart := false }
def CrcStepSaid : Prop := crcStepRow.holds Try.pinned (OpenSpec.ofChange crcStepSpec)

/-- ITS FALSE NEIGHBOUR: 'it returns false'. Refute it at one input. -/
def crcStepWrong : ChangeSpec := { name := "crcStep", fn := fun _ => fun
  | [d1, d2, d3, d4] => { results := [.lit (.bool false)], args := [d1, d2, d3, d4] }
  | _ => none }
def CrcStepWrongFalsely : Prop := crcStepRow.holds Try.pinned (OpenSpec.ofChange crcStepWrong)

/-- 'watchtowerlaw04.CrcOne': WHATEVER THE INPUT: true; the input reads as it did. -/
def crcOneSpec : ChangeSpec := { name := "crcOne", fn := fun _ => fun
  | [d1, d2] => { results := [.lit (.bool true)], args := [d1, d2] }
  | _ => none }
def crcOneRow : OpenClaim := { program := "ytpocpjolphckgaa", sum := "e2b64148b8972155d4ef97bcf9b97d82dd77203ee97da1784afdc4245b6c97c4", func := "watchtower/watchtowerlaw04.CrcOne", spec := "crcOne", apart := false }
def CrcOneSaid : Prop := crcOneRow.holds Try.pinned (OpenSpec.ofChange crcOneSpec)

/-- ITS FALSE NEIGHBOUR: 'it returns false'. Refute it at one input. -/
def crcOneWrong : ChangeSpec := { name := "crcOne", fn := fun _ => fun
  | [d1, d2] => { results := [.lit (.bool false)], args := [d1, d2] }
  | _ => none }
def CrcOneWrongFalsely : Prop := crcOneRow.holds Try.pinned (OpenSpec.ofChange crcOneWrong)

/- THE SECOND FORM. 'bulk': how many values and letters a reading holds, each counted each time it is reached (what is shared counts as often as it is met; a slice's spare places count too). A statement '..UptoSaid' is the law's where the arguments, and the package variables that the reading takes, are together of bulk at most 1048576: NARROWER than '..Said'. Prove '..Said' where nothing that the law and all that it calls make is longer than what came in: it says more and counts as full. Else prove '..UptoSaid'. A law counts once. -/
mutual
def uptoBulk {H : Type} : DataW H → Nat
  | .lit (.string bytes) => bytes.length + 1
  | .lit _ => 1
  | .nil => 1
  | .ptr d => uptoBulk d + 1
  | .slice elems spare => uptoBulkAll elems + uptoBulkAll spare + 1
  | .agg parts => uptoBulkAll parts + 1
  | .iface _ d => uptoBulk d + 1
  | .map entries => uptoBulkEntries entries + 1
  | .held _ => 1
def uptoBulkAll {H : Type} : List (DataW H) → Nat
  | [] => 0
  | d :: r => uptoBulk d + uptoBulkAll r
def uptoBulkEntries {H : Type} : List (Lit × DataW H) → Nat
  | [] => 0
  | x :: r => uptoBulkEntry x + uptoBulkEntries r
def uptoBulkEntry {H : Type} : Lit × DataW H → Nat
  | (.string bytes, d) => bytes.length + uptoBulk d + 1
  | (_, d) => uptoBulk d + 1
 end
def uptoSmall : (H : Type) → List (DataW H) → Bool := fun _ ds => decide (uptoBulkAll ds ≤ 1048576)
def OpenSpec.upto (s : _root_.Go.ChangeSpec) : _root_.Go.OpenSpec := { _root_.Go.OpenSpec.ofChange s with cond := some uptoSmall }

/-- 'watchtowerlaw04.CrcIs', WHERE WHAT IT READS IS OF BULK AT MOST 1048576: true; the input reads as it did. -/
def crcIsUptoRow : OpenClaim := { program := "ytpocpjolphckgaa", sum := "e2b64148b8972155d4ef97bcf9b97d82dd77203ee97da1784afdc4245b6c97c4", func := "watchtower/watchtowerlaw04.CrcIs", spec := "crcIs", apart := false, narrowed := true }
def CrcIsUptoSaid : Prop := crcIsUptoRow.holds Try.pinned (OpenSpec.upto crcIsSpec)

/-- 'watchtowerlaw04.CrcParts', WHERE WHAT IT READS IS OF BULK AT MOST 1048576: true; the input reads as it did. -/
def crcPartsUptoRow : OpenClaim := { program := "ytpocpjolphckgaa", sum := "e2b64148b8972155d4ef97bcf9b97d82dd77203ee97da1784afdc4245b6c97c4", func := "watchtower/watchtowerlaw04.CrcParts", spec := "crcParts", apart := false, narrowed := true }
def CrcPartsUptoSaid : Prop := crcPartsUptoRow.holds Try.pinned (OpenSpec.upto crcPartsSpec)

/-- 'watchtowerlaw04.CrcBurst', WHERE WHAT IT READS IS OF BULK AT MOST 1048576: true; the input reads as it did. -/
def crcBurstUptoRow : OpenClaim := { program := "ytpocpjolphckgaa", sum := "e2b64148b8972155d4ef97bcf9b97d82dd77203ee97da1784afdc4245b6c97c4", func := "watchtower/watchtowerlaw04.CrcBurst", spec := "crcBurst", apart := false, narrowed := true }
def CrcBurstUptoSaid : Prop := crcBurstUptoRow.holds Try.pinned (OpenSpec.upto crcBurstSpec)

/-- 'watchtowerlaw04.CrcAdds', WHERE WHAT IT READS IS OF BULK AT MOST 1048576: true; the input reads as it did. -/
def crcAddsUptoRow : OpenClaim := { program := "ytpocpjolphckgaa", sum := "e2b64148b8972155d4ef97bcf9b97d82dd77203ee97da1784afdc4245b6c97c4", func := "watchtower/watchtowerlaw04.CrcAdds", spec := "crcAdds", apart := false, narrowed := true }
def CrcAddsUptoSaid : Prop := crcAddsUptoRow.holds Try.pinned (OpenSpec.upto crcAddsSpec)

/-- 'watchtowerlaw04.CrcStep', WHERE WHAT IT READS IS OF BULK AT MOST 1048576: true; the input reads as it did. -/
def crcStepUptoRow : OpenClaim := { program := "ytpocpjolphckgaa", sum := "e2b64148b8972155d4ef97bcf9b97d82dd77203ee97da1784afdc4245b6c97c4", func := "watchtower/watchtowerlaw04.CrcStep", spec := "crcStep", apart := false, narrowed := true }
def CrcStepUptoSaid : Prop := crcStepUptoRow.holds Try.pinned (OpenSpec.upto crcStepSpec)

/-- 'watchtowerlaw04.CrcOne', WHERE WHAT IT READS IS OF BULK AT MOST 1048576: true; the input reads as it did. -/
def crcOneUptoRow : OpenClaim := { program := "ytpocpjolphckgaa", sum := "e2b64148b8972155d4ef97bcf9b97d82dd77203ee97da1784afdc4245b6c97c4", func := "watchtower/watchtowerlaw04.CrcOne", spec := "crcOne", apart := false, narrowed := true }
def CrcOneUptoSaid : Prop := crcOneUptoRow.holds Try.pinned (OpenSpec.upto crcOneSpec)

end Rows
end Go.Proofs.Ytpocpjolphckgaa
