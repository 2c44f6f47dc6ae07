/-
  No cell of these rows narrows 'for every input' (looked for: loops, veiled, ifaces, maps, wideKeys, modest, calm, conditions, laid).
  DERIVED. THE GIVEN ROWS OF THIS SEAT. 13 by the template 'for every input the law returns true; each argument reads behind the call as it read before'; 0 by the template 'total and deterministic' (their statements: YtcmhceilbampiaaTotals.lean).
  GIVEN WITH THE SEED: the statements are not yours to turn. If you find one false, say at which input.
  Laid BY PROGRAM, IN A SANDBOX (cutbox-rows.mjs): the forced cells as the released guide's own fill.sh prints them over the translation e6c9a68002ef5456… (all of the seat's roots in one cut). By AI agents, Wed Nov 11 2026. No macro, syntax, notation, axiom, sorry.
-/
import Derived.Test.YtcmhceilbampiaaChecked
import GoSem.Claim
import GoSem.ClaimJoined
import GoSem.ClaimMapViews
import Derived.JoinedTies
import Derived.KernelRfl
namespace Go.Proofs.Ytcmhceilbampiaa
/- THE CELL 'sum', in the pinned program and in every row, IS THE sha256 OF THE DUMP (.gsa) THAT YtcmhceilbampiaaProg.lean LOADS. Nothing in Lean hashes anything: it is a label: what it is worth is what the hold of that sum in a sandbox is worth. -/
noncomputable def Try.pinned : Pinned := { name := "ytcmhceilbampiaa", sum := "e6c9a68002ef545625e04f03453fea570153b533958fa81f7e8a79c94f30d869", checked := Try.checked }
namespace Rows
def none {H : Type} : Left H := { results := [], args := [] }

/-- 'watchtowerlaw15.HoldIs': WHATEVER THE INPUT: true; the input reads as it did. -/
def holdIsSpec : ChangeSpec := { name := "holdIs", fn := fun _ => fun
  | [d1, d2, d3, d4, d5] => { results := [.lit (.bool true)], args := [d1, d2, d3, d4, d5] }
  | _ => none }
def holdIsRow : OpenClaim := { program := "ytcmhceilbampiaa", sum := "e6c9a68002ef545625e04f03453fea570153b533958fa81f7e8a79c94f30d869", func := "watchtower/watchtowerlaw15.HoldIs", spec := "holdIs", apart := false }
def HoldIsSaid : Prop := holdIsRow.holds Try.pinned (OpenSpec.ofChange holdIsSpec)

/-- ITS FALSE NEIGHBOUR: 'it returns false'. Refute it at one input. -/
def holdIsWrong : ChangeSpec := { name := "holdIs", fn := fun _ => fun
  | [d1, d2, d3, d4, d5] => { results := [.lit (.bool false)], args := [d1, d2, d3, d4, d5] }
  | _ => none }
def HoldIsWrongFalsely : Prop := holdIsRow.holds Try.pinned (OpenSpec.ofChange holdIsWrong)

/-- 'watchtowerlaw15.HoldKeeps': WHATEVER THE INPUT: true; the input reads as it did. -/
def holdKeepsSpec : ChangeSpec := { name := "holdKeeps", fn := fun _ => fun
  | [d1, d2, d3, d4, d5] => { results := [.lit (.bool true)], args := [d1, d2, d3, d4, d5] }
  | _ => none }
def holdKeepsRow : OpenClaim := { program := "ytcmhceilbampiaa", sum := "e6c9a68002ef545625e04f03453fea570153b533958fa81f7e8a79c94f30d869", func := "watchtower/watchtowerlaw15.HoldKeeps", spec := "holdKeeps", apart := false }
def HoldKeepsSaid : Prop := holdKeepsRow.holds Try.pinned (OpenSpec.ofChange holdKeepsSpec)

/-- ITS FALSE NEIGHBOUR: 'it returns false'. Refute it at one input. -/
def holdKeepsWrong : ChangeSpec := { name := "holdKeeps", fn := fun _ => fun
  | [d1, d2, d3, d4, d5] => { results := [.lit (.bool false)], args := [d1, d2, d3, d4, d5] }
  | _ => none }
def HoldKeepsWrongFalsely : Prop := holdKeepsRow.holds Try.pinned (OpenSpec.ofChange holdKeepsWrong)

/-- 'watchtowerlaw15.HoldPlain': WHATEVER THE INPUT: true; the input reads as it did. -/
def holdPlainSpec : ChangeSpec := { name := "holdPlain", fn := fun _ => fun
  | [d1, d2, d3] => { results := [.lit (.bool true)], args := [d1, d2, d3] }
  | _ => none }
def holdPlainRow : OpenClaim := { program := "ytcmhceilbampiaa", sum := "e6c9a68002ef545625e04f03453fea570153b533958fa81f7e8a79c94f30d869", func := "watchtower/watchtowerlaw15.HoldPlain", spec := "holdPlain", apart := false }
def HoldPlainSaid : Prop := holdPlainRow.holds Try.pinned (OpenSpec.ofChange holdPlainSpec)

/-- ITS FALSE NEIGHBOUR: 'it returns false'. Refute it at one input. -/
def holdPlainWrong : ChangeSpec := { name := "holdPlain", fn := fun _ => fun
  | [d1, d2, d3] => { results := [.lit (.bool false)], args := [d1, d2, d3] }
  | _ => none }
def HoldPlainWrongFalsely : Prop := holdPlainRow.holds Try.pinned (OpenSpec.ofChange holdPlainWrong)

/-- 'watchtowerlaw15.HoldGone': WHATEVER THE INPUT: true; the input reads as it did. -/
def holdGoneSpec : ChangeSpec := { name := "holdGone", fn := fun _ => fun
  | [d1, d2, d3, d4, d5] => { results := [.lit (.bool true)], args := [d1, d2, d3, d4, d5] }
  | _ => none }
def holdGoneRow : OpenClaim := { program := "ytcmhceilbampiaa", sum := "e6c9a68002ef545625e04f03453fea570153b533958fa81f7e8a79c94f30d869", func := "watchtower/watchtowerlaw15.HoldGone", spec := "holdGone", apart := false }
def HoldGoneSaid : Prop := holdGoneRow.holds Try.pinned (OpenSpec.ofChange holdGoneSpec)

/-- ITS FALSE NEIGHBOUR: 'it returns false'. Refute it at one input. -/
def holdGoneWrong : ChangeSpec := { name := "holdGone", fn := fun _ => fun
  | [d1, d2, d3, d4, d5] => { results := [.lit (.bool false)], args := [d1, d2, d3, d4, d5] }
  | _ => none }
def HoldGoneWrongFalsely : Prop := holdGoneRow.holds Try.pinned (OpenSpec.ofChange holdGoneWrong)

/-- 'watchtowerlaw15.HoldMore': WHATEVER THE INPUT: true; the input reads as it did. -/
def holdMoreSpec : ChangeSpec := { name := "holdMore", fn := fun _ => fun
  | [d1, d2, d3, d4, d5, d6] => { results := [.lit (.bool true)], args := [d1, d2, d3, d4, d5, d6] }
  | _ => none }
def holdMoreRow : OpenClaim := { program := "ytcmhceilbampiaa", sum := "e6c9a68002ef545625e04f03453fea570153b533958fa81f7e8a79c94f30d869", func := "watchtower/watchtowerlaw15.HoldMore", spec := "holdMore", apart := false }
def HoldMoreSaid : Prop := holdMoreRow.holds Try.pinned (OpenSpec.ofChange holdMoreSpec)

/-- ITS FALSE NEIGHBOUR: 'it returns false'. Refute it at one input. -/
def holdMoreWrong : ChangeSpec := { name := "holdMore", fn := fun _ => fun
  | [d1, d2, d3, d4, d5, d6] => { results := [.lit (.bool false)], args := [d1, d2, d3, d4, d5, d6] }
  | _ => none }
def HoldMoreWrongFalsely : Prop := holdMoreRow.holds Try.pinned (OpenSpec.ofChange holdMoreWrong)

/-- 'watchtowerlaw15.HoldTwice': WHATEVER THE INPUT: true; the input reads as it did. -/
def holdTwiceSpec : ChangeSpec := { name := "holdTwice", fn := fun _ => fun
  | [d1, d2, d3, d4, d5] => { results := [.lit (.bool true)], args := [d1, d2, d3, d4, d5] }
  | _ => none }
def holdTwiceRow : OpenClaim := { program := "ytcmhceilbampiaa", sum := "e6c9a68002ef545625e04f03453fea570153b533958fa81f7e8a79c94f30d869", func := "watchtower/watchtowerlaw15.HoldTwice", spec := "holdTwice", apart := false }
def HoldTwiceSaid : Prop := holdTwiceRow.holds Try.pinned (OpenSpec.ofChange holdTwiceSpec)

/-- ITS FALSE NEIGHBOUR: 'it returns false'. Refute it at one input. -/
def holdTwiceWrong : ChangeSpec := { name := "holdTwice", fn := fun _ => fun
  | [d1, d2, d3, d4, d5] => { results := [.lit (.bool false)], args := [d1, d2, d3, d4, d5] }
  | _ => none }
def HoldTwiceWrongFalsely : Prop := holdTwiceRow.holds Try.pinned (OpenSpec.ofChange holdTwiceWrong)

/-- 'watchtowerlaw16.PastIs': WHATEVER THE INPUT: true; the input reads as it did. -/
def pastIsSpec : ChangeSpec := { name := "pastIs", fn := fun _ => fun
  | [d1, d2, d3, d4] => { results := [.lit (.bool true)], args := [d1, d2, d3, d4] }
  | _ => none }
def pastIsRow : OpenClaim := { program := "ytcmhceilbampiaa", sum := "e6c9a68002ef545625e04f03453fea570153b533958fa81f7e8a79c94f30d869", func := "watchtower/watchtowerlaw16.PastIs", spec := "pastIs", apart := false }
def PastIsSaid : Prop := pastIsRow.holds Try.pinned (OpenSpec.ofChange pastIsSpec)

/-- ITS FALSE NEIGHBOUR: 'it returns false'. Refute it at one input. -/
def pastIsWrong : ChangeSpec := { name := "pastIs", fn := fun _ => fun
  | [d1, d2, d3, d4] => { results := [.lit (.bool false)], args := [d1, d2, d3, d4] }
  | _ => none }
def PastIsWrongFalsely : Prop := pastIsRow.holds Try.pinned (OpenSpec.ofChange pastIsWrong)

/-- 'watchtowerlaw16.PastRuns': WHATEVER THE INPUT: true; the input reads as it did. -/
def pastRunsSpec : ChangeSpec := { name := "pastRuns", fn := fun _ => fun
  | [d] => { results := [.lit (.bool true)], args := [d] }
  | _ => none }
def pastRunsRow : OpenClaim := { program := "ytcmhceilbampiaa", sum := "e6c9a68002ef545625e04f03453fea570153b533958fa81f7e8a79c94f30d869", func := "watchtower/watchtowerlaw16.PastRuns", spec := "pastRuns", apart := false }
def PastRunsSaid : Prop := pastRunsRow.holds Try.pinned (OpenSpec.ofChange pastRunsSpec)

/-- ITS FALSE NEIGHBOUR: 'it returns false'. Refute it at one input. -/
def pastRunsWrong : ChangeSpec := { name := "pastRuns", fn := fun _ => fun
  | [d] => { results := [.lit (.bool false)], args := [d] }
  | _ => none }
def PastRunsWrongFalsely : Prop := pastRunsRow.holds Try.pinned (OpenSpec.ofChange pastRunsWrong)

/-- 'watchtowerlaw16.PastLater': WHATEVER THE INPUT: true; the input reads as it did. -/
def pastLaterSpec : ChangeSpec := { name := "pastLater", fn := fun _ => fun
  | [d1, d2, d3, d4] => { results := [.lit (.bool true)], args := [d1, d2, d3, d4] }
  | _ => none }
def pastLaterRow : OpenClaim := { program := "ytcmhceilbampiaa", sum := "e6c9a68002ef545625e04f03453fea570153b533958fa81f7e8a79c94f30d869", func := "watchtower/watchtowerlaw16.PastLater", spec := "pastLater", apart := false }
def PastLaterSaid : Prop := pastLaterRow.holds Try.pinned (OpenSpec.ofChange pastLaterSpec)

/-- ITS FALSE NEIGHBOUR: 'it returns false'. Refute it at one input. -/
def pastLaterWrong : ChangeSpec := { name := "pastLater", fn := fun _ => fun
  | [d1, d2, d3, d4] => { results := [.lit (.bool false)], args := [d1, d2, d3, d4] }
  | _ => none }
def PastLaterWrongFalsely : Prop := pastLaterRow.holds Try.pinned (OpenSpec.ofChange pastLaterWrong)

/-- 'watchtowerlaw16.PastTimes': WHATEVER THE INPUT: true; the input reads as it did. -/
def pastTimesSpec : ChangeSpec := { name := "pastTimes", fn := fun _ => fun
  | [d1, d2, d3, d4] => { results := [.lit (.bool true)], args := [d1, d2, d3, d4] }
  | _ => none }
def pastTimesRow : OpenClaim := { program := "ytcmhceilbampiaa", sum := "e6c9a68002ef545625e04f03453fea570153b533958fa81f7e8a79c94f30d869", func := "watchtower/watchtowerlaw16.PastTimes", spec := "pastTimes", apart := false }
def PastTimesSaid : Prop := pastTimesRow.holds Try.pinned (OpenSpec.ofChange pastTimesSpec)

/-- ITS FALSE NEIGHBOUR: 'it returns false'. Refute it at one input. -/
def pastTimesWrong : ChangeSpec := { name := "pastTimes", fn := fun _ => fun
  | [d1, d2, d3, d4] => { results := [.lit (.bool false)], args := [d1, d2, d3, d4] }
  | _ => none }
def PastTimesWrongFalsely : Prop := pastTimesRow.holds Try.pinned (OpenSpec.ofChange pastTimesWrong)

/-- 'watchtowerlaw16.PastAll': WHATEVER THE INPUT: true; the input reads as it did. -/
def pastAllSpec : ChangeSpec := { name := "pastAll", fn := fun _ => fun
  | [d1, d2, d3] => { results := [.lit (.bool true)], args := [d1, d2, d3] }
  | _ => none }
def pastAllRow : OpenClaim := { program := "ytcmhceilbampiaa", sum := "e6c9a68002ef545625e04f03453fea570153b533958fa81f7e8a79c94f30d869", func := "watchtower/watchtowerlaw16.PastAll", spec := "pastAll", apart := false }
def PastAllSaid : Prop := pastAllRow.holds Try.pinned (OpenSpec.ofChange pastAllSpec)

/-- ITS FALSE NEIGHBOUR: 'it returns false'. Refute it at one input. -/
def pastAllWrong : ChangeSpec := { name := "pastAll", fn := fun _ => fun
  | [d1, d2, d3] => { results := [.lit (.bool false)], args := [d1, d2, d3] }
  | _ => none }
def PastAllWrongFalsely : Prop := pastAllRow.holds Try.pinned (OpenSpec.ofChange pastAllWrong)

/-- 'watchtowerlaw16.PastPlain': WHATEVER THE INPUT: true; the input reads as it did. -/
def pastPlainSpec : ChangeSpec := { name := "pastPlain", fn := fun _ => fun
  | [d1, d2] => { results := [.lit (.bool true)], args := [d1, d2] }
  | _ => none }
def pastPlainRow : OpenClaim := { program := "ytcmhceilbampiaa", sum := "e6c9a68002ef545625e04f03453fea570153b533958fa81f7e8a79c94f30d869", func := "watchtower/watchtowerlaw16.PastPlain", spec := "pastPlain", apart := false }
def PastPlainSaid : Prop := pastPlainRow.holds Try.pinned (OpenSpec.ofChange pastPlainSpec)

/-- ITS FALSE NEIGHBOUR: 'it returns false'. Refute it at one input. -/
def pastPlainWrong : ChangeSpec := { name := "pastPlain", fn := fun _ => fun
  | [d1, d2] => { results := [.lit (.bool false)], args := [d1, d2] }
  | _ => none }
def PastPlainWrongFalsely : Prop := pastPlainRow.holds Try.pinned (OpenSpec.ofChange pastPlainWrong)

/-- 'watchtowerlaw16.PastSteps': WHATEVER THE INPUT: true; the input reads as it did. -/
def pastStepsSpec : ChangeSpec := { name := "pastSteps", fn := fun _ => fun
  | [d1, d2, d3] => { results := [.lit (.bool true)], args := [d1, d2, d3] }
  | _ => none }
def pastStepsRow : OpenClaim := { program := "ytcmhceilbampiaa", sum := "e6c9a68002ef545625e04f03453fea570153b533958fa81f7e8a79c94f30d869", func := "watchtower/watchtowerlaw16.PastSteps", spec := "pastSteps", apart := false }
def PastStepsSaid : Prop := pastStepsRow.holds Try.pinned (OpenSpec.ofChange pastStepsSpec)

/-- ITS FALSE NEIGHBOUR: 'it returns false'. Refute it at one input. -/
def pastStepsWrong : ChangeSpec := { name := "pastSteps", fn := fun _ => fun
  | [d1, d2, d3] => { results := [.lit (.bool false)], args := [d1, d2, d3] }
  | _ => none }
def PastStepsWrongFalsely : Prop := pastStepsRow.holds Try.pinned (OpenSpec.ofChange pastStepsWrong)

/- THE SECOND FORM. 'bulk': how many values and letters a reading holds, each counted each time it is reached (what is shared counts as often as it is met; a slice's spare places count too). A statement '..UptoSaid' is the law's where the arguments, and the package variables that the reading takes, are together of bulk at most 1048576: NARROWER than '..Said'. Prove '..Said' where nothing that the law and all that it calls make is longer than what came in: it says more and counts as full. Else prove '..UptoSaid'. A law counts once. -/
mutual
def uptoBulk {H : Type} : DataW H → Nat
  | .lit (.string bytes) => bytes.length + 1
  | .lit _ => 1
  | .nil => 1
  | .ptr d => uptoBulk d + 1
  | .slice elems spare => uptoBulkAll elems + uptoBulkAll spare + 1
  | .agg parts => uptoBulkAll parts + 1
  | .iface _ d => uptoBulk d + 1
  | .map entries => uptoBulkEntries entries + 1
  | .held _ => 1
def uptoBulkAll {H : Type} : List (DataW H) → Nat
  | [] => 0
  | d :: r => uptoBulk d + uptoBulkAll r
def uptoBulkEntries {H : Type} : List (Lit × DataW H) → Nat
  | [] => 0
  | x :: r => uptoBulkEntry x + uptoBulkEntries r
def uptoBulkEntry {H : Type} : Lit × DataW H → Nat
  | (.string bytes, d) => bytes.length + uptoBulk d + 1
  | (_, d) => uptoBulk d + 1
 end
def uptoSmall : (H : Type) → List (DataW H) → Bool := fun _ ds => decide (uptoBulkAll ds ≤ 1048576)
def OpenSpec.upto (s : _root_.Go.ChangeSpec) : _root_.Go.OpenSpec := { _root_.Go.OpenSpec.ofChange s with cond := some uptoSmall }

/-- 'watchtowerlaw15.HoldIs', WHERE WHAT IT READS IS OF BULK AT MOST 1048576: true; the input reads as it did. -/
def holdIsUptoRow : OpenClaim := { program := "ytcmhceilbampiaa", sum := "e6c9a68002ef545625e04f03453fea570153b533958fa81f7e8a79c94f30d869", func := "watchtower/watchtowerlaw15.HoldIs", spec := "holdIs", apart := false, narrowed := true }
def HoldIsUptoSaid : Prop := holdIsUptoRow.holds Try.pinned (OpenSpec.upto holdIsSpec)

/-- 'watchtowerlaw15.HoldKeeps', WHERE WHAT IT READS IS OF BULK AT MOST 1048576: true; the input reads as it did. -/
def holdKeepsUptoRow : OpenClaim := { program := "ytcmhceilbampiaa", sum := "e6c9a68002ef545625e04f03453fea570153b533958fa81f7e8a79c94f30d869", func := "watchtower/watchtowerlaw15.HoldKeeps", spec := "holdKeeps", apart := false, narrowed := true }
def HoldKeepsUptoSaid : Prop := holdKeepsUptoRow.holds Try.pinned (OpenSpec.upto holdKeepsSpec)

/-- 'watchtowerlaw15.HoldPlain', WHERE WHAT IT READS IS OF BULK AT MOST 1048576: true; the input reads as it did. -/
def holdPlainUptoRow : OpenClaim := { program := "ytcmhceilbampiaa", sum := "e6c9a68002ef545625e04f03453fea570153b533958fa81f7e8a79c94f30d869", func := "watchtower/watchtowerlaw15.HoldPlain", spec := "holdPlain", apart := false, narrowed := true }
def HoldPlainUptoSaid : Prop := holdPlainUptoRow.holds Try.pinned (OpenSpec.upto holdPlainSpec)

/-- 'watchtowerlaw15.HoldGone', WHERE WHAT IT READS IS OF BULK AT MOST 1048576: true; the input reads as it did. -/
def holdGoneUptoRow : OpenClaim := { program := "ytcmhceilbampiaa", sum := "e6c9a68002ef545625e04f03453fea570153b533958fa81f7e8a79c94f30d869", func := "watchtower/watchtowerlaw15.HoldGone", spec := "holdGone", apart := false, narrowed := true }
def HoldGoneUptoSaid : Prop := holdGoneUptoRow.holds Try.pinned (OpenSpec.upto holdGoneSpec)

/-- 'watchtowerlaw15.HoldMore', WHERE WHAT IT READS IS OF BULK AT MOST 1048576: true; the input reads as it did. -/
def holdMoreUptoRow : OpenClaim := { program := "ytcmhceilbampiaa", sum := "e6c9a68002ef545625e04f03453fea570153b533958fa81f7e8a79c94f30d869", func := "watchtower/watchtowerlaw15.HoldMore", spec := "holdMore", apart := false, narrowed := true }
def HoldMoreUptoSaid : Prop := holdMoreUptoRow.holds Try.pinned (OpenSpec.upto holdMoreSpec)

/-- 'watchtowerlaw15.HoldTwice', WHERE WHAT IT READS IS OF BULK AT MOST 1048576: true; the input reads as it did. -/
def holdTwiceUptoRow : OpenClaim := { program := "ytcmhceilbampiaa", sum := "e6c9a68002ef545625e04f03453fea570153b533958fa81f7e8a79c94f30d869", func := "watchtower/watchtowerlaw15.HoldTwice", spec := "holdTwice", apart := false, narrowed := true }
def HoldTwiceUptoSaid : Prop := holdTwiceUptoRow.holds Try.pinned (OpenSpec.upto holdTwiceSpec)

/-- 'watchtowerlaw16.PastIs', WHERE WHAT IT READS IS OF BULK AT MOST 1048576: true; the input reads as it did. -/
def pastIsUptoRow : OpenClaim := { program := "ytcmhceilbampiaa", sum := "e6c9a68002ef545625e04f03453fea570153b533958fa81f7e8a79c94f30d869", func := "watchtower/watchtowerlaw16.PastIs", spec := "pastIs", apart := false, narrowed := true }
def PastIsUptoSaid : Prop := pastIsUptoRow.holds Try.pinned (OpenSpec.upto pastIsSpec)

/-- 'watchtowerlaw16.PastRuns', WHERE WHAT IT READS IS OF BULK AT MOST 1048576: true; the input reads as it did. -/
def pastRunsUptoRow : OpenClaim := { program := "ytcmhceilbampiaa", sum := "e6c9a68002ef545625e04f03453fea570153b533958fa81f7e8a79c94f30d869", func := "watchtower/watchtowerlaw16.PastRuns", spec := "pastRuns", apart := false, narrowed := true }
def PastRunsUptoSaid : Prop := pastRunsUptoRow.holds Try.pinned (OpenSpec.upto pastRunsSpec)

/-- 'watchtowerlaw16.PastLater', WHERE WHAT IT READS IS OF BULK AT MOST 1048576: true; the input reads as it did. -/
def pastLaterUptoRow : OpenClaim := { program := "ytcmhceilbampiaa", sum := "e6c9a68002ef545625e04f03453fea570153b533958fa81f7e8a79c94f30d869", func := "watchtower/watchtowerlaw16.PastLater", spec := "pastLater", apart := false, narrowed := true }
def PastLaterUptoSaid : Prop := pastLaterUptoRow.holds Try.pinned (OpenSpec.upto pastLaterSpec)

/-- 'watchtowerlaw16.PastTimes', WHERE WHAT IT READS IS OF BULK AT MOST 1048576: true; the input reads as it did. -/
def pastTimesUptoRow : OpenClaim := { program := "ytcmhceilbampiaa", sum := "e6c9a68002ef545625e04f03453fea570153b533958fa81f7e8a79c94f30d869", func := "watchtower/watchtowerlaw16.PastTimes", spec := "pastTimes", apart := false, narrowed := true }
def PastTimesUptoSaid : Prop := pastTimesUptoRow.holds Try.pinned (OpenSpec.upto pastTimesSpec)

/-- 'watchtowerlaw16.PastAll', WHERE WHAT IT READS IS OF BULK AT MOST 1048576: true; the input reads as it did. -/
def pastAllUptoRow : OpenClaim := { program := "ytcmhceilbampiaa", sum := "e6c9a68002ef545625e04f03453fea570153b533958fa81f7e8a79c94f30d869", func := "watchtower/watchtowerlaw16.PastAll", spec := "pastAll", apart := false, narrowed := true }
def PastAllUptoSaid : Prop := pastAllUptoRow.holds Try.pinned (OpenSpec.upto pastAllSpec)

/-- 'watchtowerlaw16.PastPlain', WHERE WHAT IT READS IS OF BULK AT MOST 1048576: true; the input reads as it did. -/
def pastPlainUptoRow : OpenClaim := { program := "ytcmhceilbampiaa", sum := "e6c9a68002ef545625e04f03453fea570153b533958fa81f7e8a79c94f30d869", func := "watchtower/watchtowerlaw16.PastPlain", spec := "pastPlain", apart := false, narrowed := true }
def PastPlainUptoSaid : Prop := pastPlainUptoRow.holds Try.pinned (OpenSpec.upto pastPlainSpec)

/-- 'watchtowerlaw16.PastSteps', WHERE WHAT IT READS IS OF BULK AT MOST 1048576: true; the input reads as it did. -/
def pastStepsUptoRow : OpenClaim := { program := "ytcmhceilbampiaa", sum := "e6c9a68002ef545625e04f03453fea570153b533958fa81f7e8a79c94f30d869", func := "watchtower/watchtowerlaw16.PastSteps", spec := "pastSteps", apart := false, narrowed := true }
def PastStepsUptoSaid : Prop := pastStepsUptoRow.holds Try.pinned (OpenSpec.upto pastStepsSpec)

end Rows
end Go.Proofs.Ytcmhceilbampiaa
