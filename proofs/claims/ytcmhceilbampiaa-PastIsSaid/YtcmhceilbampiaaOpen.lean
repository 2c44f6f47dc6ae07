/-
  ARGUMENTS WITH DEPTH, OPENED: a hold by value.
-/
import Derived.Test.YtcmhceilbampiaaFrame
import Derived.Lib.SmallJoins
namespace Go.Proofs.Ytcmhceilbampiaa
open Go.ChangeShapes Go.WideShapes Go.ChangeAt Go.RowKit Go.Joins
/-- A value that is a hold, its numbers fitting. -/
def IsHold (v : Value) : Prop := ∃ (o : Bool) (s : Int) (i : Bool) (f : Int), v = .agg #[.bool o, .int .i64 s, .bool i, .int .i64 f] ∧ (-9223372036854775808 ≤ s ∧ s ≤ 9223372036854775807) ∧ (-9223372036854775808 ≤ f ∧ f ≤ 9223372036854775807)
section
variable {H : Type} {enc : TypeId × Value → H} {W : World} {base : Nat} {v : Value} {d : DataW H} {p : List MemPlace}
theorem open_hold (hv : Value.okWide Try.prog W .any base 23 v) (h : DataW.Trod enc Try.prog W 0 (fun _ => true) true 23 v d p) (_hlt : ∀ x ∈ p, x.block < W.heap.size) : IsHold v := by
  obtain ⟨c0, c1, c2, c3, y0, y1, y2, y3, n, rfl, -, -, h0, h1, h2, h3⟩ := open_agg4 Try.underlying23 (by kernel_rfl) (by kernel_rfl) hv h
  obtain ⟨o, e0, -⟩ := DataW.trod_bool Try.underlying4 h0
  obtain ⟨s, e1, -, w1⟩ := DataW.trod_int Try.underlying3 h1
  obtain ⟨i, e2, -⟩ := DataW.trod_bool Try.underlying4 h2
  obtain ⟨f, e3, -, w3⟩ := DataW.trod_int Try.underlying3 h3
  simp at e0 e1 e2 e3
  subst e0 e1 e2 e3
  exact ⟨o, s, i, f, rfl, wf_i64b w1, wf_i64b w3⟩
end
end Go.Proofs.Ytcmhceilbampiaa
