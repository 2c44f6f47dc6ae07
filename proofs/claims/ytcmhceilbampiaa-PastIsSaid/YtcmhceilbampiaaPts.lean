/-
  LOOKS IN MEMORY: a slice of points by place, and how one that came in is opened.
-/
import Derived.Test.YtcmhceilbampiaaFrame
import Derived.Test.YtcmhceilbampiaaOwn
import Derived.Deep.SlicePairs
namespace Go.Proofs.Ytcmhceilbampiaa
open Go.ChangeShapes Go.WideShapes Go.ChangeAt Go.RowKit
/-- A slice of n looks: when, and whether it holds. -/
def Ps (w : World) (B : Nat) (A : Option Addr) (n : Nat) (T : Nat → Int) (C : Nat → Bool) : Prop := Q2 w B A n (fun i => .int .i64 (T i)) (fun i => .bool (C i))
/-- A value that is a slice of looks. -/
def IsPoints (W : World) (v : Value) : Prop := ∃ (A : Option Addr) (n c : Nat) (T : Nat → Int) (C : Nat → Bool), v = .slice A n c ∧ Ps W W.heap.size A n T C ∧ n ≤ c ∧ c ≤ 9223372036854775807
def intIn : Value → Int
  | .int _ z => z
  | _ => 0
def boolIn : Value → Bool
  | .bool b => b
  | _ => false
section
variable {H : Type} {enc : TypeId × Value → H} {W : World} {base : Nat} {v : Value} {d : DataW H} {p : List MemPlace}
theorem open_points (hv : Value.okWide Try.prog W .any base 34 v) (h : DataW.Trod enc Try.prog W 0 (fun _ => true) true 34 v d p) (_hlt : ∀ x ∈ p, x.block < W.heap.size) : IsPoints W v := by
  obtain ⟨A, n, c, rfl⟩ := okWide_slice Try.underlying34 hv
  obtain ⟨fuel, hf⟩ := h
  rcases Deep.open_slice_pairs Try.underlying34 Try.underlying46 (by kernel_rfl) rfl rfl (by kernel_rfl) (by kernel_rfl) hf with ⟨hcs, _⟩ | ⟨x, l, c', m, k, V0, V1, D0, D1, P0, P1, hcs, _, hl, hm, hmm, _, hcell⟩
  · simp [Value.cells] at hcs
    obtain ⟨rfl, rfl, rfl⟩ := hcs
    exact ⟨none, 0, 0, fun _ => 0, fun _ => false, rfl, Q2.zero _ _ _ _ _, Nat.le_refl _, by omega⟩
  · simp [Value.cells] at hcs
    obtain ⟨rfl, rfl, rfl⟩ := hcs
    simp at hmm
    subst hmm
    refine ⟨_, n, m, fun i => intIn (V0 i), fun i => boolIn (V1 i), rfl, fun hn => ?_, hl, by unfold maxLen at hm; omega⟩
    obtain ⟨b, off, spot⟩ := x
    have h0 := (hcell 0 (by omega)).1
    have hspot : spot = none := by simpa [Addr.add] using World.cell?_spot h0
    subst hspot
    have hadd : ∀ i, (⟨b, off, none⟩ : Addr).add i = ⟨b, off + i, none⟩ := fun i => by unfold Addr.add; split <;> simp_all
    refine ⟨b, off, rfl, ?_, fun i hi => ?_⟩
    · rcases Nat.lt_or_ge b W.heap.size with h' | h'
      · exact h'
      · rw [hadd] at h0; simp [World.cell?, Array.getElem?_eq_none h'] at h0
    · obtain ⟨c0, c1, t0, t1⟩ := hcell i (by omega)
      obtain ⟨z, e0, -⟩ := DataW.trod_int Try.underlying3 t0
      obtain ⟨q, e1, -⟩ := DataW.trod_bool Try.underlying4 t1
      simp at e0 e1
      rw [hadd] at c0 c1
      refine ⟨by simp only [c0, e0, intIn], ?_⟩
      simp only [Nat.add_assoc, c1, e1, boolIn]
end
end Go.Proofs.Ytcmhceilbampiaa
