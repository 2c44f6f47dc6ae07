/-
  LISTS OF OCTETS THAT CAME IN, opened.
-/
import Derived.Test.YtkkbncgnobaliaaFrmC
import Derived.Test.YtkkbncgnobaliaaDskO
namespace Go.Proofs.Ytkkbncgnobaliaa
open Go.ChangeShapes Go.WideShapes Go.ChangeAt Go.RowKit Go.Joins
set_option linter.unusedVariables false
def IsRows (W : World) (v : Value) : Prop := ∃ (A : Option Addr) (n c : Nat) (ps : List (List UInt8)), v = .slice A n c ∧ Rws W A n ps ∧ n ≤ c ∧ c ≤ 9223372036854775807
theorem getD_map_range {α : Type} (f : Nat → α) (d : α) {n i : Nat} (h : i < n) : ((List.range n).map f).getD i d = f i := by
  simp [List.getD_eq_getElem?_getD, h]
section
variable {H : Type} {enc : TypeId × Value → H} {W : World} {base : Nat} {v : Value} {d : DataW H} {p : List MemPlace}
set_option maxRecDepth 100000 in
theorem open_rows (hv : Value.okWide Try.prog W .any base 31 v) (h : DataW.Trod enc Try.prog W 0 (fun _ => true) true 31 v d p) (_hlt : ∀ x ∈ p, x.block < W.heap.size) : IsRows W v := by
  obtain ⟨A, n, c, rfl⟩ := okWide_slice Try.underlying31 hv
  obtain ⟨fuel, hf⟩ := h
  rcases Deep.open_slice1 Try.underlying31 (by kernel_rfl) hf with ⟨hcs, _⟩ | ⟨x, l, c', m, k, V, D, Pl, hcs, _, hl, hm, hmm, _, hcell⟩
  · simp [Value.cells] at hcs
    obtain ⟨rfl, rfl, rfl⟩ := hcs
    exact ⟨none, 0, 0, [], rfl, ⟨rfl, fun _ => .bool false, Sl.zero _ _ _ _, fun i hi => absurd hi (Nat.not_lt_zero _)⟩, Nat.le_refl _, by omega⟩
  · simp [Value.cells] at hcs
    obtain ⟨rfl, rfl, rfl⟩ := hcs
    simp at hmm
    subst hmm
    have hk : ∀ i, ∃ (l : List UInt8), i < n → Oc W (V i) l := by
      intro i
      by_cases hi : i < n
      · obtain ⟨c0, t0⟩ := hcell i (by omega)
        obtain ⟨l0, h0⟩ := open_oc t0
        exact ⟨l0, fun _ => h0⟩
      · exact ⟨[], fun h => absurd h hi⟩
    obtain ⟨L, hL⟩ := Classical.axiomOfChoice hk
    refine ⟨_, n, m, (List.range n).map L, rfl, ⟨by simp, V, fun hn => ?_, fun i hi => ?_⟩, hl, by unfold maxLen at hm; omega⟩
    · obtain ⟨b, off, spot⟩ := x
      have h0 := (hcell 0 (by omega)).1
      have hspot : spot = none := by simpa [Addr.add] using World.cell?_spot h0
      subst hspot
      have hadd : ∀ i, (⟨b, off, none⟩ : Addr).add i = ⟨b, off + i, none⟩ := fun i => by unfold Addr.add; split <;> simp_all
      refine ⟨b, off, rfl, ?_, fun i hi => ?_⟩
      · rcases Nat.lt_or_ge b W.heap.size with h' | h'
        · exact h'
        · rw [hadd] at h0; simp [World.cell?, Array.getElem?_eq_none h'] at h0
      · rw [← hadd]; exact (hcell i (by omega)).1
    · obtain ⟨A', n', c', e, b, r⟩ := (hL i hi).out
      exact ⟨A', n', c', e, by rw [getD_map_range L [] hi]; exact b, r⟩
end
end Go.Proofs.Ytkkbncgnobaliaa
