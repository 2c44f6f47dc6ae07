/-
  ARGUMENTS WITH DEPTH, OPENED: octets that stand in a cell; a disk; steps of a script.
-/
import Derived.Test.YtkkbncgnobaliaaFrame
import Derived.Test.YtkkbncgnobaliaaDskK
import Derived.Lib.SmallJoins
import Derived.Deep.SlicePairs
namespace Go.Proofs.Ytkkbncgnobaliaa
open Go.ChangeShapes Go.WideShapes Go.ChangeAt Go.RowKit Go.Joins
set_option linter.unusedVariables false
/-- Octets that came in: a slice in bounds. -/
structure Oc (w : World) (v : Value) (l : List UInt8) : Prop where
  out : ∃ A n c, v = .slice A n c ∧ Bs w w.heap.size A n l ∧ n ≤ c ∧ c ≤ 9223372036854775807
theorem Oc.now {w w' : World} {v : Value} {l : List UInt8} (h : Oc w v l) (hb : Below w.heap.size w w') : Oc w' v l := by
  obtain ⟨A, n, c, rfl, h0, r⟩ := h.out
  exact ⟨A, n, c, rfl, h0.now hb, r⟩
/-- A disk that came in. -/
structure Dk0 (w : World) (v : Value) (s0 s1 : List UInt8) : Prop where
  out : ∃ A0 n0 c0 A1 n1 c1, v = .agg #[.slice A0 n0 c0, .slice A1 n1 c1] ∧ Bs w w.heap.size A0 n0 s0 ∧ Bs w w.heap.size A1 n1 s1 ∧ (n0 ≤ c0 ∧ c0 ≤ 9223372036854775807) ∧ (n1 ≤ c1 ∧ c1 ≤ 9223372036854775807)
theorem Dk0.now {w w' : World} {v : Value} {s0 s1 : List UInt8} (h : Dk0 w v s0 s1) (hb : Below w.heap.size w w') : Dk0 w' v s0 s1 := by
  obtain ⟨A0, n0, c0, A1, n1, c1, rfl, h0, h1, r⟩ := h.out
  exact ⟨A0, n0, c0, A1, n1, c1, rfl, h0.now hb, h1.now hb, r⟩
theorem Dk0.dk {w : World} {v : Value} {s0 s1 : List UInt8} (h : Dk0 w v s0 s1) (h0 : s0.length ≤ 9223372036854775807) (h1 : s1.length ≤ 9223372036854775807) : Dk w v s0 s1 := by
  obtain ⟨A0, n0, c0, A1, n1, c1, rfl, b0, b1, r0, r1⟩ := h.out
  exact ⟨A0, n0, c0, A1, n1, c1, rfl, b0, b1, ⟨r0.1, r0.2, by rw [← b0.len]; exact h0⟩, ⟨r1.1, r1.2, by rw [← b1.len]; exact h1⟩⟩
section
variable {H : Type} {enc : TypeId × Value → H} {W : World} {base t e : Nat} {v : Value} {d : DataW H} {p : List MemPlace}
set_option maxRecDepth 100000 in
theorem open_oc {fuel : Nat} {x : DataW H × List MemPlace} (hf : DataW.trod enc Try.prog W 0 (fun _ => true) true fuel 22 [v] = some x) : ∃ l, Oc W v l := by
  rcases open_ints Try.underlying22 Try.underlying5 (by kernel_rfl) hf with ⟨hcs, _⟩ | ⟨x, n, c, zs, hcs, _, hl, hm, hz, _, hcell, hwz⟩
  · cases hcs
    exact ⟨[], none, 0, 0, rfl, Bs.nil_ _ _ _, Nat.le_refl _, by omega⟩
  · cases hcs
    have hz' : zs.length = c := by simpa using hz
    refine ⟨(toOcts zs).take n, _, n, c, rfl, ⟨by simp [toOcts]; omega, fun hn => ?_⟩, hl, by unfold maxLen at hm; omega⟩
    obtain ⟨b, off, spot⟩ := x
    have h0 := hcell 0 (by omega)
    have hspot : spot = none := by simpa [Addr.add] using World.cell?_spot h0
    subst hspot
    have hadd : ∀ i, (⟨b, off, none⟩ : Addr).add i = ⟨b, off + i, none⟩ := fun i => by unfold Addr.add; split <;> simp_all
    refine ⟨b, off, rfl, ?_, fun i hi => ?_⟩
    · rcases Nat.lt_or_ge b W.heap.size with h' | h'
      · exact h'
      · rw [hadd] at h0; simp [World.cell?, Array.getElem?_eq_none h'] at h0
    · rw [← hadd, hcell i (by omega), toOcts_get zs hwz n i hi (by omega)]
set_option maxRecDepth 100000 in
theorem open_disk (hv : Value.okWide Try.prog W .any base 58 v) (h : DataW.Trod enc Try.prog W 0 (fun _ => true) true 58 v d p) (_hlt : ∀ x ∈ p, x.block < W.heap.size) : ∃ s0 s1, Dk0 W v s0 s1 := by
  obtain ⟨cs, rfl, hsz⟩ := okWide_struct Try.underlying58 hv
  obtain ⟨fuel, hf⟩ := h
  have hC : Try.prog.cellsOf 58 = 2 := by kernel_rfl
  rw [hC] at hsz
  obtain ⟨c0, c1, rfl⟩ := array2 hsz
  obtain ⟨xs, n, _, hx, hl, hlen, hf⟩ := DataW.trod_struct Try.underlying58 hf
  have hf0 : DataW.trod enc Try.prog W 0 (fun _ => true) true n 56 (([c0, c1].drop 0).take (Try.prog.cellsOf 56)) = xs[0]? := hf 0 _ rfl
  have hA : Try.prog.cellsOf 56 = 2 := by kernel_rfl
  have hE : Try.prog.cellsOf 22 = 1 := by kernel_rfl
  have hx0 : 0 < xs.length := by rw [hlen]; decide
  rw [List.getElem?_eq_getElem hx0, hA] at hf0
  obtain ⟨ys, m, _, hy, hl2, hlen2, hg⟩ := DataW.trod_array Try.underlying56 hf0
  have g0 : DataW.trod enc Try.prog W 0 (fun _ => true) true m 22 [c0] = some ys[0] := by
    have := hg 0 (by omega)
    rw [hE, List.getElem?_eq_getElem (by omega)] at this
    exact this
  have g1 : DataW.trod enc Try.prog W 0 (fun _ => true) true m 22 [c1] = some ys[1] := by
    have := hg 1 (by omega)
    rw [hE, List.getElem?_eq_getElem (by omega)] at this
    exact this
  obtain ⟨l0, A0, n0, k0, rfl, b0, r0⟩ := open_oc g0
  obtain ⟨l1, A1, n1, k1, rfl, b1, r1⟩ := open_oc g1
  exact ⟨l0, l1, A0, n0, k0, A1, n1, k1, rfl, b0, b1, r0, r1⟩
end
theorem read_new_whole {s0 s1 : List UInt8} {g : Nat} {p : List UInt8} {n : Int} (ho : okD g p) (hg : genD s0 s1 = g) (hn : (recD g p).length ≤ n.toNat) : readD (new0 s0 g p n) (new1 s1 g p n) = some (g, p) := by
  unfold new0 new1
  rw [List.take_of_length_le hn]
  by_cases hp : g % 2 = 0
  · rw [if_pos hp, if_pos hp]; exact read_whole0 ho hg hp
  · rw [if_neg hp, if_neg hp]; exact read_whole1 ho hg (by omega)
theorem read_new_torn {s0 s1 : List UInt8} {g : Nat} {p : List UInt8} {n : Int} (ho : okD g p) (hg : genD s0 s1 = g) (hn : n.toNat < (recD g p).length) : readD (new0 s0 g p n) (new1 s1 g p n) = readD s0 s1 := by
  unfold new0 new1
  by_cases hp : g % 2 = 0
  · rw [if_pos hp, if_pos hp]; exact read_torn0 (ofSlot_torn ho 0 _ hn) (by rw [hg]; exact hp)
  · rw [if_neg hp, if_neg hp]; exact read_torn1 (ofSlot_torn ho 1 _ hn) (by rw [hg]; omega)
end Go.Proofs.Ytkkbncgnobaliaa
