/-
  ARGUMENTS WITH DEPTH, OPENED: a note, a queue, rows of labels.
-/
import Derived.Test.YtkkbncgnobaliaaQueP
import Derived.Deep.Slices
import Derived.Lib.SmallJoins
namespace Go.Proofs.Ytkkbncgnobaliaa
open Go.ChangeShapes Go.WideShapes Go.ChangeAt Go.RowKit Go.Joins
open CodP
set_option linter.unusedVariables false
def IsNote (W : World) (v : Value) : Prop := ∃ y : Nt, v = y.val ∧ Rn W W.heap.size y
def IsQueue (W : World) (v : Value) : Prop := ∃ ns d l, QV W W.heap.size v ns d l
/-- A slice of rows of labels. -/
structure Lbs (w : World) (A : Option Addr) (n : Nat) (ls : List Lab) : Prop where
  len : ls.length = n
  out : ∃ V : Nat → Value, Sl w w.heap.size A n V ∧ ∀ i, i < n → ∃ A' n' c', V i = .slice A' n' c' ∧ Prs w w.heap.size A' n' (ls.getD i []) ∧ n' ≤ c' ∧ c' ≤ 9223372036854775807
theorem Lbs.now {w w' : World} {A : Option Addr} {n : Nat} {ls : List Lab} (h : Lbs w A n ls) (hb : Below w.heap.size w w') : Lbs w' A n ls := by
  obtain ⟨V, h1, h2⟩ := h.out
  refine ⟨h.len, V, h1.now hb, fun i hi => ?_⟩
  obtain ⟨A', n', c', e, hp, r⟩ := h2 i hi
  exact ⟨A', n', c', e, hp.now hb, r⟩
def IsLabels (W : World) (v : Value) : Prop := ∃ A n c ls, v = .slice A n c ∧ Lbs W A n ls ∧ n ≤ c ∧ c ≤ 9223372036854775807
theorem addr_addO (b off i : Nat) : (⟨b, off, none⟩ : Addr).add i = ⟨b, off + i, none⟩ := by unfold Addr.add; split <;> simp_all
theorem cell_lt {W : World} {b o : Nat} {v : Value} (h : W.cell? ⟨b, o, none⟩ = some v) : b < W.heap.size := by
  rcases Nat.lt_or_ge b W.heap.size with h' | h'
  · exact h'
  · simp [World.cell?, Array.getElem?_eq_none h'] at h
section
variable {H : Type} {enc : TypeId × Value → H} {W : World} {base : Nat} {v : Value} {d : DataW H} {p : List MemPlace}
set_option maxRecDepth 100000 in
theorem open_prs {fuel : Nat} {x : DataW H × List MemPlace} (hf : DataW.trod enc Try.prog W 0 (fun _ => true) true fuel 39 [v] = some x) : IsPairs W v := by
  rcases Deep.open_slice_pairs Try.underlying39 Try.underlying100 (by kernel_rfl) rfl rfl (by kernel_rfl) (by kernel_rfl) hf with ⟨hcs, _⟩ | ⟨x, l, c', m, k, V0, V1, D0, D1, P0, P1, hcs, _, hl, hm, hmm, _, hcell⟩
  · simp at hcs
    subst hcs
    exact ⟨none, 0, 0, [], rfl, Prs.nil_ _ _ _, Nat.le_refl _, by omega⟩
  · simp at hcs
    subst hcs
    simp at hmm
    subst hmm
    have hat : ∀ i, i < l → nm ((List.range l).map fun i => (strIn (V0 i), strIn (V1 i))) i = strIn (V0 i) ∧ vl ((List.range l).map fun i => (strIn (V0 i), strIn (V1 i))) i = strIn (V1 i) := fun i hi => by
      have := nm_at (L := (List.range l).map fun i => (strIn (V0 i), strIn (V1 i))) (i := i) (by simpa using hi)
      simp at this
      exact this
    refine ⟨_, l, m, (List.range l).map fun i => (strIn (V0 i), strIn (V1 i)), rfl, ⟨by simp, fun hn => ?_, fun i hi => ?_⟩, hl, by unfold maxLen at hm; omega⟩
    · obtain ⟨b, off, spot⟩ := x
      have h0 := (hcell 0 (by omega)).1
      have hspot : spot = none := by simpa [Addr.add] using World.cell?_spot h0
      subst hspot
      refine ⟨b, off, rfl, ?_, fun i hi => ?_⟩
      · rw [addr_addO] at h0; exact cell_lt h0
      · obtain ⟨c0, c1, t0, t1⟩ := hcell i (by omega)
        obtain ⟨z, e0, -⟩ := DataW.trod_string Try.underlying9 t0
        obtain ⟨q, e1, -⟩ := DataW.trod_string Try.underlying9 t1
        simp at e0 e1
        rw [addr_addO] at c0 c1
        refine ⟨by simp only [(hat i hi).1]; simp only [c0, e0, strIn], ?_⟩
        simp only [(hat i hi).2]
        simp only [Nat.add_assoc, c1, e1, strIn]
    · obtain ⟨c0, c1, t0, t1⟩ := hcell i (by omega)
      obtain ⟨z, e0, -, b0⟩ := DataW.trod_string Try.underlying9 t0
      obtain ⟨q, e1, -, b1⟩ := DataW.trod_string Try.underlying9 t1
      simp at e0 e1
      rw [(hat i hi).1, (hat i hi).2, e0, e1]
      exact ⟨b0, b1⟩
set_option maxRecDepth 100000 in
theorem open_nt {fuel : Nat} {cs : List Value} {x : DataW H × List MemPlace} (hlen : cs.length = 5) (hf : DataW.trod enc Try.prog W 0 (fun _ => true) true fuel 80 cs = some x) : ∃ y : Nt, cs = y.cells ∧ Rn W W.heap.size y := by
  match cs, hlen with
  | [c0, c1, c2, c3, c4], _ =>
    obtain ⟨xs, n, _, hx, hl, hlen, hf⟩ := DataW.trod_struct Try.underlying80 hf
    have hx5 : xs.length = 5 := by rw [hlen]; rfl
    have hP : Try.prog.cellsOf 39 = 1 := by kernel_rfl
    have hI : Try.prog.cellsOf 3 = 1 := by kernel_rfl
    have hB : Try.prog.cellsOf 4 = 1 := by kernel_rfl
    have f0 : DataW.trod enc Try.prog W 0 (fun _ => true) true n 39 (([c0, c1, c2, c3, c4].drop 0).take (Try.prog.cellsOf 39)) = xs[0]? := hf 0 _ rfl
    have f1 : DataW.trod enc Try.prog W 0 (fun _ => true) true n 4 (([c0, c1, c2, c3, c4].drop 1).take (Try.prog.cellsOf 4)) = xs[1]? := hf 1 _ rfl
    have f2 : DataW.trod enc Try.prog W 0 (fun _ => true) true n 3 (([c0, c1, c2, c3, c4].drop 2).take (Try.prog.cellsOf 3)) = xs[2]? := hf 2 _ rfl
    have f3 : DataW.trod enc Try.prog W 0 (fun _ => true) true n 3 (([c0, c1, c2, c3, c4].drop 3).take (Try.prog.cellsOf 3)) = xs[3]? := hf 3 _ rfl
    have f4 : DataW.trod enc Try.prog W 0 (fun _ => true) true n 3 (([c0, c1, c2, c3, c4].drop 4).take (Try.prog.cellsOf 3)) = xs[4]? := hf 4 _ rfl
    rw [hP, List.getElem?_eq_getElem (by omega)] at f0
    rw [hB, List.getElem?_eq_getElem (by omega)] at f1
    rw [hI, List.getElem?_eq_getElem (by omega)] at f2 f3 f4
    obtain ⟨A, k, c, L, e0, h0, h1, h2⟩ := open_prs (v := c0) f0
    obtain ⟨b, e1, -⟩ := DataW.trod_bool Try.underlying4 f1
    obtain ⟨z2, e2, -⟩ := DataW.trod_int Try.underlying3 f2
    obtain ⟨z3, e3, -⟩ := DataW.trod_int Try.underlying3 f3
    obtain ⟨z4, e4, -⟩ := DataW.trod_int Try.underlying3 f4
    simp at e1 e2 e3 e4
    subst e0 e1 e2 e3 e4
    exact ⟨⟨A, k, c, L, b, z2, z3, z4⟩, rfl, h0, h1, h2⟩
set_option maxRecDepth 100000 in
theorem open_nts {fuel : Nat} {x : DataW H × List MemPlace} (hf : DataW.trod enc Try.prog W 0 (fun _ => true) true fuel 73 [v] = some x) : ∃ A n c ns, v = .slice A n c ∧ Nts W W.heap.size A n ns ∧ n ≤ c ∧ c ≤ 9223372036854775807 := by
  have h5 : Try.prog.cellsOf 80 = 5 := by kernel_rfl
  rcases Deep.open_slice Try.underlying73 hf with ⟨hcs, _⟩ | ⟨a, l, c, m, k, D, Pl, hcs, _, hl, hm, hmm, _, hcell⟩
  · simp at hcs
    subst hcs
    exact ⟨none, 0, 0, [], rfl, Nts.nil_ _ _ _, Nat.le_refl _, by omega⟩
  · simp at hcs
    subst hcs
    simp at hmm
    subst hmm
    rw [h5] at hcell
    obtain ⟨Y, hY⟩ := Deep.choose_lt (α := Nt) (n := m) (p := fun i y => (∀ j, j < 5 → W.cell? (a.add (i * 5) |>.add j) = y.cells[j]?) ∧ Rn W W.heap.size y) (fun i hi => by
      obtain ⟨cs', c1, c2⟩ := hcell i hi
      obtain ⟨-, c3, c4⟩ := World.cells?_some c1
      obtain ⟨y, rfl, hr⟩ := open_nt c3 c2
      exact ⟨y, c4, hr⟩)
    have hnt : ∀ i, i < l → nt ((List.range l).map Y) i = Y i := fun i hi => by unfold nt; rw [List.getD_eq_getElem?_getD]; simp [hi]
    refine ⟨_, l, m, (List.range l).map Y, rfl, ⟨by simp, fun hn => ?_, fun i hi => by rw [hnt i hi]; exact (hY i (by omega)).2⟩, hl, by unfold maxLen at hm; omega⟩
    obtain ⟨b, off, spot⟩ := a
    have h0 := (hY 0 (by omega)).1 0 (by omega)
    have h0' : W.cell? ((⟨b, off, spot⟩ : Addr).add (0 * 5 + 0)) = some (.slice (Y 0).A (Y 0).n (Y 0).c) := by rw [← Deep.add_add]; exact h0
    have hspot : spot = none := by simpa [Addr.add] using World.cell?_spot h0'
    subst hspot
    rw [addr_addO] at h0'
    refine ⟨b, off, rfl, cell_lt h0', fun i hi => ?_⟩
    have hi5 : i / 5 < l := by omega
    have hh := (hY (i / 5) (by omega)).1 (i % 5) (by omega)
    rw [Deep.add_add, addr_addO, show i / 5 * 5 + i % 5 = i by omega] at hh
    rw [hh]
    have hg := five_get ((List.range l).map Y) (i / 5) (by simpa using hi5) (i % 5) (by omega)
    rw [show i / 5 * 5 + i % 5 = i by omega, hnt _ hi5] at hg
    rw [← hg]
    show _ = some ((five ((List.range l).map Y)).getD i (.bool false))
    rw [List.getD_eq_getElem?_getD, List.getElem?_eq_getElem (by rw [five_len]; simp; omega)]
    rfl
set_option maxRecDepth 100000 in
theorem open_note (hv : Value.okWide Try.prog W .any base 80 v) (h : DataW.Trod enc Try.prog W 0 (fun _ => true) true 80 v d p) (_hlt : ∀ x ∈ p, x.block < W.heap.size) : IsNote W v := by
  obtain ⟨cs, rfl, hsz⟩ := okWide_struct Try.underlying80 hv
  obtain ⟨fuel, hf⟩ := h
  have hC : Try.prog.cellsOf 80 = 5 := by kernel_rfl
  rw [hC] at hsz
  have hf' : DataW.trod enc Try.prog W 0 (fun _ => true) true fuel 80 cs.toList = some (d, p) := hf
  obtain ⟨y, e, hr⟩ := open_nt (by simpa using hsz) hf'
  refine ⟨y, ?_, hr⟩
  have : cs = y.cells.toArray := by rw [← e]
  rw [this]; rfl
set_option maxRecDepth 100000 in
theorem open_queue (hv : Value.okWide Try.prog W .any base 75 v) (h : DataW.Trod enc Try.prog W 0 (fun _ => true) true 75 v d p) (_hlt : ∀ x ∈ p, x.block < W.heap.size) : IsQueue W v := by
  obtain ⟨cs, rfl, hsz⟩ := okWide_struct Try.underlying75 hv
  obtain ⟨fuel, hf⟩ := h
  have hC : Try.prog.cellsOf 75 = 3 := by kernel_rfl
  rw [hC] at hsz
  obtain ⟨c0, c1, c2, rfl⟩ := array3 hsz
  obtain ⟨xs, n, _, hx, hl, hlen, hf⟩ := DataW.trod_struct Try.underlying75 hf
  have hx3 : xs.length = 3 := by rw [hlen]; rfl
  have hP : Try.prog.cellsOf 73 = 1 := by kernel_rfl
  have hI : Try.prog.cellsOf 3 = 1 := by kernel_rfl
  have f0 : DataW.trod enc Try.prog W 0 (fun _ => true) true n 73 (([c0, c1, c2].drop 0).take (Try.prog.cellsOf 73)) = xs[0]? := hf 0 _ rfl
  have f1 : DataW.trod enc Try.prog W 0 (fun _ => true) true n 3 (([c0, c1, c2].drop 1).take (Try.prog.cellsOf 3)) = xs[1]? := hf 1 _ rfl
  have f2 : DataW.trod enc Try.prog W 0 (fun _ => true) true n 3 (([c0, c1, c2].drop 2).take (Try.prog.cellsOf 3)) = xs[2]? := hf 2 _ rfl
  rw [hP, List.getElem?_eq_getElem (by omega)] at f0
  rw [hI, List.getElem?_eq_getElem (by omega)] at f1 f2
  obtain ⟨A, k, c, ns, e0, h0, h1, h2⟩ := open_nts (v := c0) f0
  obtain ⟨z1, e1, -⟩ := DataW.trod_int Try.underlying3 f1
  obtain ⟨z2, e2, -⟩ := DataW.trod_int Try.underlying3 f2
  simp at e1 e2
  subst e0 e1 e2
  exact ⟨ns, z1, z2, A, k, c, rfl, h0, h1, h2⟩
set_option maxRecDepth 100000 in
theorem open_labels (hv : Value.okWide Try.prog W .any base 91 v) (h : DataW.Trod enc Try.prog W 0 (fun _ => true) true 91 v d p) (_hlt : ∀ x ∈ p, x.block < W.heap.size) : IsLabels W v := by
  obtain ⟨A, n, c, rfl⟩ := okWide_slice Try.underlying91 hv
  obtain ⟨fuel, hf⟩ := h
  rcases Deep.open_slice1 Try.underlying91 (by kernel_rfl) hf with ⟨hcs, _⟩ | ⟨a, l, c', m, k, V, D, Pl, hcs, _, hl, hm, hmm, _, hcell⟩
  · simp [Value.cells] at hcs
    obtain ⟨rfl, rfl, rfl⟩ := hcs
    exact ⟨none, 0, 0, [], rfl, ⟨rfl, fun _ => .bool false, Sl.zero _ _ _ _, fun i hi => absurd hi (Nat.not_lt_zero _)⟩, Nat.le_refl _, by omega⟩
  · simp [Value.cells] at hcs
    obtain ⟨rfl, rfl, rfl⟩ := hcs
    simp at hmm
    subst hmm
    obtain ⟨ls, hls⟩ := Deep.choose_lt (α := Lab) (n := n) (p := fun i L => ∃ A' n' c', V i = .slice A' n' c' ∧ Prs W W.heap.size A' n' L ∧ n' ≤ c' ∧ c' ≤ 9223372036854775807) (fun i hi => by
      obtain ⟨A', n', c', L, e, r⟩ := open_prs (hcell i (by omega)).2
      exact ⟨L, A', n', c', e, r⟩)
    refine ⟨_, n, m, (List.range n).map ls, rfl, ⟨by simp, V, fun hn => ?_, fun i hi => ?_⟩, hl, by unfold maxLen at hm; omega⟩
    · obtain ⟨b, off, spot⟩ := a
      have h0 := (hcell 0 (by omega)).1
      have hspot : spot = none := by simpa [Addr.add] using World.cell?_spot h0
      subst hspot
      have h0' := h0
      rw [addr_addO] at h0'
      exact ⟨b, off, rfl, cell_lt h0', fun i hi => by have := (hcell i (by omega)).1; rwa [addr_addO] at this⟩
    · rw [List.getD_eq_getElem?_getD]
      simp only [List.getElem?_map, List.getElem?_range hi, Option.map_some, Option.getD_some]
      exact hls i hi
end
end Go.Proofs.Ytkkbncgnobaliaa
