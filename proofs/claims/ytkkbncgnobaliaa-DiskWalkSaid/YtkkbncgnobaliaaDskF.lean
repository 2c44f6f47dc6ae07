/-
  A DISK WHOSE SLOTS LIE FROM A BLOCK ON; a script's steps, opened.
-/
import Derived.Test.YtkkbncgnobaliaaDskO
import Derived.Test.YtkkbncgnobaliaaOwn
namespace Go.Proofs.Ytkkbncgnobaliaa
open Go.ChangeShapes Go.WideShapes Go.ChangeAt Go.RowKit Go.Joins
open CodP
open CrcP
set_option linter.unusedVariables false
/-- V agrees with w on the blocks from lo on that w has. -/
structure Agr (lo : Nat) (w V : World) : Prop where
  heap : ∀ G, lo ≤ G → G < w.heap.size → V.heap[G]? = w.heap[G]?
  size : w.heap.size ≤ V.heap.size
theorem Agr.refl (lo : Nat) (w : World) : Agr lo w w := ⟨fun _ _ _ => rfl, Nat.le_refl _⟩
theorem Agr.trans {lo : Nat} {a b c : World} (h : Agr lo a b) (k : Agr lo b c) : Agr lo a c := ⟨fun G h1 h2 => (k.heap G h1 (by have := h.size; omega)).trans (h.heap G h1 h2), Nat.le_trans h.size k.size⟩
theorem Agr.below {lo : Nat} {w w' : World} (h : Below w.heap.size w w') : Agr lo w w' := ⟨fun G _ h2 => h.block G h2, h.size⟩
theorem Agr.setCell {lo : Nat} {w V : World} (h : Agr lo w V) {p : Addr} (hp : p.block < lo) (u : Value) : Agr lo w (V.setCell p u) :=
  ⟨fun G h1 h2 => (Below.heap_setCell _ _ _ G (by omega)).trans (h.heap G h1 h2), by simp [World.setCell]; exact h.size⟩
structure DkFrom (lo : Nat) (w : World) (v : Value) (s0 s1 : List UInt8) : Prop where
  shape : ∃ A0 n0 c0 A1 n1 c1, v = .agg #[.slice A0 n0 c0, .slice A1 n1 c1]
  out : ∀ V, Agr lo w V → Dk V v s0 s1
theorem DkFrom.empty (lo : Nat) (w : World) : DkFrom lo w (.agg #[.slice none 0 0, .slice none 0 0]) [] [] := ⟨⟨_, _, _, _, _, _, rfl⟩, fun V _ => Dk.empty V⟩
theorem DkFrom.dk {lo : Nat} {w : World} {v : Value} {s0 s1 : List UInt8} (h : DkFrom lo w v s0 s1) : Dk w v s0 s1 := h.out w (Agr.refl _ _)
theorem DkFrom.now {lo : Nat} {w V : World} {v : Value} {s0 s1 : List UInt8} (h : DkFrom lo w v s0 s1) (hb : Agr lo w V) : DkFrom lo V v s0 s1 := ⟨h.shape, fun X hX => h.out X (hb.trans hX)⟩
theorem write_dk3 (lo : Nat) (v : Value) (s0 s1 : List UInt8) (gen : Nat) (n : Int) (A : Option Addr) (m cap : Nat) (p : List UInt8) (w : World) (hlo : lo ≤ w.heap.size) (hd : DkFrom lo w v s0 s1) (hn : m ≤ 70368744177664) (hb : Bs w w.heap.size A m p) (ho : okD gen p) :
    Calls Try.prog 45 #[v, .int .i64 (gen : Int), .slice A m cap, .int .i64 n] w fun e w' => (∃ v', e = .returned v' ∧ DkFrom lo w' v' (new0 s0 gen p n) (new1 s1 gen p n)) ∧ Below w.heap.size w w' := by
  obtain ⟨A0, n0, c0, A1, n1, c1, rfl⟩ := hd.shape
  refine (write_yes A0 A1 n0 c0 n1 c1 gen n A m cap p w hn hb ho).mono ?_
  rintro e w' ⟨⟨G, k, hGG, hk, hG, rfl⟩, hB⟩
  have hs := recD_small ho
  rw [hk, take_min] at hG
  rw [← hk] at hG
  have hG' : Bs w' w'.heap.size (some ⟨G, 0, none⟩) k ((recD gen p).take n.toNat) := hG
  have hGV : ∀ V, Agr lo w' V → Bs V V.heap.size (some ⟨G, 0, none⟩) k ((recD gen p).take n.toNat) := by
    intro V hV
    refine ⟨hG'.len, fun hk0 => ?_⟩
    obtain ⟨b, off, e, hb', hc⟩ := hG'.sl hk0
    cases e
    exact ⟨G, 0, rfl, by have := hV.size; omega, fun i hi => (World.cell?_of_block (hV.heap G (by omega) hb')).trans (hc i hi)⟩
  have hold : ∀ V, Agr lo w' V → Dk V (.agg #[.slice A0 n0 c0, .slice A1 n1 c1]) s0 s1 := fun V hV => hd.out V ((Agr.below hB).trans hV)
  refine ⟨⟨_, rfl, ?_, fun V hV => ?_⟩, hB⟩
  · by_cases hp : gen % 2 = 0
    · rw [if_pos hp]; exact ⟨_, _, _, _, _, _, rfl⟩
    · rw [if_neg hp]; exact ⟨_, _, _, _, _, _, rfl⟩
  · obtain ⟨B0, k0, d0, B1, k1, d1, e, b0, b1, r0, r1⟩ := (hold V hV).out
    cases e
    unfold new0 new1
    by_cases hp : gen % 2 = 0
    · rw [if_pos hp, if_pos hp, if_pos hp]
      exact ⟨_, _, _, _, _, _, rfl, hGV V hV, b1, ⟨by omega, by omega, by omega⟩, r1⟩
    · rw [if_neg hp, if_neg hp, if_neg hp]
      exact ⟨_, _, _, _, _, _, rfl, b0, hGV V hV, r0, ⟨by omega, by omega, by omega⟩⟩
/-- A script's steps. -/
def IsSteps (W : World) (v : Value) : Prop := ∃ (A : Option Addr) (n c : Nat) (V : Nat → Value) (L : Nat → List UInt8) (N : Nat → Int), v = .slice A n c ∧ Q2 W W.heap.size A n V (fun i => .int .i64 (N i)) ∧
  (∀ i, i < n → Oc W (V i) (L i) ∧ -9223372036854775808 ≤ N i ∧ N i ≤ 9223372036854775807) ∧ n ≤ c ∧ c ≤ 9223372036854775807
section
variable {H : Type} {enc : TypeId × Value → H} {W : World} {base : Nat} {v : Value} {d : DataW H} {p : List MemPlace}
set_option maxRecDepth 100000 in
theorem open_steps (hv : Value.okWide Try.prog W .any base 66 v) (h : DataW.Trod enc Try.prog W 0 (fun _ => true) true 66 v d p) (_hlt : ∀ x ∈ p, x.block < W.heap.size) : IsSteps W v := by
  obtain ⟨A, n, c, rfl⟩ := okWide_slice Try.underlying66 hv
  obtain ⟨fuel, hf⟩ := h
  rcases Deep.open_slice_pairs Try.underlying66 Try.underlying68 (by kernel_rfl) rfl rfl (by kernel_rfl) (by kernel_rfl) hf with ⟨hcs, _⟩ | ⟨x, l, c', m, k, V0, V1, D0, D1, P0, P1, hcs, _, hl, hm, hmm, _, hcell⟩
  · simp [Value.cells] at hcs
    obtain ⟨rfl, rfl, rfl⟩ := hcs
    exact ⟨none, 0, 0, fun _ => .bool false, fun _ => [], fun _ => 0, rfl, Q2.zero _ _ _ _ _, fun i hi => absurd hi (Nat.not_lt_zero _), Nat.le_refl _, by omega⟩
  · simp [Value.cells] at hcs
    obtain ⟨rfl, rfl, rfl⟩ := hcs
    simp at hmm
    subst hmm
    have hk : ∀ i, ∃ (l : List UInt8) (z : Int), i < n → Oc W (V0 i) l ∧ V1 i = .int .i64 z ∧ -9223372036854775808 ≤ z ∧ z ≤ 9223372036854775807 := by
      intro i
      by_cases hi : i < n
      · obtain ⟨c0, c1, t0, t1⟩ := hcell i (by omega)
        obtain ⟨l0, h0⟩ := open_oc t0
        obtain ⟨z, e1, -, wz⟩ := DataW.trod_int Try.underlying3 t1
        simp at e1
        exact ⟨l0, z, fun _ => ⟨h0, e1, wf_i64b wz⟩⟩
      · exact ⟨[], 0, fun h => absurd h hi⟩
    obtain ⟨L, hL⟩ := Classical.axiomOfChoice hk
    obtain ⟨N, hLN⟩ := Classical.axiomOfChoice hL
    refine ⟨_, n, m, V0, L, N, rfl, fun hn => ?_, fun i hi => ⟨(hLN i hi).1, (hLN i hi).2.2⟩, hl, by unfold maxLen at hm; omega⟩
    obtain ⟨b, off, spot⟩ := x
    have h0 := (hcell 0 (by omega)).1
    have hspot : spot = none := by simpa [Addr.add] using World.cell?_spot h0
    subst hspot
    have hadd : ∀ i, (⟨b, off, none⟩ : Addr).add i = ⟨b, off + i, none⟩ := fun i => by unfold Addr.add; split <;> simp_all
    refine ⟨b, off, rfl, ?_, fun i hi => ?_⟩
    · rcases Nat.lt_or_ge b W.heap.size with h' | h'
      · exact h'
      · rw [hadd] at h0; simp [World.cell?, Array.getElem?_eq_none h'] at h0
    · obtain ⟨c0, c1, t0, t1⟩ := hcell i (by omega)
      rw [hadd] at c0 c1
      refine ⟨c0, ?_⟩
      have := (hLN i hi).2.1
      show W.cell? ⟨b, off + i * 2 + 1, none⟩ = some (Value.int .i64 (N i))
      rw [← this, ← c1, Nat.add_assoc]
end
end Go.Proofs.Ytkkbncgnobaliaa
