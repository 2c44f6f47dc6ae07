/-
  labels: Few and Same walked; pairs that came in, opened.
-/
import Derived.Test.YtkkbncgnobaliaaLabS
import Derived.Test.YtkkbncgnobaliaaFrame
namespace Go.Proofs.Ytkkbncgnobaliaa
open Go.ChangeShapes Go.WideShapes Go.ChangeAt Go.RowKit
open CodP
set_option linter.unusedVariables false
theorem toList_inj {a b : ByteArray} (h : a.toList = b.toList) : a = b := by
  rw [ByteArray.toList_eq, ByteArray.toList_eq] at h
  apply ByteArray.ext
  exact Array.toList_inj.1 h
set_option maxRecDepth 100000 in
theorem eq_pr (a b c d : ByteArray) (w : World) : (Op.equalIn 10000 100 (.agg #[.string a, .string b]) (.agg #[.string c, .string d])).run Try.prog w = .ok (a.toList == c.toList && b.toList == d.toList) w := by
  rw [run_equalIn_agg (P := Try.prog) w 9999 _ _ _ (by kernel_rfl) (by kernel_rfl)]
  have hup := Try.underlying100
  unfold Program.fieldsOf
  rw [hup]
  have hu := Try.underlying9
  go_simp
  cases h1 : a.toList == c.toList <;> cases h2 : b.toList == d.toList <;> simp_all
theorem nm_at {L : Lab} {i : Nat} (h : i < L.length) : (nm L i, vl L i) = L[i] := by
  unfold nm vl
  rw [List.getD_eq_getElem?_getD, List.getElem?_eq_getElem h]
  rfl
set_option maxRecDepth 100000 in
set_option maxHeartbeats 1600000 in
theorem few_lab (A : Option Addr) (n cap : Nat) (L : Lab) (w : World) (hn : n ≤ 9223372036854775807) (hb : Prs w w.heap.size A n L) :
    Calls Try.prog 29 #[.slice A n cap] w fun e w' => (∃ b, e = .returned (.bool b) ∧ (b = true → n ≤ 40)) ∧ Below w.heap.size w w' := by
  have HB := Lib.hid hb; clear hb
  go_enter Try.func29, Try.ntmps29
  go_wp2
  go_loopw [3, 4] (fun s i wr => ∃ (k : Nat) (z : Int), k ≤ n ∧ i = .int .i64 k ∧ s = .int .i64 z ∧ Below w.heap.size w wr) (fun _ i _ => n - (intOf i).toNat)
  case atStart => exact ⟨0, 0, by omega, rfl, rfl, Below.refl _ _⟩
  case round =>
    obtain ⟨k, z, hk, rfl, rfl, hB⟩ := hrel
    by_cases hlt : k < n
    · obtain ⟨b, off, rfl, hbB, hc⟩ := HB.out.q (by omega)
      obtain ⟨s0, HZ0⟩ : ∃ s, Hid (nm L k = s) := ⟨_, Lib.hid rfl⟩
      obtain ⟨s1, HZ1⟩ : ∃ s, Hid (vl L k = s) := ⟨_, Lib.hid rfl⟩
      have hs0 : s0.size ≤ 9223372036854775807 := by rw [← HZ0.out]; exact (HB.out.sz k hlt).1
      have hs1 : s1.size ≤ 9223372036854775807 := by rw [← HZ1.out]; exact (HB.out.sz k hlt).2
      have hx0 : ∀ p : Bel wr, p.now.cell? ⟨b, off + k * 2, none⟩ = some (.string s0) := fun p => by rw [← HZ0.out]; exact p.cell (by have := hB.size; show b < _; omega) ((hB.cell (p := ⟨b, off + k * 2, none⟩) hbB).trans (hc k hlt).1)
      have hx1 : ∀ p : Bel wr, p.now.cell? ⟨b, off + k * 2 + 1, none⟩ = some (.string s1) := fun p => by rw [← HZ1.out]; exact p.cell (by have := hB.size; show b < _; omega) ((hB.cell (p := ⟨b, off + k * 2 + 1, none⟩) hbB).trans (hc k hlt).2)
      clear hc
      go_wp2_with fail
      refine wp_region_bel (by kernel_rfl) (by kernel_rfl) ?_
      repeat (
        refine WQ.step (fun KK hKK => ?_)
        go_simp
        refine hKK _ ?_; clear hKK KK)
      refine WQ.nil_ ?_
      rintro wq1 ⟨⟨wq, hq⟩, hwq⟩
      obtain rfl : wq = wq1 := hwq.symm
      clear hwq
      go_wp2
      go_roundw
      case rel =>
        exact ⟨k + 1, _, by omega, by go_num, rfl, hB.trans (hq.mono hB.size)⟩
      case measure => simp [intOf]; omega
    · obtain rfl : k = n := by omega
      by_cases h40 : k ≤ 40
      · go_wp2
        refine bodyPost_ret (v := .bool (decide (z ≤ 3000))) (by simp [results, Try.results29, go_sem]) rfl ⟨⟨_, rfl, fun _ => h40⟩, hB⟩
      · have d40 : decide (k ≤ 40) = false := decide_eq_false h40
        go_wp2
        refine bodyPost_ret (v := .bool false) (by simp [results, Try.results29, go_sem]) rfl ⟨rfl, hB⟩
set_option maxRecDepth 100000 in
set_option maxHeartbeats 1600000 in
theorem same_lab (A : Option Addr) (n cap : Nat) (L : Lab) (A2 : Option Addr) (m c2 : Nat) (M : Lab) (w : World) (hn : n ≤ 9223372036854775807) (hm : m ≤ 9223372036854775807) (hb : Prs w w.heap.size A n L) (hb2 : Prs w w.heap.size A2 m M) :
    Calls Try.prog 39 #[.slice A n cap, .slice A2 m c2] w fun e w' => (∃ b, e = .returned (.bool b) ∧ (L = M → b = true)) ∧ Below w.heap.size w w' := by
  have HB := Lib.hid hb; clear hb
  have HB2 := Lib.hid hb2; clear hb2
  by_cases hnm : n = m
  · obtain rfl := hnm
    go_enter Try.func39, Try.ntmps39
    go_wp2
    go_loopw [5] (fun i wr => ∃ (k : Nat), k ≤ n ∧ i = .int .i64 k ∧ Below w.heap.size w wr) (fun i _ => n - (intOf i).toNat)
    case atStart => exact ⟨0, by omega, rfl, Below.refl _ _⟩
    case round =>
      obtain ⟨k, hk, rfl, hB⟩ := hrel
      by_cases hlt : k < n
      · obtain ⟨b, off, rfl, hbB, hc⟩ := HB.out.q (by omega)
        obtain ⟨b2, off2, rfl, hbB2, hc2⟩ := HB2.out.q (by omega)
        obtain ⟨s0, HZ0⟩ : ∃ s, Hid (nm L k = s) := ⟨_, Lib.hid rfl⟩
        obtain ⟨s1, HZ1⟩ : ∃ s, Hid (vl L k = s) := ⟨_, Lib.hid rfl⟩
        obtain ⟨t0, HT0⟩ : ∃ s, Hid (nm M k = s) := ⟨_, Lib.hid rfl⟩
        obtain ⟨t1, HT1⟩ : ∃ s, Hid (vl M k = s) := ⟨_, Lib.hid rfl⟩
        have hx0 : ∀ p : Bel wr, p.now.cell? ⟨b, off + k * 2, none⟩ = some (.string s0) := fun p => by rw [← HZ0.out]; exact p.cell (by have := hB.size; show b < _; omega) ((hB.cell (p := ⟨b, off + k * 2, none⟩) hbB).trans (hc k hlt).1)
        have hx1 : ∀ p : Bel wr, p.now.cell? ⟨b, off + k * 2 + 1, none⟩ = some (.string s1) := fun p => by rw [← HZ1.out]; exact p.cell (by have := hB.size; show b < _; omega) ((hB.cell (p := ⟨b, off + k * 2 + 1, none⟩) hbB).trans (hc k hlt).2)
        have hy0 : ∀ p : Bel wr, p.now.cell? ⟨b2, off2 + k * 2, none⟩ = some (.string t0) := fun p => by rw [← HT0.out]; exact p.cell (by have := hB.size; show b2 < _; omega) ((hB.cell (p := ⟨b2, off2 + k * 2, none⟩) hbB2).trans (hc2 k hlt).1)
        have hy1 : ∀ p : Bel wr, p.now.cell? ⟨b2, off2 + k * 2 + 1, none⟩ = some (.string t1) := fun p => by rw [← HT1.out]; exact p.cell (by have := hB.size; show b2 < _; omega) ((hB.cell (p := ⟨b2, off2 + k * 2 + 1, none⟩) hbB2).trans (hc2 k hlt).2)
        clear hc hc2
        by_cases he : s0 = t0 ∧ s1 = t1
        · have HE : ∀ W, (Op.equalIn 10000 100 (.agg #[.string s0, .string s1]) (.agg #[.string t0, .string t1])).run Try.prog W = .ok true W := fun W => by rw [eq_pr, he.1, he.2]; simp
          clear he
          go_wp2_with fail
          refine wp_region_bel (by kernel_rfl) (by kernel_rfl) ?_
          repeat (
            refine WQ.step (fun KK hKK => ?_)
            go_simp
            refine hKK _ ?_; clear hKK KK)
          refine WQ.nil_ ?_
          rintro wq1 ⟨⟨wq, hq⟩, hwq⟩
          obtain rfl : wq = wq1 := hwq.symm
          clear hwq
          go_wp2
          go_roundw
          case rel => exact ⟨k + 1, by omega, by go_num, hB.trans (hq.mono hB.size)⟩
          case measure => simp [intOf]; omega
        · have HE : ∀ W, (Op.equalIn 10000 100 (.agg #[.string s0, .string s1]) (.agg #[.string t0, .string t1])).run Try.prog W = .ok false W := fun W => by
            rw [eq_pr]
            have : (s0.toList == t0.toList && s1.toList == t1.toList) = false := by
              cases h : (s0.toList == t0.toList && s1.toList == t1.toList)
              · rfl
              · rw [Bool.and_eq_true, beq_iff_eq, beq_iff_eq] at h
                exact absurd ⟨toList_inj h.1, toList_inj h.2⟩ he
            rw [this]
          have HN := Lib.hid (show L ≠ M from fun h => he ⟨by rw [← HZ0.out, ← HT0.out, h], by rw [← HZ1.out, ← HT1.out, h]⟩)
          clear he
          go_wp2_with fail
          refine wp_region_bel (by kernel_rfl) (by kernel_rfl) ?_
          repeat (
            refine WQ.step (fun KK hKK => ?_)
            go_simp
            refine hKK _ ?_; clear hKK KK)
          refine WQ.nil_ ?_
          rintro wq1 ⟨⟨wq, hq⟩, hwq⟩
          obtain rfl : wq = wq1 := hwq.symm
          clear hwq
          go_wp2
          go_ret
          exact ⟨⟨false, rfl, fun h => absurd h HN.out⟩, hB.trans (hq.mono hB.size)⟩
      · obtain rfl : k = n := by omega
        go_wp2
        go_ret
        exact ⟨⟨true, rfl, fun _ => rfl⟩, hB⟩
  · have HN := Lib.hid (show L ≠ M from fun h => hnm (by rw [← HB.out.len, ← HB2.out.len, h]))
    go_enter Try.func39, Try.ntmps39
    go_wp2
    go_ret
    exact ⟨⟨false, rfl, fun h => absurd h HN.out⟩, Below.refl _ _⟩
def strIn : Value → ByteArray
  | .string s => s
  | _ => ⟨#[]⟩
/-- A value that is a slice of pairs. -/
def IsPairs (W : World) (v : Value) : Prop := ∃ (A : Option Addr) (n c : Nat) (L : Lab), v = .slice A n c ∧ Prs W W.heap.size A n L ∧ n ≤ c ∧ c ≤ 9223372036854775807
section
variable {H : Type} {enc : TypeId × Value → H} {W : World} {base : Nat} {v : Value} {d : DataW H} {p : List MemPlace}
set_option maxRecDepth 100000 in
theorem open_pairs (hv : Value.okWide Try.prog W .any base 39 v) (h : DataW.Trod enc Try.prog W 0 (fun _ => true) true 39 v d p) (_hlt : ∀ x ∈ p, x.block < W.heap.size) : IsPairs W v := by
  obtain ⟨A, n, c, rfl⟩ := okWide_slice Try.underlying39 hv
  obtain ⟨fuel, hf⟩ := h
  rcases Deep.open_slice_pairs Try.underlying39 Try.underlying100 (by kernel_rfl) rfl rfl (by kernel_rfl) (by kernel_rfl) hf with ⟨hcs, _⟩ | ⟨x, l, c', m, k, V0, V1, D0, D1, P0, P1, hcs, _, hl, hm, hmm, _, hcell⟩
  · simp [Value.cells] at hcs
    obtain ⟨rfl, rfl, rfl⟩ := hcs
    exact ⟨none, 0, 0, [], rfl, Prs.nil_ _ _ _, Nat.le_refl _, by omega⟩
  · simp [Value.cells] at hcs
    obtain ⟨rfl, rfl, rfl⟩ := hcs
    simp at hmm
    subst hmm
    have hat : ∀ i, i < n → nm ((List.range n).map fun i => (strIn (V0 i), strIn (V1 i))) i = strIn (V0 i) ∧ vl ((List.range n).map fun i => (strIn (V0 i), strIn (V1 i))) i = strIn (V1 i) := fun i hi => by
      have := nm_at (L := (List.range n).map fun i => (strIn (V0 i), strIn (V1 i))) (i := i) (by simpa using hi)
      simp at this
      exact this
    refine ⟨_, n, m, (List.range n).map fun i => (strIn (V0 i), strIn (V1 i)), rfl, ⟨by simp, fun hn => ?_, fun i hi => ?_⟩, hl, by unfold maxLen at hm; omega⟩
    · obtain ⟨b, off, spot⟩ := x
      have h0 := (hcell 0 (by omega)).1
      have hspot : spot = none := by simpa [Addr.add] using World.cell?_spot h0
      subst hspot
      have hadd : ∀ i, (⟨b, off, none⟩ : Addr).add i = ⟨b, off + i, none⟩ := fun i => by unfold Addr.add; split <;> simp_all
      refine ⟨b, off, rfl, ?_, fun i hi => ?_⟩
      · rcases Nat.lt_or_ge b W.heap.size with h' | h'
        · exact h'
        · rw [hadd] at h0; simp [World.cell?, Array.getElem?_eq_none h'] at h0
      · obtain ⟨c0, c1, t0, t1⟩ := hcell i (by omega)
        obtain ⟨z, e0, -⟩ := DataW.trod_string Try.underlying9 t0
        obtain ⟨q, e1, -⟩ := DataW.trod_string Try.underlying9 t1
        simp at e0 e1
        rw [hadd] at c0 c1
        refine ⟨by simp only [(hat i hi).1]; simp only [c0, e0, strIn], ?_⟩
        simp only [(hat i hi).2]
        simp only [Nat.add_assoc, c1, e1, strIn]
    · obtain ⟨c0, c1, t0, t1⟩ := hcell i (by omega)
      obtain ⟨z, e0, -, b0⟩ := DataW.trod_string Try.underlying9 t0
      obtain ⟨q, e1, -, b1⟩ := DataW.trod_string Try.underlying9 t1
      simp at e0 e1
      rw [(hat i hi).1, (hat i hi).2, e0, e1]
      exact ⟨b0, b1⟩
end
end Go.Proofs.Ytkkbncgnobaliaa
