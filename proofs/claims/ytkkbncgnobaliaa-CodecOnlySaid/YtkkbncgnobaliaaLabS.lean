/-
  labels: pairs in memory; Sane, Few, Same.
-/
import Derived.Test.YtkkbncgnobaliaaLab
import Derived.Deep.SlicePairs
namespace Go.Proofs.Ytkkbncgnobaliaa
open Go.RowKit
open CodP
set_option linter.unusedVariables false
abbrev Lab := List (ByteArray × ByteArray)
def nm (L : Lab) (i : Nat) : ByteArray := (L.getD i (⟨#[]⟩, ⟨#[]⟩)).1
def vl (L : Lab) (i : Nat) : ByteArray := (L.getD i (⟨#[]⟩, ⟨#[]⟩)).2
/-- A slice of pairs. -/
structure Prs (w : World) (B : Nat) (A : Option Addr) (n : Nat) (L : Lab) : Prop where
  len : L.length = n
  q : Q2 w B A n (fun i => .string (nm L i)) (fun i => .string (vl L i))
  sz : ∀ i, i < n → (nm L i).size ≤ 9223372036854775807 ∧ (vl L i).size ≤ 9223372036854775807
theorem Prs.nil_ (w : World) (B : Nat) (A : Option Addr) : Prs w B A 0 [] := ⟨rfl, Q2.zero _ _ _ _ _, fun i hi => absurd hi (Nat.not_lt_zero _)⟩
section
variable {w w' : World} {B B' n : Nat} {A : Option Addr} {L : Lab}
theorem Prs.below (h : Prs w B A n L) (hb : Below B w w') : Prs w' B A n L := ⟨h.len, h.q.below hb, h.sz⟩
theorem Prs.more (h : Prs w B A n L) (hB : B ≤ B') : Prs w B' A n L := ⟨h.len, h.q.more hB, h.sz⟩
theorem Prs.now (h : Prs w w.heap.size A n L) (hb : Below w.heap.size w w') : Prs w' w'.heap.size A n L := ⟨h.len, h.q.now hb, h.sz⟩
end
def strGe (a b : ByteArray) : Bool := !(Op.bytesLess a.toList b.toList)
theorem run_ge (a b : ByteArray) (t : TypeId) (W : World) : (binOp .geq t (.string a) (.string b)).run Try.prog W = .ok (.bool (strGe a b)) W := by simp [binOp, Op.stringOp, strGe]
/-- Are the first k in order? -/
def okL (k : Nat) (L : Lab) : Prop := ∀ i, i < k → IsName (nm L i) ∧ (vl L i).size ≤ 64 ∧ (0 < i → strGe (nm L (i - 1)) (nm L i) = false)
theorem okL.succ {k : Nat} {L : Lab} (h : okL k L) (h1 : IsName (nm L k)) (h2 : (vl L k).size ≤ 64) (h3 : 0 < k → strGe (nm L (k - 1)) (nm L k) = false) : okL (k + 1) L := fun i hi => by
  rcases Nat.lt_or_ge i k with h' | h'
  · exact h i h'
  · obtain rfl : i = k := by omega
    exact ⟨h1, h2, h3⟩
def IsSane (L : Lab) : Prop := L.length ≤ 16 ∧ okL L.length L
open Classical in
noncomputable def saneL (L : Lab) : Bool := decide (IsSane L)
theorem saneL_iff {L : Lab} : saneL L = true ↔ IsSane L := by unfold saneL; simp
theorem saneL_no {L : Lab} : saneL L = false ↔ ¬ IsSane L := by unfold saneL; simp
set_option maxRecDepth 100000 in
set_option maxHeartbeats 1600000 in
theorem lsane_any (A : Option Addr) (n cap : Nat) (L : Lab) (w : World) (hn : n ≤ 9223372036854775807) (hb : Prs w w.heap.size A n L) :
    Calls Try.prog 30 #[.slice A n cap] w fun e w' => e = .returned (.bool (saneL L)) ∧ Below w.heap.size w w' := by
  have HB := Lib.hid hb; clear hb
  have HL := Lib.hid HB.out.len
  by_cases h16 : n ≤ 16
  · go_enter Try.func30, Try.ntmps30
    go_wp2
    go_loopw [10] (fun i wr => ∃ k : Nat, k ≤ n ∧ i = .int .i64 k ∧ Hid (okL k L) ∧ Below w.heap.size w wr) (fun i _ => n - (intOf i).toNat)
    case atStart => exact ⟨0, by omega, rfl, Lib.hid (fun i hi => absurd hi (by omega)), Below.refl _ _⟩
    case round =>
      obtain ⟨k, hk, rfl, hok, hB⟩ := hrel
      by_cases hlt : k < n
      · obtain ⟨b, off, rfl, hbB, hc⟩ := HB.out.q (by omega)
        obtain ⟨s0, HZ0⟩ : ∃ s, Hid (nm L k = s) := ⟨_, Lib.hid rfl⟩
        obtain ⟨s1, HZ1⟩ : ∃ s, Hid (vl L k = s) := ⟨_, Lib.hid rfl⟩
        have hx0 : wr.cell? ⟨b, off + k * 2, none⟩ = some (.string s0) := by rw [← HZ0.out]; exact (hB.cell (p := ⟨b, off + k * 2, none⟩) hbB).trans (hc k hlt).1
        have hx1 : wr.cell? ⟨b, off + k * 2 + 1, none⟩ = some (.string s1) := by rw [← HZ1.out]; exact (hB.cell (p := ⟨b, off + k * 2 + 1, none⟩) hbB).trans (hc k hlt).2
        have HHC := Lib.hid hc; clear hc
        have HK := Lib.hid (show saneL L = true → IsName s0 ∧ s1.size ≤ 64 ∧ (0 < k → strGe (nm L (k - 1)) s0 = false) from fun h => by rw [← HZ0.out, ← HZ1.out]; exact (saneL_iff.1 h).2 k (by rw [HL.out]; exact hlt))
        have hs0 : s0.size ≤ 9223372036854775807 := by rw [← HZ0.out]; exact (HB.out.sz k hlt).1
        have hs1 : s1.size ≤ 9223372036854775807 := by rw [← HZ1.out]; exact (HB.out.sz k hlt).2
        have hB2 := hB.alloc hB.size (.cells #[.string s0, .string s1] 100)
        cases c1 : nameB s0
        · have HS := Lib.hid (show saneL L = false by
            cases h : saneL L
            · rfl
            · rw [nameB_iff.2 (HK.out h).1] at c1; cases c1)
          go_wp2_with fail
          refine (name_any s0 _ hs0).mono ?_
          rintro e w1 ⟨rfl, rfl⟩
          rw [c1]
          go_wp2
          go_ret
          exact ⟨rbL HS.out.symm, hB2⟩
        have hN1 := nameB_iff.1 c1
        by_cases c2 : 64 < s1.size
        · have HS := Lib.hid (show saneL L = false by
            cases h : saneL L
            · rfl
            · have := (HK.out h).2.1; omega)
          go_wp2_with fail
          refine (name_any s0 _ hs0).mono ?_
          rintro e w1 ⟨rfl, rfl⟩
          rw [c1]
          go_wp2
          go_ret
          exact ⟨rbL HS.out.symm, hB2⟩
        have d2 : decide (64 < s1.size) = false := decide_eq_false c2
        by_cases c3 : k = 0
        · have HN := Lib.hid (hok.out.succ (by rw [HZ0.out]; exact hN1) (by rw [HZ1.out]; omega) (fun h => absurd h (by omega)))
          have hk1 : decide (0 < k) = false := decide_eq_false (by omega)
          clear c3
          go_wp2_with fail
          refine (name_any s0 _ hs0).mono ?_
          rintro e w1 ⟨rfl, rfl⟩
          rw [c1]
          go_wp2_with fail
          refine wp_region_bel (by kernel_rfl) (by kernel_rfl) ?_
          repeat (
            refine WQ.step (fun KK hKK => ?_)
            go_simp
            refine hKK _ ?_; clear hKK KK)
          refine WQ.nil_ ?_
          rintro wq1 ⟨⟨wq, hq⟩, hwq⟩
          obtain rfl : wq = wq1 := hwq.symm
          clear hwq
          go_wp2
          go_roundw
          case rel => exact ⟨k + 1, by omega, by go_num, HN, hB2.trans (hq.mono hB2.size)⟩
          case measure => simp [intOf]; omega
        obtain ⟨j, hj⟩ : ∃ j, k - 1 = j := ⟨_, rfl⟩
        have hk1 : 0 < k := by omega
        have hkj : j < n := by omega
        have hk2 : IntKind.i64.wrap (j : Int) = (j : Int) := by rw [IntKind.wrap_i64]; omega
        have hk3 : (k : Int) - 1 = (j : Int) := by omega
        obtain ⟨s2, HZ2⟩ : ∃ s, Hid (nm L j = s) := ⟨_, Lib.hid rfl⟩
        have hy0 : wr.cell? ⟨b, off + j * 2, none⟩ = some (.string s2) := by rw [← HZ2.out]; exact (hB.cell (p := ⟨b, off + j * 2, none⟩) hbB).trans (HHC.out j hkj).1
        have z0 : ∀ p : Bel (wr.alloc (.cells #[.string s0, .string s1] 100)), p.now.cell? ⟨b, off + j * 2, none⟩ = some (.string s2) := fun p => p.cell (by have := hB.size; simp; omega) ((World.cell?_alloc_lt wr _ ⟨b, off + j * 2, none⟩ (by have := hB.size; show b < _; omega)).trans hy0)
        have z1 : ∀ p : Bel (wr.alloc (.cells #[.string s0, .string s1] 100)), p.now.cell? ⟨wr.heap.size, 0, none⟩ = some (.string s0) := Bel.cells (Blk.new wr _ _) 0
        have HJ := Lib.hid hj
        clear hj
        cases c4 : strGe s2 s0
        · have hge : ∀ W, (binOp .geq 9 (.string s2) (.string s0)).run Try.prog W = .ok (.bool false) W := fun W => by rw [run_ge, c4]
          have HN := Lib.hid (hok.out.succ (by rw [HZ0.out]; exact hN1) (by rw [HZ1.out]; omega) (fun h => by rw [HJ.out, HZ2.out, HZ0.out]; exact c4))
          go_wp2_with fail
          refine (name_any s0 _ hs0).mono ?_
          rintro e w1 ⟨rfl, rfl⟩
          rw [c1]
          go_wp2_with fail
          refine wp_region_bel (by kernel_rfl) (by kernel_rfl) ?_
          repeat (
            refine WQ.step (fun KK hKK => ?_)
            go_simp
            refine hKK _ ?_; clear hKK KK)
          refine WQ.nil_ ?_
          rintro wq1 ⟨⟨wq, hq⟩, hwq⟩
          obtain rfl : wq = wq1 := hwq.symm
          clear hwq
          go_wp2
          go_roundw
          case rel => exact ⟨k + 1, by omega, by go_num, HN, hB2.trans (hq.mono hB2.size)⟩
          case measure => simp [intOf]; omega
        · have hge : ∀ W, (binOp .geq 9 (.string s2) (.string s0)).run Try.prog W = .ok (.bool true) W := fun W => by rw [run_ge, c4]
          have HS := Lib.hid (show saneL L = false by
            cases h : saneL L
            · rfl
            · have h3 := (HK.out h).2.2 hk1
              rw [HJ.out, HZ2.out, c4] at h3; cases h3)
          go_wp2_with fail
          refine (name_any s0 _ hs0).mono ?_
          rintro e w1 ⟨rfl, rfl⟩
          rw [c1]
          go_wp2_with fail
          refine wp_region_bel (by kernel_rfl) (by kernel_rfl) ?_
          repeat (
            refine WQ.step (fun KK hKK => ?_)
            go_simp
            refine hKK _ ?_; clear hKK KK)
          refine WQ.nil_ ?_
          rintro wq1 ⟨⟨wq, hq⟩, hwq⟩
          obtain rfl : wq = wq1 := hwq.symm
          clear hwq
          go_wp2
          go_ret
          exact ⟨rbL HS.out.symm, hB2.trans (hq.mono hB2.size)⟩
      · obtain rfl : k = n := by omega
        have HS := Lib.hid (show saneL L = true from saneL_iff.2 ⟨by rw [HL.out]; exact h16, by rw [HL.out]; exact hok.out⟩)
        go_wp2
        go_ret
        exact ⟨rbL HS.out.symm, hB⟩
  · have HS := Lib.hid (show saneL L = false from saneL_no.2 (fun h => h16 (by have := h.1; rw [HL.out] at this; exact this)))
    go_enter Try.func30, Try.ntmps30
    go_wp2
    go_ret
    exact ⟨rbL HS.out.symm, Below.refl _ _⟩
end Go.Proofs.Ytkkbncgnobaliaa
