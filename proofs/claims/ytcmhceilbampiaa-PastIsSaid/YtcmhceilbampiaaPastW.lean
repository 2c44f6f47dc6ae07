/-
  THE PAST's WALKS: Sane and counted.
-/
import Derived.Test.YtcmhceilbampiaaPastP
import Derived.Test.YtcmhceilbampiaaPts
import Derived.Test.YtcmhceilbampiaaBel
import Derived.Lib.Hide
import Derived.Laws.BitsAllLaws
namespace Go.Proofs.Ytcmhceilbampiaa
open Go.RowKit
open PastP
set_option linter.unusedVariables false
theorem rb {a b : Bool} (h : a = b) : Ending.returned (.bool a) = .returned (.bool b) := by rw [h]
theorem ri {k : IntKind} {a b : Int} (h : a = b) : Ending.returned (.int k a) = .returned (.int k b) := by rw [h]
theorem wr64 (x : Int) (h : -9223372036854775808 ≤ x ∧ x ≤ 9223372036854775807) : IntKind.i64.wrap x = x := by rw [IntKind.wrap_i64]; omega
/-- are the first k places in order? -/
def okTo (k : Nat) (T : Nat → Int) : Prop := ∀ i, i < k → 0 ≤ T i ∧ T i ≤ 9007199254740992 ∧ (0 < i → T (i - 1) < T i)
theorem okTo.succ {k : Nat} {T : Nat → Int} (h : okTo k T) (h1 : 0 ≤ T k) (h2 : T k ≤ 9007199254740992) (h3 : 0 < k → T (k - 1) < T k) : okTo (k + 1) T := fun i hi => by
  rcases Nat.lt_or_ge i k with h' | h'
  · exact h i h'
  · obtain rfl : i = k := by omega
    exact ⟨h1, h2, h3⟩
set_option maxRecDepth 100000 in
set_option maxHeartbeats 800000 in
theorem psane_any (A : Option Addr) (n cap : Nat) (T : Nat → Int) (C : Nat → Bool) (w : World) (hn : n ≤ 9223372036854775807) (hb : Ps w w.heap.size A n T C) :
    Calls Try.prog 26 #[.slice A n cap] w fun e w' => e = .returned (.bool (saneB n T)) ∧ Below w.heap.size w w' := by
  by_cases h200 : n ≤ 200
  · have hHb := Lib.hid hb; clear hb
    go_enter Try.func26, Try.ntmps26
    go_wp2
    go_loopw [10] (fun i wr => ∃ k : Nat, k ≤ n ∧ i = .int .i64 k ∧ Hid (okTo k T) ∧ Below w.heap.size w wr) (fun i _ => n - (intOf i).toNat)
    case atStart => exact ⟨0, by omega, rfl, Lib.hid (fun i hi => absurd hi (by omega)), Below.refl _ _⟩
    case round =>
      obtain ⟨k, hk, rfl, hok, hB⟩ := hrel
      by_cases hlt : k < n
      · obtain ⟨b, off, rfl, hbB, hc⟩ := hHb.out (by omega)
        have hx0 := (hB.cell (p := ⟨b, off + k * 2, none⟩) hbB).trans (hc k hlt).1
        have hx1 := (hB.cell (p := ⟨b, off + k * 2 + 1, none⟩) hbB).trans (hc k hlt).2
        have hHc := Lib.hid hc; clear hc
        have hB2 := hB.alloc hB.size (.cells #[.int .i64 (T k), .bool (C k)] 46)
        by_cases c1 : T k < 0
        · have HS := Lib.hid (show saneB n T = false from saneB_no.2 (fun h => by have := h.bd hlt; omega))
          go_wp2
          go_ret
          exact ⟨rb HS.out.symm, hB2⟩
        by_cases c2 : 9007199254740992 < T k
        · have HS := Lib.hid (show saneB n T = false from saneB_no.2 (fun h => by have := h.bd hlt; omega))
          go_wp2
          go_ret
          exact ⟨rb HS.out.symm, hB2⟩
        by_cases c3 : k = 0
        · have HN := Lib.hid (hok.out.succ (by omega) (by omega) (fun h => absurd h (by omega)))
          have hk1 : decide (0 < k) = false := decide_eq_false (by omega)
          clear c3
          go_wp2_with fail
          refine wp_region_bel (by kernel_rfl) (by kernel_rfl) ?_
          repeat (
            refine WQ.step (fun KK hKK => ?_)
            go_simp
            refine hKK _ ?_; clear hKK KK)
          refine WQ.nil_ ?_
          rintro _ ⟨⟨wq, hq⟩, rfl⟩
          go_wp2
          go_roundw
          case rel => exact ⟨k + 1, by omega, by go_num, HN, hB2.trans (hq.mono hB2.size)⟩
          case measure => simp [intOf]; omega
        obtain ⟨j, hj⟩ : ∃ j, k - 1 = j := ⟨_, rfl⟩
        have hk1 : 0 < k := by omega
        have hkj : j < n := by omega
        have hk2 : IntKind.i64.wrap (j : Int) = (j : Int) := wr64 _ (by omega)
        have hk3 : (k : Int) - 1 = (j : Int) := by omega
        have hy0 := (hB.cell (p := ⟨b, off + j * 2, none⟩) hbB).trans (hHc.out j hkj).1
        have z0 : ∀ p : Bel (wr.alloc (.cells #[.int .i64 (T k), .bool (C k)] 46)), p.now.cell? ⟨b, off + j * 2, none⟩ = some (.int .i64 (T j)) := fun p => p.cell (by have := hB.size; simp; omega) ((World.cell?_alloc_lt wr _ ⟨b, off + j * 2, none⟩ (by have := hB.size; show b < _; omega)).trans hy0)
        have z1 : ∀ p : Bel (wr.alloc (.cells #[.int .i64 (T k), .bool (C k)] 46)), p.now.cell? ⟨wr.heap.size, 0, none⟩ = some (.int .i64 (T k)) := Bel.cells (Blk.new wr _ _) 0
        have HJ := Lib.hid hj
        by_cases c4 : T k ≤ T j
        · have HS := Lib.hid (show saneB n T = false from saneB_no.2 (fun h => by have := (h.2 k hlt).2.2 (by omega); rw [hj] at this; omega))
          clear hj
          go_wp2_with fail
          refine wp_region_bel (by kernel_rfl) (by kernel_rfl) ?_
          repeat (
            refine WQ.step (fun KK hKK => ?_)
            go_simp
            refine hKK _ ?_; clear hKK KK)
          refine WQ.nil_ ?_
          rintro _ ⟨⟨wq, hq⟩, rfl⟩
          go_wp2
          go_ret
          exact ⟨rb HS.out.symm, hB2.trans (hq.mono hB2.size)⟩
        · have HN := Lib.hid (hok.out.succ (by omega) (by omega) (fun h => by rw [hj]; omega))
          clear hj
          go_wp2_with fail
          refine wp_region_bel (by kernel_rfl) (by kernel_rfl) ?_
          repeat (
            refine WQ.step (fun KK hKK => ?_)
            go_simp
            refine hKK _ ?_; clear hKK KK)
          refine WQ.nil_ ?_
          rintro _ ⟨⟨wq, hq⟩, rfl⟩
          go_wp2
          go_roundw
          case rel => exact ⟨k + 1, by omega, by go_num, HN, hB2.trans (hq.mono hB2.size)⟩
          case measure => simp [intOf]; omega
      · obtain rfl : k = n := by omega
        have HS := Lib.hid (show saneB k T = true from saneB_iff.2 ⟨h200, hok.out⟩)
        go_wp2
        go_ret
        exact ⟨rb HS.out.symm, hB⟩
  · have HS := Lib.hid (show saneB n T = false from saneB_no.2 (fun h => h200 h.1))
    go_enter Try.func26, Try.ntmps26
    go_wp2
    go_ret
    exact ⟨rb HS.out.symm, Below.refl _ _⟩
end Go.Proofs.Ytcmhceilbampiaa
