/-
  THE REFERENCE's Sane and As (package watchtowerref16).
-/
import Derived.Test.YtcmhceilbampiaaPastI
import Derived.Test.YtcmhceilbampiaaHoldRef
namespace Go.Proofs.Ytcmhceilbampiaa
open Go.RowKit
open HoldP
open PastP
set_option linter.unusedVariables false
theorem Ps.one' {w w' : World} {A : Option Addr} {n : Nat} {T : Nat → Int} {C : Nat → Bool} (h : Ps w w.heap.size A n T C) (hb : Below w.heap.size w w') (hn : 0 < n) :
    ∃ b off, A = some ⟨b, off, none⟩ ∧ ∀ i, i < n → (∀ p : Bel w', p.now.cell? ⟨b, off + i * 2, none⟩ = some (.int .i64 (T i))) ∧ (∀ p : Bel w', p.now.cell? ⟨b, off + i * 2 + 1, none⟩ = some (.bool (C i))) ∧ w'.cell? ⟨b, off + i * 2, none⟩ = some (.int .i64 (T i)) ∧ w'.cell? ⟨b, off + i * 2 + 1, none⟩ = some (.bool (C i)) := by
  obtain ⟨b, off, e, h1, hc⟩ := h hn
  refine ⟨b, off, e, fun i hi => ?_⟩
  have h3 := (hb.cell (p := ⟨b, off + i * 2, none⟩) h1).trans (hc i hi).1
  have h4 := (hb.cell (p := ⟨b, off + i * 2 + 1, none⟩) h1).trans (hc i hi).2
  exact ⟨fun p => (p.bel.cell (p := ⟨b, off + i * 2, none⟩) (by have := hb.size; show b < _; omega)).trans h3, fun p => (p.bel.cell (p := ⟨b, off + i * 2 + 1, none⟩) (by have := hb.size; show b < _; omega)).trans h4, h3, h4⟩
set_option maxRecDepth 100000 in
set_option maxHeartbeats 1600000 in
theorem rsane_p (A : Option Addr) (n cap : Nat) (T : Nat → Int) (C : Nat → Bool) (w : World) (hn : n ≤ 9223372036854775807) (hb : Ps w w.heap.size A n T C) :
    Calls Try.prog 27 #[.slice A n cap] w fun e w' => e = .returned (.bool (saneB n T)) ∧ Below w.heap.size w w' := by
  have hHb := Lib.hid hb; clear hb
  go_enter Try.func27, Try.ntmps27
  go_wp2
  go_loopw [3] (fun i wr => ∃ k : Nat, k ≤ n ∧ i = .int .i64 k ∧ Hid (okTo k T) ∧ Below w.heap.size w wr) (fun i _ => n - (intOf i).toNat)
  case atStart => exact ⟨0, by omega, rfl, Lib.hid (fun i hi => absurd hi (by omega)), Below.refl _ _⟩
  case round =>
    obtain ⟨k, hk, rfl, hok, hB⟩ := hrel
    by_cases hlt : k < n
    · obtain ⟨b, off, rfl, hc⟩ := Ps.one' hHb.out hB (by omega)
      obtain ⟨z1, -⟩ := hc k hlt
      have CT := Lib.hid (show ∀ p : Bel wr, Calls Try.prog 41 #[.int .i64 (T k)] p.now fun e w'' => e = .returned (.bool (isT (T k))) ∧ ∃ q : Bel wr, w'' = q.now from fun p => Calls.bel_of_same (rtime_any (T k) p.now))
      by_cases c1 : isT (T k) = true
      · have hbd := Lib.hid ((isT_iff _).1 c1)
        have C1 := Lib.hid c1
        rw [c1] at CT
        clear c1
        by_cases c3 : k = 0
        · have HN := Lib.hid (hok.out.succ hbd.out.1 hbd.out.2 (fun h => absurd h (by omega)))
          have hk1 : decide (0 < k) = false := decide_eq_false (by omega)
          have C3 := Lib.hid c3; clear c3 hc
          go_wp2_with fail
          refine wp_region_bel (by kernel_rfl) (by kernel_rfl) ?_
          repeat (
            refine WQ.step (fun KK hKK => ?_)
            go_simp
            first
              | (refine hKK _ ?_; clear hKK KK)
              | (apply Exists.intro; refine ⟨fun _ => ?_, hKK _ ?_⟩; ((go_at_call 41; exact CT.out _)); clear hKK KK))
          refine WQ.nil_ ?_
          rintro wq1 ⟨⟨wq, hq⟩, hwq⟩
          obtain rfl : wq = wq1 := hwq.symm
          clear hwq
          go_wp2
          go_roundw
          case rel => exact ⟨k + 1, by omega, by go_num, HN, hB.trans (hq.mono hB.size)⟩
          case measure => simp [intOf]; omega
        · obtain ⟨j, hj⟩ : ∃ j, k - 1 = j := ⟨_, rfl⟩
          have hk1 : 0 < k := by omega
          have hkj : j < n := by omega
          have hk2 : IntKind.i64.wrap (j : Int) = (j : Int) := wr64 _ (by omega)
          have hk3 : (k : Int) - 1 = (j : Int) := by omega
          obtain ⟨z0, -⟩ := hc j hkj
          have HJ := Lib.hid hj
          have C3 := Lib.hid c3
          clear hj c3 hc
          by_cases c4 : T k ≤ T j
          · have HS := Lib.hid (show saneB n T = false from saneB_no.2 (fun h => by have := (h.2 k hlt).2.2 (by omega); rw [HJ.out] at this; omega))
            go_wp2_with fail
            refine wp_region_bel (by kernel_rfl) (by kernel_rfl) ?_
            repeat (
              refine WQ.step (fun KK hKK => ?_)
              go_simp
              first
                | (refine hKK _ ?_; clear hKK KK)
                | (apply Exists.intro; refine ⟨fun _ => ?_, hKK _ ?_⟩; ((go_at_call 41; exact CT.out _)); clear hKK KK))
            refine WQ.nil_ ?_
            rintro wq1 ⟨⟨wq, hq⟩, hwq⟩
            obtain rfl : wq = wq1 := hwq.symm
            clear hwq
            go_wp2
            go_ret
            exact ⟨rb HS.out.symm, hB.trans (hq.mono hB.size)⟩
          · have HN := Lib.hid (hok.out.succ hbd.out.1 hbd.out.2 (fun h => by rw [HJ.out]; omega))
            have c5 : decide (T k ≤ T j) = false := decide_eq_false c4
            go_wp2_with fail
            refine wp_region_bel (by kernel_rfl) (by kernel_rfl) ?_
            repeat (
              refine WQ.step (fun KK hKK => ?_)
              go_simp
              first
                | (refine hKK _ ?_; clear hKK KK)
                | (apply Exists.intro; refine ⟨fun _ => ?_, hKK _ ?_⟩; ((go_at_call 41; exact CT.out _)); clear hKK KK))
            refine WQ.nil_ ?_
            rintro wq1 ⟨⟨wq, hq⟩, hwq⟩
            obtain rfl : wq = wq1 := hwq.symm
            clear hwq
            go_wp2
            go_roundw
            case rel => exact ⟨k + 1, by omega, by go_num, HN, hB.trans (hq.mono hB.size)⟩
            case measure => simp [intOf]; omega
      · have HS := Lib.hid (show saneB n T = false from saneB_no.2 (fun h => c1 ((isT_iff _).2 (h.bd hlt))))
        rw [show isT (T k) = false by simpa using c1] at CT
        clear c1 hc
        go_wp2_with fail
        refine wp_region_bel (by kernel_rfl) (by kernel_rfl) ?_
        repeat (
          refine WQ.step (fun KK hKK => ?_)
          go_simp
          first
            | (refine hKK _ ?_; clear hKK KK)
            | (apply Exists.intro; refine ⟨fun _ => ?_, hKK _ ?_⟩; ((go_at_call 41; exact CT.out _)); clear hKK KK))
        refine WQ.nil_ ?_
        rintro wq1 ⟨⟨wq, hq⟩, hwq⟩
        obtain rfl : wq = wq1 := hwq.symm
        clear hwq
        go_wp2
        go_ret
        exact ⟨rb HS.out.symm, hB.trans (hq.mono hB.size)⟩
    · obtain rfl : k = n := by omega
      by_cases h200 : k ≤ 200
      · have HS := Lib.hid (show saneB k T = true from saneB_iff.2 ⟨h200, hok.out⟩)
        go_wp2
        go_ret
        exact ⟨rb (by rw [HS.out]; simp; omega), hB⟩
      · have HS := Lib.hid (show saneB k T = false from saneB_no.2 (fun h => h200 h.1))
        go_wp2
        go_ret
        exact ⟨rb (by rw [HS.out]; simp; omega), hB⟩
set_option maxRecDepth 100000 in
set_option maxHeartbeats 800000 in
theorem ras_p (A : Option Addr) (n cap : Nat) (T : Nat → Int) (C : Nat → Bool) (w : World) (hn : n ≤ 9223372036854775807) (hc : n ≤ cap) (hcap : cap ≤ 9223372036854775807) (B : Nat) (hBw : B ≤ w.heap.size) (hb : Ps w B A n T C) :
    Calls Try.prog 43 #[.slice A n cap] w fun e w' => (∃ A' cap', e = .returned (.slice A' (cntN n T) cap') ∧ Ps w' B A' (cntN n T) T C ∧ cntN n T ≤ cap' ∧ cap' ≤ 9223372036854775807) ∧ Below w.heap.size w w' := by
  have hHb := Lib.hid hb; clear hb
  go_enter Try.func43, Try.ntmps43
  go_wp2_with fail
  refine (rsane_p A n cap T C _ hn (hHb.out.more hBw)).mono ?_
  rintro e w1 ⟨rfl, hb1⟩
  cases hs : saneB n T
  · have HS := Lib.hid (cntN_no hs)
    clear hs
    go_wp2
    go_ret
    exact ⟨⟨none, 0, by rw [HS.out]; rfl, by rw [HS.out]; exact Q2.zero _ _ _ _ _, by rw [HS.out]; omega, by omega⟩, hb1⟩
  · have HS := Lib.hid (cntN_of (saneB_iff.1 hs))
    clear hs
    go_wp2
    go_ret
    exact ⟨⟨A, cap, by rw [HS.out]; rfl, by rw [HS.out]; exact hHb.out.below (hb1.mono hBw), by rw [HS.out]; exact hc, hcap⟩, hb1⟩
end Go.Proofs.Ytcmhceilbampiaa
