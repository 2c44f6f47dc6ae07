/-
  PastLater's and PastTimes' walks.
-/
import Derived.Test.YtcmhceilbampiaaPastAw
import Derived.Test.YtcmhceilbampiaaCut
namespace Go.Proofs.Ytcmhceilbampiaa
open Go.RowKit
open HoldP
open PastP
set_option linter.unusedVariables false
theorem sizePt : (Try.prog.info? 46).map (·.size) = some 2 := by kernel_rfl
theorem sizeIn : (Try.prog.info? 3).map (·.size) = some 1 := by kernel_rfl
theorem allL_take (T : Nat → Int) (C : Nat → Bool) (w k : Int) {m n : Nat} (h : m ≤ n) : (allL T C w k n).take m = allL T C w k m := by
  unfold allL
  rw [← List.map_take, List.take_range, Nat.min_eq_left h]
set_option maxRecDepth 100000 in
set_option maxHeartbeats 1600000 in
theorem pastLater_walk (w : World) (v : Value) (hv' : IsPoints w v) (wt : Int) (hw1 : -9223372036854775808 ≤ wt) (hw2 : wt ≤ 9223372036854775807) (k : Int) (hk1 : -9223372036854775808 ≤ k) (hk2 : k ≤ 9223372036854775807) (i : Int) (hi1 : -9223372036854775808 ≤ i) (hi2 : i ≤ 9223372036854775807) :
    Calls Try.prog 11 #[v, .int .i64 wt, .int .i64 k, .int .i64 i] w fun e w' => e = .returned (.bool true) ∧ Below w.heap.size w w' := by
  obtain ⟨A, n, cap, T, C, rfl, hps, hcn, hcap⟩ := hv'
  by_cases hn : n ≤ 60
  · obtain ⟨m, hmask, hm'⟩ := and_mask i 65535 (by omega)
    have hmask' : bits .and .i64 i 65535 = (m : Int) := hmask
    clear hmask
    have hmod := mod_nat m n
    have hat : m % (n + 1) ≤ n := by have := Nat.mod_lt m (show 0 < n + 1 by omega); omega
    generalize m % (n + 1) = at_ at hmod hat
    have r1 := run_cut_hi Try.underlying34 2 sizePt A n cap at_ (by omega)
    have hP0 := Lib.hid hps; clear hps
    go_enter Try.func11, Try.ntmps11
    go_wp2_with fail
    refine (pawake_any _).mono ?_
    rintro e w1 ⟨rfl, hb1⟩
    have hP1 := Lib.hid (Q2.now hP0.out hb1)
    clear hP0
    go_wp2_with fail
    refine (psane_any A n cap T C _ (by omega) hP1.out).mono ?_
    rintro e w2 ⟨rfl, hb2⟩
    have hP2 := Lib.hid (Q2.now hP1.out hb2)
    have hB2 := hb1.trans (hb2.mono hb1.size)
    clear hP1 hb1 hb2
    cases hs : saneB n T
    · clear hs
      go_wp2
      go_ret
      exact ⟨rfl, hB2⟩
    · have hS := Lib.hid (saneB_iff.1 hs)
      clear hs
      have hN := Lib.hid (cntN_of hS.out)
      go_wp2_with fail
      rw [hmod]
      clear hmod hmask' hm'
      refine (pall_any A n cap T C wt k _ (by omega) hcn hcap hP2.out).mono ?_
      rintro e w3 ⟨⟨v, rfl, hown⟩, hb3⟩
      rw [hN.out] at hown
      obtain ⟨A3, n3, c3, rfl, hc3, hd3, hr3⟩ := hown.r1
      obtain rfl : n = n3 := by rw [hr3.len, allL_len]
      have hR3 := Lib.hid hr3
      have hP3 := Lib.hid (Q2.now hP2.out hb3)
      have hB3 := hB2.trans (hb3.mono hB2.size)
      clear hown hP2 hB2 hb3 hr3
      have hN4 := Lib.hid (cntN_of (hS.out.le hat))
      go_wp2_with fail
      refine (pall_any A at_ cap T C wt k _ (by omega) (by omega) hcap (hP3.out.take hat)).mono ?_
      rintro e w4 ⟨⟨v, rfl, hown⟩, hb4⟩
      rw [hN4.out] at hown
      obtain ⟨A4, n4, c4, rfl, hc4, hd4, hr4⟩ := hown.r1
      obtain rfl : at_ = n4 := by rw [hr4.len, allL_len]
      have hR4 := Lib.hid hr4
      have hR3' := Lib.hid (by have := (hR3.out.below hb4).take hat; rw [allL_take T C (clT wt) (clT k) hat] at this; exact this)
      have hP4 := Lib.hid (Q2.now hP3.out hb4)
      have hB4 := hB3.trans (hb4.mono hB3.size)
      obtain ⟨mm, hmin, hmm⟩ := min_runs at_ n
      obtain rfl : at_ = mm := by omega
      have r3 := run_cut_hi Try.underlying41 1 sizeIn A3 n c3 at_ (by omega)
      clear hown hP3 hB3 hb4 hr4 hR3 hmm
      go_wp2_with fail
      refine (rints_same A3 A4 at_ c3 c4 _ _ (by omega) hR3'.out hR4.out).mono ?_
      rintro e w5 ⟨rfl, hb5⟩
      have hP5 := Lib.hid (Q2.now hP4.out hb5)
      have hB5 := hB4.trans (hb5.mono hB4.size)
      clear hR3' hR4 hP4 hB4 hb5 hmin r3
      by_cases h0 : at_ = 0
      · have h0' : ((at_ : Int) == 0) = true := by rw [h0]; rfl
        have H0 := Lib.hid h0; clear h0
        go_wp2
        go_ret
        exact ⟨rfl, hB5⟩
      · have h0' : ((at_ : Int) == 0) = false := beq_false_of_ne (by omega)
        have hE := Lib.hid (show atV at_ T C wt k ((at_ : Int) - 1) = atV n T C wt k ((at_ : Int) - 1) by
          rw [show (at_ : Int) - 1 = ((at_ - 1 : Nat) : Int) by omega, atV_at (by rw [hN4.out]; omega), atV_at (by rw [hN.out]; omega)])
        have H0 := Lib.hid h0; clear h0
        go_wp2_with fail
        refine (pat_any A at_ cap T C wt k _ _ (by omega) (by omega) hcap _ (Nat.le_refl _) (hP5.out.take hat)).mono ?_
        rintro e w6 ⟨rfl, hb6⟩
        rw [hE.out]
        have hP6 := Lib.hid (Q2.now hP5.out hb6)
        have hB6 := hB5.trans (hb6.mono hB5.size)
        generalize hV : atV n T C wt k ((at_ : Int) - 1) = z
        have HV := Lib.hid hV; clear hV
        go_wp2_with fail
        refine (pat_any A n cap T C wt k _ _ (by omega) (by omega) hcap _ (Nat.le_refl _) hP6.out).mono ?_
        rintro e w7 ⟨rfl, hb7⟩
        rw [HV.out]
        go_wp2
        go_ret
        exact ⟨rfl, hB6.trans (hb7.mono hB6.size)⟩
  · go_enter Try.func11, Try.ntmps11
    go_wp2_with fail
    refine (pawake_any _).mono ?_
    rintro e w1 ⟨rfl, hb1⟩
    go_wp2
    go_ret
    exact ⟨rfl, hb1⟩
end Go.Proofs.Ytcmhceilbampiaa
