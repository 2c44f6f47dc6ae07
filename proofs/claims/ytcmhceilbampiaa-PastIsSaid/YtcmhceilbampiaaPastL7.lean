/-
  PastIs' walk.
-/
import Derived.Test.YtcmhceilbampiaaPastAw
import Derived.Test.YtcmhceilbampiaaPastF3
namespace Go.Proofs.Ytcmhceilbampiaa
open Go.RowKit
open HoldP
open PastP
set_option linter.unusedVariables false
set_option maxRecDepth 100000 in
set_option maxHeartbeats 3200000 in
theorem pastIs_walk (w : World) (v : Value) (hv' : IsPoints w v) (wt : Int) (hw1 : -9223372036854775808 ≤ wt) (hw2 : wt ≤ 9223372036854775807) (k : Int) (hk1 : -9223372036854775808 ≤ k) (hk2 : k ≤ 9223372036854775807) (i : Int) (hi1 : -9223372036854775808 ≤ i) (hi2 : i ≤ 9223372036854775807) :
    Calls Try.prog 9 #[v, .int .i64 wt, .int .i64 k, .int .i64 i] w fun e w' => e = .returned (.bool true) ∧ Below w.heap.size w w' := by
  obtain ⟨A, n, cap, T, C, rfl, hps, hcn, hcap⟩ := hv'
  by_cases hn : n ≤ 60
  · have hP0 := Lib.hid hps; clear hps
    have h200 := Lib.hid (show cntN n T ≤ 200 from (sane_cntN n T).1)
    go_enter Try.func9, Try.ntmps9
    go_wp2_with fail
    refine (pawake_any _).mono ?_
    rintro e w1 ⟨rfl, hB1⟩
    have hP1 := Lib.hid (Q2.now hP0.out hB1)
    clear hP0
    go_wp2_with fail
    refine (psane_any A n cap T C _ (by omega) hP1.out).mono ?_
    rintro e w2 ⟨rfl, hb2⟩
    have hP2 := Lib.hid (Q2.now hP1.out hb2)
    have hB2 := hB1.trans (hb2.mono hB1.size)
    clear hP1 hB1 hb2
    obtain ⟨sb, hsb⟩ : ∃ b, saneB n T = b := ⟨_, rfl⟩
    have HSB := Lib.hid hsb
    rw [hsb]
    clear hsb
    go_wp2_with fail
    refine (rsane_p A n cap T C _ (by omega) hP2.out).mono ?_
    rintro e w3 ⟨rfl, hb3⟩
    rw [HSB.out]
    have hP3 := Lib.hid (Q2.now hP2.out hb3)
    have hB3 := hB2.trans (hb3.mono hB2.size)
    clear hP2 hB2 hb3
    go_wp2_with fail
    refine (pruns_any A n cap T C _ (by omega) hcn hcap hP3.out).mono ?_
    rintro e w4 ⟨⟨v, rfl, hown⟩, hb4⟩
    obtain ⟨A4, n4, c4, rfl, hc4, hd4, hr4⟩ := hown.r2
    have hR4 := Lib.hid hr4
    have hP4 := Lib.hid (Q2.now hP3.out hb4)
    have hB4 := hB3.trans (hb4.mono hB3.size)
    clear hown hr4 hb4 hP3 hB3
    go_wp2_with fail
    refine (rruns_p A n cap T C _ (by omega) hcn hcap hP4.out).mono ?_
    rintro e w5 ⟨⟨v, rfl, hown⟩, hb5⟩
    obtain ⟨A5, n5, c5, rfl, hc5, hd5, hr5⟩ := hown.r2
    obtain rfl : n4 = n5 := by rw [hr5.len, hR4.out.len]
    have hR5 := Lib.hid hr5
    have hR6 := Lib.hid (hR4.out.below hb5)
    have hP5 := Lib.hid (Q2.now hP4.out hb5)
    have hB5 := hB4.trans (hb5.mono hB4.size)
    clear hown hr5 hb5 hP4 hB4 hR4
    go_wp2_with fail
    refine (rpairs_same A4 A5 n4 c4 c5 _ _ (by omega) hR6.out hR5.out).mono ?_
    rintro e w6 ⟨rfl, hb6⟩
    have hP6 := Lib.hid (Q2.now hP5.out hb6)
    have hB6 := hB5.trans (hb6.mono hB5.size)
    clear hR5 hR6 hP5 hB5 hb6
    obtain ⟨z, hz⟩ : ∃ z, atV n T C wt k i = z := ⟨_, rfl⟩
    have HZ := Lib.hid hz
    clear hz
    go_wp2_with fail
    refine (pat_any A n cap T C wt k i _ (by omega) hcn hcap _ (Nat.le_refl _) hP6.out).mono ?_
    rintro e w7 ⟨rfl, hb7⟩
    rw [HZ.out]
    have hP7 := Lib.hid (Q2.now hP6.out hb7)
    have hB7 := hB6.trans (hb7.mono hB6.size)
    clear hP6 hB6 hb7
    go_wp2_with fail
    refine (rat_p A n cap T C wt k i _ (by omega) hcn hcap _ (Nat.le_refl _) hP7.out).mono ?_
    rintro e w8 ⟨rfl, hb8⟩
    rw [HZ.out]
    have hP8 := Lib.hid (Q2.now hP7.out hb8)
    have hB8 := hB7.trans (hb8.mono hB7.size)
    clear hP7 hB7 hb8
    go_wp2_with fail
    refine (pall_any A n cap T C wt k _ (by omega) hcn hcap hP8.out).mono ?_
    rintro e w9 ⟨⟨v, rfl, hown⟩, hb9⟩
    obtain ⟨A9, n9, c9, rfl, hc9, hd9, hr9⟩ := hown.r1
    have hR9 := Lib.hid hr9
    have hP9 := Lib.hid (Q2.now hP8.out hb9)
    have hB9 := hB8.trans (hb9.mono hB8.size)
    clear hown hr9 hb9 hP8 hB8
    go_wp2_with fail
    refine (rall_p A n cap T C wt k _ (by omega) hcn hcap hP9.out).mono ?_
    rintro e w10 ⟨⟨v, rfl, hown⟩, hb10⟩
    obtain ⟨A10, n10, c10, rfl, hc10, hd10, hr10⟩ := hown.r1
    obtain rfl : n9 = n10 := by rw [hr10.len, hR9.out.len]
    have hR10 := Lib.hid hr10
    have hR11 := Lib.hid (hR9.out.below hb10)
    have hB10 := hB9.trans (hb10.mono hB9.size)
    clear hown hr10 hb10 hB9 hR9
    go_wp2_with fail
    refine (rints_same A9 A10 n9 c9 c10 _ _ (by omega) hR11.out hR10.out).mono ?_
    rintro e w11 ⟨rfl, hb11⟩
    go_wp2
    go_ret
    exact ⟨rfl, hB10.trans (hb11.mono hB10.size)⟩
  · go_enter Try.func9, Try.ntmps9
    go_wp2_with fail
    refine (pawake_any _).mono ?_
    rintro e w1 ⟨rfl, hb1⟩
    go_wp2
    go_ret
    exact ⟨rfl, hb1⟩
end Go.Proofs.Ytcmhceilbampiaa
