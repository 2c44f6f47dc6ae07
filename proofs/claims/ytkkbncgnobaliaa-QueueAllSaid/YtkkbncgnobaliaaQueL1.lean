/-
  The law QueueWaits.
-/
import Derived.Test.YtkkbncgnobaliaaQueA
namespace Go.Proofs.Ytkkbncgnobaliaa
open Go.RowKit
open CodP
set_option linter.unusedVariables false
theorem bk_le (k : Nat) : bk k ≤ bk (k + 1) := by have := bk_b k; simp only [bk]; omega
theorem bk_mono {k n : Nat} (h : k ≤ n) : bk k ≤ bk n := by
  obtain ⟨j, rfl⟩ := Nat.le.dest h
  induction j with
  | zero => exact Nat.le_refl _
  | succ j ih => exact Nat.le_trans (ih (by omega)) (bk_le (k + j))
theorem bk_two {k : Nat} (h : 1 ≤ k) (h6 : k ≤ 6) : bk k = 2 * bk (k - 1) := by
  have : k = 1 ∨ k = 2 ∨ k = 3 ∨ k = 4 ∨ k = 5 ∨ k = 6 := by omega
  rcases this with rfl | rfl | rfl | rfl | rfl | rfl <;> decide
theorem bk_big {k : Nat} (h : 6 ≤ k) : bk k = 64000 := by have := bk6 (k - 6); rwa [show 6 + (k - 6) = k by omega] at this
set_option maxRecDepth 100000 in
set_option maxHeartbeats 6400000 in
theorem queueWaits_walk (w : World) (a : Int) (ha1 : -9223372036854775808 ≤ a) (ha2 : a ≤ 9223372036854775807) (b : Int) (hb1 : -9223372036854775808 ≤ b) (hb2 : b ≤ 9223372036854775807) :
    Calls Try.prog 19 #[.int .i64 a, .int .i64 b] w fun e w' => e = .returned (.bool true) ∧ Below w.heap.size w w' := by
  rcases Int.lt_trichotomy a b with h | rfl | h
  · have h' : ¬ b < a := by omega
    obtain ⟨X, HX⟩ : ∃ X, Hid (bk (a).toNat = X) := ⟨_, Lib.hid rfl⟩
    obtain ⟨Y, HY⟩ : ∃ Y, Hid (bk (b).toNat = Y) := ⟨_, Lib.hid rfl⟩
    have hX : 1000 ≤ X := by rw [← HX.out]; exact (bk_b _).1
    have hY : Y ≤ 64000 := by rw [← HY.out]; exact (bk_b _).2
    have hXY : X ≤ Y := by rw [← HX.out, ← HY.out]; exact bk_mono (by omega)
    by_cases c1 : a < 1
    · have c6 : a < 6 := by omega
      go_enter Try.func19, Try.ntmps19
      go_wp2_with fail
      refine (qawake_any _).mono ?_
      rintro e w1 ⟨rfl, hb1⟩
      go_wp2_with fail
      refine (back_any a _ ha2).mono ?_
      rintro e w2 ⟨rfl, rfl⟩
      rw [HX.out]
      go_wp2_with fail
      refine (back_any b _ hb2).mono ?_
      rintro e w3 ⟨rfl, rfl⟩
      rw [HY.out]
      go_wp2
      all_goals first
        | (go_ret; exact ⟨rfl, hb1⟩)
        | (exfalso; simp at *; omega)
    · have d1 : decide (a < 1) = false := decide_eq_false c1
      by_cases c6 : 6 < a
      · have d6 : decide (a < 6) = false := decide_eq_false (by omega)
        have HZ := Lib.hid (show bk a.toNat = 64000 from bk_big (by omega))
        go_enter Try.func19, Try.ntmps19
        go_wp2_with fail
        refine (qawake_any _).mono ?_
        rintro e w1 ⟨rfl, hb1⟩
        go_wp2_with fail
        refine (back_any a _ ha2).mono ?_
        rintro e w2 ⟨rfl, rfl⟩
        rw [HX.out]
        go_wp2_with fail
        refine (back_any b _ hb2).mono ?_
        rintro e w3 ⟨rfl, rfl⟩
        rw [HY.out]
        go_wp2_with fail
        refine (back_any a _ ha2).mono ?_
        rintro e w4 ⟨rfl, rfl⟩
        rw [HZ.out]
        go_wp2
        all_goals first
          | (go_ret; exact ⟨rfl, hb1⟩)
          | (exfalso; simp at *; omega)
      · have d6 : decide (6 < a) = false := decide_eq_false c6
        obtain ⟨Z, HZ⟩ : ∃ Z, Hid (bk a.toNat = Z) := ⟨_, Lib.hid rfl⟩
        obtain ⟨V, HV⟩ : ∃ V, Hid (bk (a - 1).toNat = V) := ⟨_, Lib.hid rfl⟩
        have hZV : Z = 2 * V := by rw [← HZ.out, ← HV.out, bk_two (by omega) (by omega), show (a - 1).toNat = a.toNat - 1 by omega]
        subst hZV
        have hV : V ≤ 64000 := by rw [← HV.out]; exact (bk_b _).2
        by_cases c66 : a < 6
        · skip
          go_enter Try.func19, Try.ntmps19
          go_wp2_with fail
          refine (qawake_any _).mono ?_
          rintro e w1 ⟨rfl, hb1⟩
          go_wp2_with fail
          refine (back_any a _ ha2).mono ?_
          rintro e w2 ⟨rfl, rfl⟩
          rw [HX.out]
          go_wp2_with fail
          refine (back_any b _ hb2).mono ?_
          rintro e w3 ⟨rfl, rfl⟩
          rw [HY.out]
          go_wp2_with fail
          refine (back_any a _ ha2).mono ?_
          rintro e w4 ⟨rfl, rfl⟩
          rw [HZ.out]
          go_wp2_with fail
          refine (back_any (a - 1) _ (by omega)).mono ?_
          rintro e w5 ⟨rfl, rfl⟩
          rw [HV.out]
          go_wp2
          all_goals first
            | (go_ret; exact ⟨rfl, hb1⟩)
            | (exfalso; simp at *; omega)
        · have d66 : decide (a < 6) = false := decide_eq_false c66
          have h64 : 2 * V = 64000 := by rw [← HZ.out]; exact bk_big (by omega)
          obtain rfl : V = 32000 := by omega
          go_enter Try.func19, Try.ntmps19
          go_wp2_with fail
          refine (qawake_any _).mono ?_
          rintro e w1 ⟨rfl, hb1⟩
          go_wp2_with fail
          refine (back_any a _ ha2).mono ?_
          rintro e w2 ⟨rfl, rfl⟩
          rw [HX.out]
          go_wp2_with fail
          refine (back_any b _ hb2).mono ?_
          rintro e w3 ⟨rfl, rfl⟩
          rw [HY.out]
          go_wp2_with fail
          refine (back_any a _ ha2).mono ?_
          rintro e w4 ⟨rfl, rfl⟩
          rw [HZ.out]
          go_wp2_with fail
          refine (back_any (a - 1) _ (by omega)).mono ?_
          rintro e w5 ⟨rfl, rfl⟩
          rw [HV.out]
          go_wp2_with fail
          refine (back_any a _ ha2).mono ?_
          rintro e w6 ⟨rfl, rfl⟩
          rw [HZ.out]
          go_wp2
          all_goals first
            | (go_ret; exact ⟨rfl, hb1⟩)
            | (exfalso; simp at *; omega)
  · skip
    obtain ⟨X, HX⟩ : ∃ X, Hid (bk (a).toNat = X) := ⟨_, Lib.hid rfl⟩
    obtain ⟨Y, HY⟩ : ∃ Y, Hid (bk (a).toNat = Y) := ⟨_, Lib.hid rfl⟩
    have hX : 1000 ≤ X := by rw [← HX.out]; exact (bk_b _).1
    have hY : Y ≤ 64000 := by rw [← HY.out]; exact (bk_b _).2
    have hXY : X ≤ Y := by rw [← HX.out, ← HY.out]; exact bk_mono (by omega)
    by_cases c1 : a < 1
    · have c6 : a < 6 := by omega
      go_enter Try.func19, Try.ntmps19
      go_wp2_with fail
      refine (qawake_any _).mono ?_
      rintro e w1 ⟨rfl, hb1⟩
      go_wp2_with fail
      refine (back_any a _ ha2).mono ?_
      rintro e w2 ⟨rfl, rfl⟩
      rw [HX.out]
      go_wp2_with fail
      refine (back_any a _ ha2).mono ?_
      rintro e w3 ⟨rfl, rfl⟩
      rw [HY.out]
      go_wp2
      all_goals first
        | (go_ret; exact ⟨rfl, hb1⟩)
        | (exfalso; simp at *; omega)
    · have d1 : decide (a < 1) = false := decide_eq_false c1
      by_cases c6 : 6 < a
      · have d6 : decide (a < 6) = false := decide_eq_false (by omega)
        have HZ := Lib.hid (show bk a.toNat = 64000 from bk_big (by omega))
        go_enter Try.func19, Try.ntmps19
        go_wp2_with fail
        refine (qawake_any _).mono ?_
        rintro e w1 ⟨rfl, hb1⟩
        go_wp2_with fail
        refine (back_any a _ ha2).mono ?_
        rintro e w2 ⟨rfl, rfl⟩
        rw [HX.out]
        go_wp2_with fail
        refine (back_any a _ ha2).mono ?_
        rintro e w3 ⟨rfl, rfl⟩
        rw [HY.out]
        go_wp2_with fail
        refine (back_any a _ ha2).mono ?_
        rintro e w4 ⟨rfl, rfl⟩
        rw [HZ.out]
        go_wp2
        all_goals first
          | (go_ret; exact ⟨rfl, hb1⟩)
          | (exfalso; simp at *; omega)
      · have d6 : decide (6 < a) = false := decide_eq_false c6
        obtain ⟨Z, HZ⟩ : ∃ Z, Hid (bk a.toNat = Z) := ⟨_, Lib.hid rfl⟩
        obtain ⟨V, HV⟩ : ∃ V, Hid (bk (a - 1).toNat = V) := ⟨_, Lib.hid rfl⟩
        have hZV : Z = 2 * V := by rw [← HZ.out, ← HV.out, bk_two (by omega) (by omega), show (a - 1).toNat = a.toNat - 1 by omega]
        subst hZV
        have hV : V ≤ 64000 := by rw [← HV.out]; exact (bk_b _).2
        by_cases c66 : a < 6
        · skip
          go_enter Try.func19, Try.ntmps19
          go_wp2_with fail
          refine (qawake_any _).mono ?_
          rintro e w1 ⟨rfl, hb1⟩
          go_wp2_with fail
          refine (back_any a _ ha2).mono ?_
          rintro e w2 ⟨rfl, rfl⟩
          rw [HX.out]
          go_wp2_with fail
          refine (back_any a _ ha2).mono ?_
          rintro e w3 ⟨rfl, rfl⟩
          rw [HY.out]
          go_wp2_with fail
          refine (back_any a _ ha2).mono ?_
          rintro e w4 ⟨rfl, rfl⟩
          rw [HZ.out]
          go_wp2_with fail
          refine (back_any (a - 1) _ (by omega)).mono ?_
          rintro e w5 ⟨rfl, rfl⟩
          rw [HV.out]
          go_wp2
          all_goals first
            | (go_ret; exact ⟨rfl, hb1⟩)
            | (exfalso; simp at *; omega)
        · have d66 : decide (a < 6) = false := decide_eq_false c66
          have h64 : 2 * V = 64000 := by rw [← HZ.out]; exact bk_big (by omega)
          obtain rfl : V = 32000 := by omega
          go_enter Try.func19, Try.ntmps19
          go_wp2_with fail
          refine (qawake_any _).mono ?_
          rintro e w1 ⟨rfl, hb1⟩
          go_wp2_with fail
          refine (back_any a _ ha2).mono ?_
          rintro e w2 ⟨rfl, rfl⟩
          rw [HX.out]
          go_wp2_with fail
          refine (back_any a _ ha2).mono ?_
          rintro e w3 ⟨rfl, rfl⟩
          rw [HY.out]
          go_wp2_with fail
          refine (back_any a _ ha2).mono ?_
          rintro e w4 ⟨rfl, rfl⟩
          rw [HZ.out]
          go_wp2_with fail
          refine (back_any (a - 1) _ (by omega)).mono ?_
          rintro e w5 ⟨rfl, rfl⟩
          rw [HV.out]
          go_wp2_with fail
          refine (back_any a _ ha2).mono ?_
          rintro e w6 ⟨rfl, rfl⟩
          rw [HZ.out]
          go_wp2
          all_goals first
            | (go_ret; exact ⟨rfl, hb1⟩)
            | (exfalso; simp at *; omega)
  · have h' : ¬ a < b := by omega
    obtain ⟨X, HX⟩ : ∃ X, Hid (bk (b).toNat = X) := ⟨_, Lib.hid rfl⟩
    obtain ⟨Y, HY⟩ : ∃ Y, Hid (bk (a).toNat = Y) := ⟨_, Lib.hid rfl⟩
    have hX : 1000 ≤ X := by rw [← HX.out]; exact (bk_b _).1
    have hY : Y ≤ 64000 := by rw [← HY.out]; exact (bk_b _).2
    have hXY : X ≤ Y := by rw [← HX.out, ← HY.out]; exact bk_mono (by omega)
    by_cases c1 : a < 1
    · have c6 : a < 6 := by omega
      go_enter Try.func19, Try.ntmps19
      go_wp2_with fail
      refine (qawake_any _).mono ?_
      rintro e w1 ⟨rfl, hb1⟩
      go_wp2_with fail
      refine (back_any b _ hb2).mono ?_
      rintro e w2 ⟨rfl, rfl⟩
      rw [HX.out]
      go_wp2_with fail
      refine (back_any a _ ha2).mono ?_
      rintro e w3 ⟨rfl, rfl⟩
      rw [HY.out]
      go_wp2
      all_goals first
        | (go_ret; exact ⟨rfl, hb1⟩)
        | (exfalso; simp at *; omega)
    · have d1 : decide (a < 1) = false := decide_eq_false c1
      by_cases c6 : 6 < a
      · have d6 : decide (a < 6) = false := decide_eq_false (by omega)
        have HZ := Lib.hid (show bk a.toNat = 64000 from bk_big (by omega))
        go_enter Try.func19, Try.ntmps19
        go_wp2_with fail
        refine (qawake_any _).mono ?_
        rintro e w1 ⟨rfl, hb1⟩
        go_wp2_with fail
        refine (back_any b _ hb2).mono ?_
        rintro e w2 ⟨rfl, rfl⟩
        rw [HX.out]
        go_wp2_with fail
        refine (back_any a _ ha2).mono ?_
        rintro e w3 ⟨rfl, rfl⟩
        rw [HY.out]
        go_wp2_with fail
        refine (back_any a _ ha2).mono ?_
        rintro e w4 ⟨rfl, rfl⟩
        rw [HZ.out]
        go_wp2
        all_goals first
          | (go_ret; exact ⟨rfl, hb1⟩)
          | (exfalso; simp at *; omega)
      · have d6 : decide (6 < a) = false := decide_eq_false c6
        obtain ⟨Z, HZ⟩ : ∃ Z, Hid (bk a.toNat = Z) := ⟨_, Lib.hid rfl⟩
        obtain ⟨V, HV⟩ : ∃ V, Hid (bk (a - 1).toNat = V) := ⟨_, Lib.hid rfl⟩
        have hZV : Z = 2 * V := by rw [← HZ.out, ← HV.out, bk_two (by omega) (by omega), show (a - 1).toNat = a.toNat - 1 by omega]
        subst hZV
        have hV : V ≤ 64000 := by rw [← HV.out]; exact (bk_b _).2
        by_cases c66 : a < 6
        · skip
          go_enter Try.func19, Try.ntmps19
          go_wp2_with fail
          refine (qawake_any _).mono ?_
          rintro e w1 ⟨rfl, hb1⟩
          go_wp2_with fail
          refine (back_any b _ hb2).mono ?_
          rintro e w2 ⟨rfl, rfl⟩
          rw [HX.out]
          go_wp2_with fail
          refine (back_any a _ ha2).mono ?_
          rintro e w3 ⟨rfl, rfl⟩
          rw [HY.out]
          go_wp2_with fail
          refine (back_any a _ ha2).mono ?_
          rintro e w4 ⟨rfl, rfl⟩
          rw [HZ.out]
          go_wp2_with fail
          refine (back_any (a - 1) _ (by omega)).mono ?_
          rintro e w5 ⟨rfl, rfl⟩
          rw [HV.out]
          go_wp2
          all_goals first
            | (go_ret; exact ⟨rfl, hb1⟩)
            | (exfalso; simp at *; omega)
        · have d66 : decide (a < 6) = false := decide_eq_false c66
          have h64 : 2 * V = 64000 := by rw [← HZ.out]; exact bk_big (by omega)
          obtain rfl : V = 32000 := by omega
          go_enter Try.func19, Try.ntmps19
          go_wp2_with fail
          refine (qawake_any _).mono ?_
          rintro e w1 ⟨rfl, hb1⟩
          go_wp2_with fail
          refine (back_any b _ hb2).mono ?_
          rintro e w2 ⟨rfl, rfl⟩
          rw [HX.out]
          go_wp2_with fail
          refine (back_any a _ ha2).mono ?_
          rintro e w3 ⟨rfl, rfl⟩
          rw [HY.out]
          go_wp2_with fail
          refine (back_any a _ ha2).mono ?_
          rintro e w4 ⟨rfl, rfl⟩
          rw [HZ.out]
          go_wp2_with fail
          refine (back_any (a - 1) _ (by omega)).mono ?_
          rintro e w5 ⟨rfl, rfl⟩
          rw [HV.out]
          go_wp2_with fail
          refine (back_any a _ ha2).mono ?_
          rintro e w6 ⟨rfl, rfl⟩
          rw [HZ.out]
          go_wp2
          all_goals first
            | (go_ret; exact ⟨rfl, hb1⟩)
            | (exfalso; simp at *; omega)
end Go.Proofs.Ytkkbncgnobaliaa
