/-
  The law CodecSize.
-/
import Derived.Test.YtkkbncgnobaliaaCodA
namespace Go.Proofs.Ytkkbncgnobaliaa
open Go.RowKit
open CodP
set_option linter.unusedVariables false
theorem encU_mono : ∀ (n m : Nat), m ≤ n → (encU m).length ≤ (encU n).length := by
  intro n
  induction n using Nat.strongRecOn with
  | ind n ih =>
    intro m h
    by_cases hn : n < 128
    · rw [encU_lt hn, encU_lt (show m < 128 by omega)]; simp
    · rw [encU_ge (n := n) (by omega)]
      by_cases hm : m < 128
      · rw [encU_lt hm]; simp
      · rw [encU_ge (n := m) (by omega)]
        simp only [List.length_cons]
        have := ih (n / 128) (by omega) (m / 128) (by omega)
        omega
theorem len_up {n : Nat} (h : 128 ≤ n) : (encU n).length = (encU (n / 128)).length + 1 := by rw [encU_ge (n := n) (by omega)]; simp
theorem len_one {n : Nat} (h : n < 128) : (encU n).length = 1 := by rw [encU_lt h]; rfl
theorem putU_len (n : Nat) (w : World) (hn : n ≤ 1152921504606846976) : Calls Try.prog 34 #[.slice none 0 0, .int .i64 (n : Int)] w fun e w' => (∃ A cap, e = .returned (.slice A (encU n).length cap)) ∧ Below w.heap.size w w' := by
  refine (putU_any none 0 0 [] (n : Int) w (by omega) (Bs.nil_ _ _ _)).mono ?_
  rintro e w1 ⟨⟨v, rfl, hown⟩, hb⟩
  obtain ⟨A, k, c, rfl, hs, -, -⟩ := hown.bs
  refine ⟨⟨A, c, ?_⟩, hb⟩
  have := hs.len
  unfold putU at this
  rw [if_pos (by omega)] at this
  simp at this
  rw [this]
theorem putU_len0 (n : Int) (w : World) (hn : n < 0) : Calls Try.prog 34 #[.slice none 0 0, .int .i64 n] w fun e w' => (∃ A cap, e = .returned (.slice A 0 cap)) ∧ Below w.heap.size w w' := by
  refine (putU_any none 0 0 [] n w (by omega) (Bs.nil_ _ _ _)).mono ?_
  rintro e w1 ⟨⟨v, rfl, hown⟩, hb⟩
  obtain ⟨A, k, c, rfl, hs, -, -⟩ := hown.bs
  refine ⟨⟨A, c, ?_⟩, hb⟩
  have := hs.len
  unfold putU at this
  rw [if_neg (by omega)] at this
  simp at this
  rw [this]
set_option maxRecDepth 100000 in
set_option maxHeartbeats 6400000 in
theorem codecSize_walk (w : World) (n : Int) (hn1 : -9223372036854775808 ≤ n) (hn2 : n ≤ 9223372036854775807) (m : Int) (hm1 : -9223372036854775808 ≤ m) (hm2 : m ≤ 9223372036854775807) :
    Calls Try.prog 10 #[.int .i64 n, .int .i64 m] w fun e w' => e = .returned (.bool true) ∧ Below w.heap.size w w' := by
  by_cases hg : n < 0 ∨ 1152921504606846976 < n ∨ m < 0 ∨ 1152921504606846976 < m
  · go_enter Try.func10, Try.ntmps10
    go_wp2_with fail
    refine (cawake_any _).mono ?_
    rintro e w1 ⟨rfl, hb1⟩
    rcases hg with h | h | h | h
    · go_wp2
      go_ret
      exact ⟨rfl, hb1⟩
    all_goals
      go_wp2
      all_goals first
        | (go_ret; exact ⟨rfl, hb1⟩)
        | (exfalso; simp at *; omega)
  · obtain ⟨a, rfl⟩ := Int.eq_ofNat_of_zero_le (show 0 ≤ n by omega)
    obtain ⟨b, rfl⟩ := Int.eq_ofNat_of_zero_le (show 0 ≤ m by omega)
    have ha : a ≤ 1152921504606846976 := by omega
    have hb : b ≤ 1152921504606846976 := by omega
    clear hg hn1 hn2 hm1 hm2
    have d1 : decide (1152921504606846976 < a) = false := decide_eq_false (by omega)
    have d2 : decide (1152921504606846976 < b) = false := decide_eq_false (by omega)
    rcases Nat.lt_trichotomy a b with h | rfl | h
    · have hlh := encU_mono b a (by omega)
      have hx1 : decide (b < a) = false := decide_eq_false (by omega)
      have hx2 : decide (b ≤ a) = false := decide_eq_false (by omega)
      go_enter Try.func10, Try.ntmps10
      go_wp2_with fail
      refine (cawake_any _).mono ?_
      rintro e w1 ⟨rfl, hb1⟩
      go_wp2_with fail
      refine (putU_len _ _ (by assumption)).mono ?_
      rintro e w2 ⟨⟨A2, c2, rfl⟩, hb2⟩
      go_wp2_with fail
      refine (putU_len _ _ (by assumption)).mono ?_
      rintro e w3 ⟨⟨A3, c3, rfl⟩, hb3⟩
      have hB3 := (hb1.trans (hb2.mono hb1.size)).trans (hb3.mono (by have := hb1.size; have := hb2.size; omega))
      clear hb2 hb3 hb1
      obtain ⟨na, hna⟩ : ∃ x, (encU a).length = x := ⟨_, rfl⟩
      obtain ⟨nb, hnb⟩ : ∃ x, (encU b).length = x := ⟨_, rfl⟩
      rw [hna, hnb] at hlh
      have HNA := Lib.hid hna
      go_wp2
      go_loopw [8, 9] (fun k x wr => ∃ (j y : Nat), k = .int .i64 (j : Int) ∧ x = .int .i64 (y : Int) ∧ Hid (j + (encU y).length = na + 1) ∧ y ≤ a ∧ wr = w3) (fun _ x _ => (intOf x).toNat)
      case atStart => exact ⟨1, a, rfl, rfl, Lib.hid (by rw [HNA.out]; omega), Nat.le_refl _, rfl⟩
      case round =>
        obtain ⟨j, y, rfl, rfl, hj, hya, rfl⟩ := hrel
        by_cases hy : 128 ≤ y
        · have HJ := Lib.hid (show (j + 1) + (encU (y / 128)).length = na + 1 by have := len_up hy; have := hj.out; omega)
          have hj9 : j ≤ 100 := by have h1 := hj.out; have h2 := encU_length_le 8 a (pow_le a ha); have h3 := HNA.out; omega
          go_wp2
          go_roundw
          case rel => exact ⟨j + 1, y / 128, by go_num, by go_num, HJ, by omega, trivial⟩
          case measure => simp [intOf]; omega
        · have dy : decide (128 ≤ y) = false := decide_eq_false hy
          have hjn : j = na := by have := len_one (show y < 128 by omega); have := hj.out; omega
          subst hjn
          go_wp2_with fail
          refine (putU_len a _ ha).mono ?_
          rintro e w4 ⟨⟨A4, c4, rfl⟩, hb4⟩
          rw [HNA.out]
          go_wp2_with fail
          refine (putU_len0 (-1 - (a : Int)) _ (by omega)).mono ?_
          rintro e w5 ⟨⟨A5, c5, rfl⟩, hb5⟩
          go_wp2
          go_ret
          exact ⟨rfl, (hB3.trans (hb4.mono hB3.size)).trans (hb5.mono (by have := hB3.size; have := hb4.size; omega))⟩
    · have hlh := encU_mono a a (by omega)
      go_enter Try.func10, Try.ntmps10
      go_wp2_with fail
      refine (cawake_any _).mono ?_
      rintro e w1 ⟨rfl, hb1⟩
      go_wp2_with fail
      refine (putU_len _ _ (by assumption)).mono ?_
      rintro e w2 ⟨⟨A2, c2, rfl⟩, hb2⟩
      go_wp2_with fail
      refine (putU_len _ _ (by assumption)).mono ?_
      rintro e w3 ⟨⟨A3, c3, rfl⟩, hb3⟩
      have hB3 := (hb1.trans (hb2.mono hb1.size)).trans (hb3.mono (by have := hb1.size; have := hb2.size; omega))
      clear hb2 hb3 hb1
      obtain ⟨na, hna⟩ : ∃ x, (encU a).length = x := ⟨_, rfl⟩
      obtain ⟨nb, hnb⟩ : ∃ x, (encU a).length = x := ⟨_, rfl⟩
      clear hlh hnb
      have HNA := Lib.hid hna
      go_wp2
      go_loopw [8, 9] (fun k x wr => ∃ (j y : Nat), k = .int .i64 (j : Int) ∧ x = .int .i64 (y : Int) ∧ Hid (j + (encU y).length = na + 1) ∧ y ≤ a ∧ wr = w3) (fun _ x _ => (intOf x).toNat)
      case atStart => exact ⟨1, a, rfl, rfl, Lib.hid (by rw [HNA.out]; omega), Nat.le_refl _, rfl⟩
      case round =>
        obtain ⟨j, y, rfl, rfl, hj, hya, rfl⟩ := hrel
        by_cases hy : 128 ≤ y
        · have HJ := Lib.hid (show (j + 1) + (encU (y / 128)).length = na + 1 by have := len_up hy; have := hj.out; omega)
          have hj9 : j ≤ 100 := by have h1 := hj.out; have h2 := encU_length_le 8 a (pow_le a ha); have h3 := HNA.out; omega
          go_wp2
          go_roundw
          case rel => exact ⟨j + 1, y / 128, by go_num, by go_num, HJ, by omega, trivial⟩
          case measure => simp [intOf]; omega
        · have dy : decide (128 ≤ y) = false := decide_eq_false hy
          have hjn : j = na := by have := len_one (show y < 128 by omega); have := hj.out; omega
          subst hjn
          go_wp2_with fail
          refine (putU_len a _ ha).mono ?_
          rintro e w4 ⟨⟨A4, c4, rfl⟩, hb4⟩
          rw [HNA.out]
          go_wp2_with fail
          refine (putU_len0 (-1 - (a : Int)) _ (by omega)).mono ?_
          rintro e w5 ⟨⟨A5, c5, rfl⟩, hb5⟩
          go_wp2
          go_ret
          exact ⟨rfl, (hB3.trans (hb4.mono hB3.size)).trans (hb5.mono (by have := hB3.size; have := hb4.size; omega))⟩
    · have hlh := encU_mono a b (by omega)
      have hx1 : decide (a < b) = false := decide_eq_false (by omega)
      have hx2 : decide (a ≤ b) = false := decide_eq_false (by omega)
      go_enter Try.func10, Try.ntmps10
      go_wp2_with fail
      refine (cawake_any _).mono ?_
      rintro e w1 ⟨rfl, hb1⟩
      go_wp2_with fail
      refine (putU_len _ _ (by assumption)).mono ?_
      rintro e w2 ⟨⟨A2, c2, rfl⟩, hb2⟩
      go_wp2_with fail
      refine (putU_len _ _ (by assumption)).mono ?_
      rintro e w3 ⟨⟨A3, c3, rfl⟩, hb3⟩
      have hB3 := (hb1.trans (hb2.mono hb1.size)).trans (hb3.mono (by have := hb1.size; have := hb2.size; omega))
      clear hb2 hb3 hb1
      obtain ⟨na, hna⟩ : ∃ x, (encU a).length = x := ⟨_, rfl⟩
      obtain ⟨nb, hnb⟩ : ∃ x, (encU b).length = x := ⟨_, rfl⟩
      rw [hna, hnb] at hlh
      have HNA := Lib.hid hna
      go_wp2
      go_loopw [8, 9] (fun k x wr => ∃ (j y : Nat), k = .int .i64 (j : Int) ∧ x = .int .i64 (y : Int) ∧ Hid (j + (encU y).length = na + 1) ∧ y ≤ a ∧ wr = w3) (fun _ x _ => (intOf x).toNat)
      case atStart => exact ⟨1, a, rfl, rfl, Lib.hid (by rw [HNA.out]; omega), Nat.le_refl _, rfl⟩
      case round =>
        obtain ⟨j, y, rfl, rfl, hj, hya, rfl⟩ := hrel
        by_cases hy : 128 ≤ y
        · have HJ := Lib.hid (show (j + 1) + (encU (y / 128)).length = na + 1 by have := len_up hy; have := hj.out; omega)
          have hj9 : j ≤ 100 := by have h1 := hj.out; have h2 := encU_length_le 8 a (pow_le a ha); have h3 := HNA.out; omega
          go_wp2
          go_roundw
          case rel => exact ⟨j + 1, y / 128, by go_num, by go_num, HJ, by omega, trivial⟩
          case measure => simp [intOf]; omega
        · have dy : decide (128 ≤ y) = false := decide_eq_false hy
          have hjn : j = na := by have := len_one (show y < 128 by omega); have := hj.out; omega
          subst hjn
          go_wp2_with fail
          refine (putU_len a _ ha).mono ?_
          rintro e w4 ⟨⟨A4, c4, rfl⟩, hb4⟩
          rw [HNA.out]
          go_wp2_with fail
          refine (putU_len0 (-1 - (a : Int)) _ (by omega)).mono ?_
          rintro e w5 ⟨⟨A5, c5, rfl⟩, hb5⟩
          go_wp2
          go_ret
          exact ⟨rfl, (hB3.trans (hb4.mono hB3.size)).trans (hb5.mono (by have := hB3.size; have := hb4.size; omega))⟩
end Go.Proofs.Ytkkbncgnobaliaa
