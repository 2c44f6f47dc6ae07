/-
  The law CodecShort.
-/
import Derived.Test.YtkkbncgnobaliaaCodA
import Derived.Test.YtkkbncgnobaliaaFrmL2
namespace Go.Proofs.Ytkkbncgnobaliaa
open Go.RowKit
open CodP
set_option linter.unusedVariables false
set_option maxRecDepth 100000 in
set_option maxHeartbeats 6400000 in
theorem codecShort_walk (w : World) (n : Int) (hn1 : -9223372036854775808 ≤ n) (hn2 : n ≤ 9223372036854775807) (s : ByteArray) (hs63 : s.size ≤ maxLen) (lv : Value) (ol : IsPairs w lv) (cut : Int) (hc1 : -9223372036854775808 ≤ cut) (hc2 : cut ≤ 9223372036854775807) :
    Calls Try.prog 9 #[.int .i64 n, .string s, lv, .int .i64 cut] w fun e w' => e = .returned (.bool true) ∧ Below w.heap.size w w' := by
  obtain ⟨A, k, cap, L, rfl, hL, hcap, hm⟩ := ol
  have hk63 : k ≤ 9223372036854775807 := by omega
  have hs63 : s.size ≤ 9223372036854775807 := hs63
  have HL := Lib.hid hL; clear hL
  obtain ⟨m, hmask, hm'⟩ := and_mask cut 65535 (by omega)
  have hmask' : bits .and .i64 cut 65535 = (m : Int) := hmask
  clear hmask
  go_enter Try.func9, Try.ntmps9
  go_wp2_with fail
  refine (cawake_any _).mono ?_
  rintro e w1 ⟨rfl, hb1⟩
  by_cases h1 : 1000 < s.size
  · go_wp2
    go_ret
    exact ⟨rfl, hb1⟩
  have d1 : decide (1000 < s.size) = false := decide_eq_false h1
  go_wp2_with fail
  refine (few_lab A k cap L _ hk63 (HL.out.now hb1)).mono ?_
  rintro e w2 ⟨⟨q, rfl, hq⟩, hb2⟩
  have hB2 := hb1.trans (hb2.mono hb1.size)
  clear hb2 hq
  cases q with
  | false =>
    go_wp2
    go_ret
    exact ⟨rfl, hB2⟩
  | true =>
    by_cases h2 : n < 0
    · go_wp2
      go_ret
      exact ⟨rfl, hB2⟩
    have d2 : decide (n < 0) = false := decide_eq_false h2
    by_cases h3 : 1152921504606846976 < n
    · go_wp2
      go_ret
      exact ⟨rfl, hB2⟩
    have d3 : decide (1152921504606846976 < n) = false := decide_eq_false h3
    obtain ⟨a, rfl⟩ := Int.eq_ofNat_of_zero_le (show 0 ≤ n by omega)
    have ha : a ≤ 1152921504606846976 := by omega
    go_wp2_with fail
    refine (putU_any none 0 0 [] _ w2 (by omega) (Bs.nil_ _ _ _)).mono ?_
    rintro e w3 ⟨⟨v3, rfl, hown3⟩, hb3⟩
    rw [show putU [] ((a : Nat) : Int) = encU a by unfold putU; rw [if_pos ⟨by omega, by omega⟩]; simp] at hown3
    obtain ⟨A3, K3, c3, rfl, hs3, hk3, hcm3⟩ := hown3.bs
    have hcm3' : c3 ≤ 9223372036854775807 := hcm3
    have HLen3 := Lib.hid hs3.len
    have hK3 : 0 < K3 := by have := encU_pos a; have := HLen3.out; omega
    have hB3 := hB2.trans (hb3.mono hB2.size)
    have hs3 := Lib.hid hs3
    clear hown3 hb3 hcm3
    go_wp2_with fail
    refine (putT_any none 0 0 [] s w3 (by omega) hs63 (Bs.nil_ _ _ _)).mono ?_
    rintro e w4 ⟨⟨v4, rfl, hown4⟩, hb4⟩
    rw [show addT [] s = encU s.size ++ chs s by unfold addT; rw [if_pos (by omega)]; simp] at hown4
    obtain ⟨A4, K4, c4, rfl, hs4, hk4, hcm4⟩ := hown4.bs
    have hcm4' : c4 ≤ 9223372036854775807 := hcm4
    have HLen4 := Lib.hid hs4.len
    have hK4 : 0 < K4 := by have := encU_pos s.size; have := HLen4.out; rw [List.length_append] at this; omega
    have hB4 := hB3.trans (hb4.mono hB3.size)
    have hs4 := Lib.hid hs4
    have hs34 := Lib.hid (hs3.out.now hb4)
    clear hown4 hb4 hcm4 hs3
    go_wp2_with fail
    refine (putL_any none 0 0 [] A k cap L w4 (by omega) (by omega) (.inl ⟨rfl, rfl, rfl⟩) hk63 (Bs.nil_ _ _ _) (HL.out.now hB4)).mono ?_
    rintro e w5 ⟨⟨v5, rfl, hown5⟩, hb5⟩
    rw [List.nil_append] at hown5
    obtain ⟨A5, K5, c5, rfl, hs5, hk5, hcm5⟩ := hown5.bs
    have hcm5' : c5 ≤ 9223372036854775807 := hcm5
    have HLen5 := Lib.hid hs5.len
    have hK5 : 0 < K5 := by have := encU_pos (okLab L).length; have := HLen5.out; unfold labB at this; rw [List.length_append] at this; omega
    have hB5 := hB4.trans (hb5.mono hB4.size)
    have hs5 := Lib.hid hs5
    have hs35 := Lib.hid (hs34.out.now hb5)
    have hs45 := Lib.hid (hs4.out.now hb5)
    clear hown5 hb5 hcm5 hs34 hs4
    have z3 : ((K3 : Int) == 0) = false := beq_eq_false_iff_ne.2 (by omega)
    have z4 : ((K4 : Int) == 0) = false := beq_eq_false_iff_ne.2 (by omega)
    have z5 : ((K5 : Int) == 0) = false := beq_eq_false_iff_ne.2 (by omega)
    have y3 : K3 ≠ 0 := by omega
    have y4 : K4 ≠ 0 := by omega
    have y5 : K5 ≠ 0 := by omega
    obtain ⟨t3, ht3⟩ : ∃ t, m % K3 = t := ⟨_, rfl⟩
    obtain ⟨t4, ht4⟩ : ∃ t, m % K4 = t := ⟨_, rfl⟩
    obtain ⟨t5, ht5⟩ : ∃ t, m % K5 = t := ⟨_, rfl⟩
    have l3 : t3 < K3 := by rw [← ht3]; exact Nat.mod_lt _ hK3
    have l4 : t4 < K4 := by rw [← ht4]; exact Nat.mod_lt _ hK4
    have l5 : t5 < K5 := by rw [← ht5]; exact Nat.mod_lt _ hK5
    have m3 : (m : Int) % (K3 : Int) = (t3 : Int) := by rw [← ht3, Int.natCast_emod]
    have m4 : (m : Int) % (K4 : Int) = (t4 : Int) := by rw [← ht4, Int.natCast_emod]
    have m5 : (m : Int) % (K5 : Int) = (t5 : Int) := by rw [← ht5, Int.natCast_emod]
    have G3 := Lib.hid (show getU ((encU a).take t3) = .error 3 from getU_short ha (by rw [HLen3.out]; exact l3))
    have G4 := Lib.hid (show getT ((encU s.size ++ chs s).take t4) = .error 3 from getT_cut s (by omega) t4 (by rw [HLen4.out]; exact l4))
    have G5 := Lib.hid (show getL ((labB (okLab L)).take t5) = .error 3 from getL_cut (okLab L) (okLab_sane L) t5 (by rw [HLen5.out]; exact l5))
    have q3 : ∀ w, (Instr.slice 22 (.slice A3 K3 c3) none (some (.int .i64 (t3 : Int))) none).run Try.prog w = .ok (.slice A3 t3 c3) w := run_cut_hi Try.underlying22 1 sizeU8 A3 K3 c3 t3 (by omega)
    have q4 : ∀ w, (Instr.slice 22 (.slice A4 K4 c4) none (some (.int .i64 (t4 : Int))) none).run Try.prog w = .ok (.slice A4 t4 c4) w := run_cut_hi Try.underlying22 1 sizeU8 A4 K4 c4 t4 (by omega)
    have q5 : ∀ w, (Instr.slice 22 (.slice A5 K5 c5) none (some (.int .i64 (t5 : Int))) none).run Try.prog w = .ok (.slice A5 t5 c5) w := run_cut_hi Try.underlying22 1 sizeU8 A5 K5 c5 t5 (by omega)
    clear ht3 ht4 ht5
    go_wp2_with fail
    refine (getU_at _ A3 t3 c3 _ _ (Nat.le_refl _) (by omega) (by omega) hcm3' (hs35.out.hi (by omega))).mono ?_
    rintro e w6 ⟨hg6, hb6⟩
    rw [G3.out] at hg6
    obtain rfl := hg6
    have hs46 := Lib.hid (hs45.out.now hb6)
    have hs56 := Lib.hid (hs5.out.now hb6)
    have hB6 := hB5.trans (hb6.mono hB5.size)
    clear hb6 hs45 hs5
    go_wp2_with fail
    refine (getT_at _ A4 t4 c4 _ _ (Nat.le_refl _) (by omega) (by omega) hcm4' (hs46.out.hi (by omega))).mono ?_
    rintro e w7 ⟨hg7, hb7⟩
    rw [G4.out] at hg7
    obtain rfl := hg7
    have hs57 := Lib.hid (hs56.out.now hb7)
    have hB7 := hB6.trans (hb7.mono hB6.size)
    clear hb7 hs56
    go_wp2_with fail
    refine (getL_at _ A5 t5 c5 _ _ (Nat.le_refl _) (by omega) (by omega) hcm5' (hs57.out.hi (by omega))).mono ?_
    rintro e w8 ⟨hg8, hb8⟩
    rw [G5.out] at hg8
    obtain ⟨rfl, -⟩ := hg8
    have hB8 := hB7.trans (hb8.mono hB7.size)
    clear hb8
    go_wp2
    go_ret
    exact ⟨rfl, hB8⟩
end Go.Proofs.Ytkkbncgnobaliaa
