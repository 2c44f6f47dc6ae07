/-
  queues: awake.
-/
import Derived.Test.YtkkbncgnobaliaaQueH
import Derived.Test.YtkkbncgnobaliaaCodA
namespace Go.Proofs.Ytkkbncgnobaliaa
open Go.RowKit
open CodP
set_option linter.unusedVariables false
theorem prs_one (w : World) : Prs (w.alloc (.cells #[.string ⟨#[97]⟩, .string ⟨#[49]⟩] 100)) (w.alloc (.cells #[.string ⟨#[97]⟩, .string ⟨#[49]⟩] 100)).heap.size (some ⟨w.heap.size, 0, none⟩) 1 awL := by
  refine ⟨rfl, fun _ => ⟨w.heap.size, 0, rfl, by simp, fun i hi => ?_⟩, fun i hi => ?_⟩
  · obtain rfl : i = 0 := by omega
    exact ⟨(Blk.new w _ _).cell 0, (Blk.new w _ _).cell 1⟩
  · obtain rfl : i = 0 := by omega
    exact ⟨by decide, by decide⟩
def aw0 (A : Option Addr) : Nt := ⟨A, 1, 1, awL, true, 5, 0, 5⟩
def aw1' (A : Option Addr) : Nt := ⟨A, 1, 1, awL, true, 5, 1, 1005⟩
theorem aw_sane (A : Option Addr) : IsQ [aw0 A] 0 0 ∧ IsQ [aw1' A] 0 0 :=
  ⟨⟨by simp, by decide, by decide, okNs_iff.2 (by intro y hy; simp at hy; subst hy; exact ⟨awL_sane, by show timeB 5 = true; decide, by show timeB 5 = true; decide, by show (0 : Int) ≤ 0; decide, by show (0 : Int) < 8; decide⟩)⟩,
   ⟨by simp, by decide, by decide, okNs_iff.2 (by intro y hy; simp at hy; subst hy; exact ⟨awL_sane, by show timeB 5 = true; decide, by show timeB 1005 = true; decide, by show (0 : Int) ≤ 1; decide, by show (1 : Int) < 8; decide⟩)⟩⟩
theorem aw_push (A : Option Addr) : psNs (cNs [] 0 0) awL ⟨A, 1, 1, awL, true, near 5, 0, near 5⟩ = [aw0 A] ∧ psD (cNs [] 0 0) awL (cI [] 0 0 0) = 0 ∧ cI [] 0 0 0 = 0 := by
  rw [(c_of (saneQ_iff.1 nil_saneQ)).1, (c_of (saneQ_iff.1 nil_saneQ)).2.1]
  unfold psNs psD
  rw [awL_sane]
  exact ⟨rfl, rfl, rfl⟩
theorem aw_sent (A : Option Addr) : snNs (cNs [aw0 A] 0 0) false 5 = [aw1' A] ∧ cI [aw0 A] 0 0 0 = 0 ∧ snL (cNs [aw0 A] 0 0) false 5 0 = 0 := by
  have h := c_of (aw_sane A).1
  rw [h.1, h.2.1]
  exact ⟨rfl, rfl, rfl⟩
theorem aw_sent2 (A : Option Addr) : snNs (cNs [aw1' A] 0 0) true 1005 = [] ∧ cI [aw1' A] 0 0 0 = 0 ∧ snL (cNs [aw1' A] 0 0) true 1005 0 = 0 := by
  have h := c_of (aw_sane A).2
  rw [h.1, h.2.1]
  exact ⟨rfl, rfl, rfl⟩
theorem aw_rd (A : Option Addr) : rdN (cNs [aw1' A] 0 0) 1004 = default ∧ rdB (cNs [aw1' A] 0 0) 1004 = false ∧ rdN (cNs [aw1' A] 0 0) 1005 = aw1' A ∧ rdB (cNs [aw1' A] 0 0) 1005 = true := by
  have h := c_of (aw_sane A).2
  rw [h.1]
  exact ⟨rfl, rfl, rfl, rfl⟩
set_option maxRecDepth 100000 in
set_option maxHeartbeats 12800000 in
theorem qawake_any (w : World) : Calls Try.prog 47 #[] w fun e w' => e = .returned (.bool true) ∧ Below w.heap.size w w' := by
  obtain ⟨A, HA⟩ : ∃ A, Hid ((some ⟨w.heap.size, 0, none⟩ : Option Addr) = A) := ⟨_, Lib.hid rfl⟩
  have hP0 := prs_one w
  have hB0 : Below w.heap.size w (w.alloc (.cells #[.string ⟨#[97]⟩, .string ⟨#[49]⟩] 100)) := (Below.refl _ _).alloc (Nat.le_refl _) _
  have HP := Lib.hid hP0; clear hP0
  go_enter Try.func47, Try.ntmps47
  go_wp2_with fail
  refine (push_at _ 0 0 [] _ 1 1 awL true 5 _ (QV.nil_ _ _) HP.out (by omega) (by omega)).mono ?_
  rintro e w1 ⟨⟨v1, rfl, hq1⟩, hb1⟩
  rw [HA.out] at hq1
  rw [(aw_push A).1, (aw_push A).2.1, (aw_push A).2.2] at hq1
  have HP1 := Lib.hid (HP.out.now hb1)
  have hB1 := hB0.trans (hb1.mono hB0.size)
  obtain ⟨A1, n1, c1, rfl, -, -⟩ := hq1.out
  have HQ1 := Lib.hid hq1
  clear hq1 hb1 hB0
  have hB1a := hB1.alloc hB1.size (.cells #[.slice A1 n1 c1, .int .i64 0, .int .i64 0] 75)
  go_wp2_with fail
  refine (sent_at _ 0 0 [aw0 A] 5 false _ (HQ1.out.now ((Below.refl _ _).alloc (Nat.le_refl _) _))).mono ?_
  rintro e w2 ⟨⟨v2, rfl, hq2⟩, hb2⟩
  rw [(aw_sent A).1, (aw_sent A).2.1, (aw_sent A).2.2] at hq2
  have hB2 := hB1a.trans (hb2.mono hB1a.size)
  have HP2 := Lib.hid (HP1.out.now (((Below.refl _ _).alloc (Nat.le_refl _) _).trans (hb2.mono (by simp))))
  obtain ⟨A2, n2, c2, rfl, hn2, hc2, hc2'⟩ := hq2.out
  have HN2 := Lib.hid hn2
  have HQ2 := Lib.hid hq2
  clear hq2 hb2 hB1a hn2 HQ1 HP1
  have hB2a := hB2.alloc hB2.size (.cells #[.slice A2 n2 c2, .int .i64 0, .int .i64 0] 75)
  have hb2a : Below w2.heap.size w2 (w2.alloc (.cells #[.slice A2 n2 c2, .int .i64 0, .int .i64 0] 75)) := (Below.refl _ _).alloc (Nat.le_refl _) _
  have r0 := Blk.new w2 75 #[.slice A2 n2 c2, .int .i64 0, .int .i64 0]
  go_wp2_with fail
  refine (ready_at _ 0 0 [aw1' A] 1004 _ (HQ2.out.now hb2a)).mono ?_
  rintro e w3 ⟨rfl, hb3⟩
  rw [(aw_rd A).1, (aw_rd A).2.1]
  have hB3 := hB2a.trans (hb3.mono hB2a.size)
  have hb23 := hb2a.trans (hb3.mono hb2a.size)
  have r3 := r0.below hb3 r0.lt
  have x0 : w3.cell? ⟨w2.heap.size, 0, none⟩ = some (.slice A2 n2 c2) := r3.cell 0
  have x1 : w3.cell? ⟨w2.heap.size, 1, none⟩ = some (.int .i64 0) := r3.cell 1
  have x2 : w3.cell? ⟨w2.heap.size, 2, none⟩ = some (.int .i64 0) := r3.cell 2
  have hs3 : w2.heap.size < w3.heap.size := r3.lt
  clear hb3 r0
  simp only [show (default : Nt).val = .agg #[.slice none 0 0, .bool false, .int .i64 0, .int .i64 0, .int .i64 0] from rfl]
  have hb3a := hb23.alloc hb23.size (.cells #[.slice none 0 0, .bool false, .int .i64 0, .int .i64 0, .int .i64 0] 80)
  have r3a := r3.alloc (.cells #[.slice none 0 0, .bool false, .int .i64 0, .int .i64 0, .int .i64 0] 80)
  have hB3a := hB3.alloc hB3.size (.cells #[.slice none 0 0, .bool false, .int .i64 0, .int .i64 0, .int .i64 0] 80)
  go_wp2_with fail
  refine (ready_at _ 0 0 [aw1' A] 1005 _ (HQ2.out.now hb3a)).mono ?_
  rintro e w4 ⟨rfl, hb4⟩
  rw [(aw_rd A).2.2.1, (aw_rd A).2.2.2]
  have hB4 := hB3a.trans (hb4.mono hB3a.size)
  have hb24 := hb3a.trans (hb4.mono hb3a.size)
  have r4 := r3a.below hb4 r3a.lt
  clear hb4 r3 r3a x0 x1 x2 hb3a hB3a
  have x0 : w4.cell? ⟨w2.heap.size, 0, none⟩ = some (.slice A2 n2 c2) := r4.cell 0
  have x1 : w4.cell? ⟨w2.heap.size, 1, none⟩ = some (.int .i64 0) := r4.cell 1
  have x2 : w4.cell? ⟨w2.heap.size, 2, none⟩ = some (.int .i64 0) := r4.cell 2
  have hs4 : w2.heap.size < w4.heap.size := r4.lt
  simp only [show (aw1' A).val = .agg #[.slice A 1 1, .bool true, .int .i64 5, .int .i64 1, .int .i64 1005] from rfl]
  have hb4a := hb24.alloc hb24.size (.cells #[.slice A 1 1, .bool true, .int .i64 5, .int .i64 1, .int .i64 1005] 80)
  have r4a := r4.alloc (.cells #[.slice A 1 1, .bool true, .int .i64 5, .int .i64 1, .int .i64 1005] 80)
  have m4 := Blk.new w4 80 #[.slice A 1 1, .bool true, .int .i64 5, .int .i64 1, .int .i64 1005]
  have hB4a := hB4.alloc hB4.size (.cells #[.slice A 1 1, .bool true, .int .i64 5, .int .i64 1, .int .i64 1005] 80)
  go_wp2_with fail
  refine (sent_at _ 0 0 [aw1' A] 1005 true _ (HQ2.out.now hb4a)).mono ?_
  rintro e w5 ⟨⟨v5, rfl, hq5⟩, hb5⟩
  rw [(aw_sent2 A).1, (aw_sent2 A).2.1, (aw_sent2 A).2.2] at hq5
  have hB5 := hB4a.trans (hb5.mono hB4a.size)
  have hb25 := hb4a.trans (hb5.mono hb4a.size)
  have r5 := r4a.below hb5 r4a.lt
  have m5 := (m4.below hb5 m4.lt)
  obtain ⟨A5, n5, c5, rfl, hn5, -, -⟩ := hq5.out
  obtain rfl : n5 = 0 := hn5.len.symm
  clear hb5 r4 r4a m4 x0 x1 x2 hb4a hB4a hq5 hn5 hb23 hb24 hB3 hB4
  have hb5a := hb25.alloc hb25.size (.cells #[.slice A5 0 c5, .int .i64 0, .int .i64 0] 75)
  have r5a := r5.alloc (.cells #[.slice A5 0 c5, .int .i64 0, .int .i64 0] 75)
  have m5a := m5.alloc (.cells #[.slice A5 0 c5, .int .i64 0, .int .i64 0] 75)
  have s5 := Blk.new w5 75 #[.slice A5 0 c5, .int .i64 0, .int .i64 0]
  have hB5a := hB5.alloc hB5.size (.cells #[.slice A5 0 c5, .int .i64 0, .int .i64 0] 75)
  have y0 : w5.cell? ⟨w4.heap.size, 0, none⟩ = some (.slice A 1 1) := m5.cell 0
  have y1 : w5.cell? ⟨w4.heap.size, 1, none⟩ = some (.bool true) := m5.cell 1
  have y2 : w5.cell? ⟨w4.heap.size, 2, none⟩ = some (.int .i64 5) := m5.cell 2
  have y3 : w5.cell? ⟨w4.heap.size, 3, none⟩ = some (.int .i64 1) := m5.cell 3
  have y4 : w5.cell? ⟨w4.heap.size, 4, none⟩ = some (.int .i64 1005) := m5.cell 4
  have hs5 : w4.heap.size < w5.heap.size := m5.lt
  go_wp2_with fail
  refine (qput_any (aw1' A) _ (by have := HN2.out.rn 0 (by rw [← HN2.out.len]; simp); exact this.now hb5a)).mono ?_
  rintro e w6 ⟨⟨v6, rfl, hown6⟩, hb6⟩
  obtain ⟨A6, n6, c6, rfl, hs6, hc6, hm6⟩ := hown6.bs
  have hm6' : c6 ≤ 9223372036854775807 := hm6
  have hs6 : Bs w6 w6.heap.size A6 n6 (putN awL true ((5 : Nat) : Int)) := hs6
  have hB6 := hB5a.trans (hb6.mono hB5a.size)
  have hb26 := hb5a.trans (hb6.mono hb5a.size)
  have r6 := r5a.below hb6 r5a.lt
  have m6 := m5a.below hb6 m5a.lt
  have s6 := s5.below hb6 s5.lt
  clear hb6 hown6 r5 r5a m5 m5a s5 y0 y1 y2 y3 y4 hm6
  go_wp2_with fail
  refine (qget_any A6 n6 c6 _ _ (by omega) hc6 hm6' hs6).mono ?_
  rintro e w7 ⟨hg7, hb7⟩
  rw [get_put awL true 5 awL_sane (by decide)] at hg7
  obtain ⟨A7, n7, c7, rfl, hl7, hc7, hc7'⟩ := hg7
  have hB7 := hB6.trans (hb7.mono hB6.size)
  have hb27 := hb26.trans (hb7.mono hb26.size)
  have r7 := r6.below hb7 r6.lt
  have m7 := m6.below hb7 m6.lt
  have s7 := s6.below hb7 s6.lt
  have hl7 := Lib.hid hl7
  clear hb7 r6 m6 s6 hs6 hb26 hB6
  have x0 : w7.cell? ⟨w2.heap.size, 0, none⟩ = some (.slice A2 n2 c2) := r7.cell 0
  have x1 : w7.cell? ⟨w2.heap.size, 1, none⟩ = some (.int .i64 0) := r7.cell 1
  have x2 : w7.cell? ⟨w2.heap.size, 2, none⟩ = some (.int .i64 0) := r7.cell 2
  have y3 : w7.cell? ⟨w4.heap.size, 3, none⟩ = some (.int .i64 1) := m7.cell 3
  have z0 : w7.cell? ⟨w5.heap.size, 0, none⟩ = some (.slice A5 0 c5) := s7.cell 0
  have HP7 := Lib.hid (HP2.out.now hb27)
  have HN7 := Lib.hid (HN2.out.now hb27)
  clear r7 m7 s7 hb25 hb5a hB5 hB5a hB2 hB2a hb2a
  go_wp2_with fail
  refine (back_any 0 _ (by omega)).mono ?_
  rintro e w8 ⟨rfl, rfl⟩
  rw [show ((bk (0 : Int).toNat : Nat) : Int) = 1000 from rfl]
  go_wp2_with fail
  refine (back_any 6 _ (by omega)).mono ?_
  rintro e w9 ⟨rfl, rfl⟩
  rw [show ((bk (6 : Int).toNat : Nat) : Int) = 64000 by rw [show (6 : Int).toNat = 6 + 0 from rfl, bk6]; rfl]
  go_wp2_with fail
  refine (back_any 99 _ (by omega)).mono ?_
  rintro e wa ⟨rfl, rfl⟩
  rw [show ((bk (99 : Int).toNat : Nat) : Int) = 64000 by rw [show (99 : Int).toNat = 6 + 93 from rfl, bk6]; rfl]
  go_wp2_with fail
  refine (qsane_any A2 n2 c2 0 0 [aw1' A] _ (by omega) HN7.out).mono ?_
  rintro e wb ⟨rfl, hbb⟩
  rw [saneQ_iff.2 (aw_sane A).2]
  have hBb := hB7.trans (hbb.mono hB7.size)
  have HPb := Lib.hid (HP7.out.now hbb)
  have hlb := Lib.hid (hl7.out.now hbb)
  clear hbb x0 x1 x2 y3 z0
  go_wp2_with fail
  refine (same_lab A7 n7 c7 awL _ 1 1 awL _ (by omega) (by omega) hlb.out HPb.out).mono ?_
  rintro e wc ⟨⟨q, rfl, hq⟩, hbc⟩
  obtain rfl := hq rfl
  go_wp2
  go_ret
  exact ⟨rfl, hBb.trans (hbc.mono hBb.size)⟩
end Go.Proofs.Ytkkbncgnobaliaa
