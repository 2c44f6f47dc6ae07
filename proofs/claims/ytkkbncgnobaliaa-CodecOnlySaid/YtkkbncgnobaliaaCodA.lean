/-
  codec: the document's examples.
-/
import Derived.Test.YtkkbncgnobaliaaCodB
namespace Go.Proofs.Ytkkbncgnobaliaa
open Go.RowKit
open CodP
set_option linter.unusedVariables false
theorem aw1 : getU [172, 2, 7] = .ok (300, [7]) := by rfl
theorem encU1 : encU 1 = [1] := by rw [encU_lt (by omega)]; rfl
theorem encU2 : encU 2 = [2] := by rw [encU_lt (by omega)]; rfl
theorem encU300 : encU 300 = [172, 2] := by rw [encU_ge (n := 300) (by omega), encU_lt (by omega)]; rfl
theorem aw2 : putI [] (-1) = [1] := by
  rw [putI, if_pos (by omega)]
  exact encU1
theorem aw3 : getI [1] = .ok (-1, []) := by rfl
theorem aw4 : getT [2, 97, 98] = .ok ([97, 98], []) := by rfl
theorem aw5 : getU [128, 0] = .error 1 := by rfl
theorem aw6 : putU [] 300 = [172, 2] := by
  rw [putU, if_pos (by omega)]
  exact encU300
theorem aw7 : addT [] ⟨#[97, 98]⟩ = [2, 97, 98] := by
  rw [addT, if_pos (by decide)]
  show [] ++ encU 2 ++ _ = _
  rw [encU2]; rfl
def awL : Lab := [(⟨#[97]⟩, ⟨#[49]⟩)]
theorem awL_sane : saneL awL = true := one_sane
set_option maxRecDepth 100000 in
set_option maxHeartbeats 12800000 in
theorem cawake_any (w : World) : Calls Try.prog 28 #[] w fun e w' => e = .returned (.bool true) ∧ Below w.heap.size w w' := by
  go_enter Try.func28, Try.ntmps28
  have b1 := Lib.hid (Bs.fresh w 5 #[.int .u8 172, .int .u8 2, .int .u8 7] (0, 0) [172, 2, 7] 3 rfl rfl)
  go_wp2_with fail
  refine (getU_any _ 3 3 [172, 2, 7] _ (by omega) (by omega) (by omega) b1.out).mono ?_
  rintro e w1 ⟨rfl, hb1⟩
  rw [aw1]
  simp only [gotU]
  have hB1 : Below w.heap.size w w1 := ((Below.refl w.heap.size w).alloc (Nat.le_refl _) _).trans (hb1.mono (by simp))
  clear b1 hb1
  go_wp2_with fail
  refine (putI_any none 0 0 [] (-1) _ (by omega) (Bs.nil_ _ _ _)).mono ?_
  rintro e w2 ⟨⟨v2, rfl, hown2⟩, hb2⟩
  rw [aw2] at hown2
  obtain ⟨A2, n2, c2, rfl, hs2, hnc2, hcm2⟩ := hown2.bs
  obtain rfl : n2 = 1 := hs2.len.symm
  clear hown2
  have hB2 := hB1.trans (hb2.mono hB1.size)
  clear hb2
  have hs2 := Lib.hid hs2
  go_wp2_with fail
  refine (getI_any A2 1 c2 [1] _ (by omega) hnc2 hcm2 hs2.out).mono ?_
  rintro e w3 ⟨rfl, hb3⟩
  rw [aw3]
  simp only [gotI]
  have hB3 := hB2.trans (hb3.mono hB2.size)
  clear hb3 hs2
  have b4 := Lib.hid (Bs.fresh w3 5 #[.int .u8 2, .int .u8 97, .int .u8 98] (0, 0) [2, 97, 98] 3 rfl rfl)
  go_wp2_with fail
  refine (getT_at _ _ 3 3 [2, 97, 98] _ (Nat.le_refl _) (by omega) (by omega) (by omega) b4.out).mono ?_
  rintro e w4 ⟨hg4, hb4⟩
  rw [aw4] at hg4
  obtain ⟨A4, n4, c4, rfl, hs4, -, -⟩ := hg4
  have hB4 : Below w.heap.size w w4 := (hB3.alloc hB3.size _).trans (hb4.mono (by have := hB3.size; simp; omega))
  clear b4 hb4 hs4
  have b5 := Lib.hid (Bs.fresh w4 5 #[.int .u8 128, .int .u8 0] (0, 0) [128, 0] 2 rfl rfl)
  go_wp2_with fail
  refine (getU_any _ 2 2 [128, 0] _ (by omega) (by omega) (by omega) b5.out).mono ?_
  rintro e w5 ⟨rfl, hb5⟩
  rw [aw5]
  simp only [gotU]
  have hB5 : Below w.heap.size w w5 := (hB4.alloc hB4.size _).trans (hb5.mono (by have := hB4.size; simp; omega))
  clear b5 hb5
  have b6 : Prs (w5.alloc (.cells #[.string ⟨#[97]⟩, .string ⟨#[49]⟩] 100)) (w5.alloc (.cells #[.string ⟨#[97]⟩, .string ⟨#[49]⟩] 100)).heap.size (some ⟨w5.heap.size, 0, none⟩) 1 awL := by
    have hbk := Blk.new w5 100 #[.string ⟨#[97]⟩, .string ⟨#[49]⟩]
    refine ⟨rfl, fun _ => ⟨w5.heap.size, 0, rfl, by simp, fun i hi => ?_⟩, fun i hi => ?_⟩
    · obtain rfl : i = 0 := by omega
      exact ⟨hbk.cell 0, hbk.cell 1⟩
    · obtain rfl : i = 0 := by omega
      exact ⟨by decide, by decide⟩
  have b6 := Lib.hid b6
  have hB6 := hB5.alloc hB5.size (.cells #[.string ⟨#[97]⟩, .string ⟨#[49]⟩] 100)
  go_wp2_with fail
  refine (putL_any none 0 0 [] _ 1 1 awL _ (by omega) (by omega) (.inl ⟨rfl, rfl, rfl⟩) (by omega) (Bs.nil_ _ _ _) b6.out).mono ?_
  rintro e w7 ⟨⟨v7, rfl, hown7⟩, hb7⟩
  have hok : okLab awL = awL := by unfold okLab; rw [awL_sane]; rfl
  rw [hok, List.nil_append] at hown7
  obtain ⟨A7, n7, c7, rfl, hs7, hnc7, hcm7⟩ := hown7.bs
  have hB7 := hB6.trans (hb7.mono hB6.size)
  have b7 := Lib.hid (b6.out.now hb7)
  have hs7 := Lib.hid hs7
  have hcm7' : c7 ≤ 9223372036854775807 := hcm7
  clear b6 hb7 hown7
  go_wp2_with fail
  refine (getL_at _ A7 n7 c7 (labB awL) _ (Nat.le_refl _) (by omega) hnc7 hcm7' hs7.out).mono ?_
  rintro e w8 ⟨hg8, hb8⟩
  rw [show getL (labB awL) = .ok (awL, []) by have := getL_put awL [] awL_sane; rwa [List.append_nil] at this] at hg8
  obtain ⟨A8, n8, c8, A9, n9, c9, rfl, hp8, hnc8, hcm8, h168, hs9, -, -⟩ := hg8
  have hB8 := hB7.trans (hb8.mono hB7.size)
  have b8 := Lib.hid (b7.out.now hb8)
  have hp8 := Lib.hid hp8
  clear b7 hb8 hs7 hs9
  go_wp2_with fail
  refine (putU_any none 0 0 [] 300 _ (by omega) (Bs.nil_ _ _ _)).mono ?_
  rintro e w9 ⟨⟨v9, rfl, hown9⟩, hb9⟩
  rw [aw6] at hown9
  obtain ⟨Aa, na, ca, rfl, hsa, -, -⟩ := hown9.bs
  have st1 : ∀ W, Below w9.heap.size w9 W → (convert 22 9 (.slice Aa na ca)).run Try.prog W = .ok (.string ⟨#[172, 2]⟩) W := fun W h => run_str W ca (hsa.now h)
  have st1' := st1 w9 (Below.refl _ _)
  have hB9 := hB8.trans (hb9.mono hB8.size)
  have b9 := Lib.hid (b8.out.now hb9)
  have hp9 := Lib.hid (hp8.out.now hb9)
  clear hown9 hsa hb9 b8 hp8 st1
  go_wp2_with fail
  refine (putI_any none 0 0 [] (-1) _ (by omega) (Bs.nil_ _ _ _)).mono ?_
  rintro e wa ⟨⟨va, rfl, howna⟩, hba⟩
  rw [aw2] at howna
  obtain ⟨Ab, nb, cb, rfl, hsb, -, -⟩ := howna.bs
  have st2 : (convert 22 9 (.slice Ab nb cb)).run Try.prog wa = .ok (.string ⟨#[1]⟩) wa := run_str wa cb hsb
  have hBa := hB9.trans (hba.mono hB9.size)
  have ba := Lib.hid (b9.out.now hba)
  have hpa := Lib.hid (hp9.out.now hba)
  clear howna hsb hba b9 hp9 st1'
  go_wp2_with fail
  refine (putT_any none 0 0 [] ⟨#[97, 98]⟩ _ (by omega) (by decide) (Bs.nil_ _ _ _)).mono ?_
  rintro e wb ⟨⟨vb, rfl, hownb⟩, hbb⟩
  rw [aw7] at hownb
  obtain ⟨Ac, nc, cc, rfl, hsc, -, -⟩ := hownb.bs
  have st3 : (convert 22 9 (.slice Ac nc cc)).run Try.prog wb = .ok (.string ⟨#[2, 97, 98]⟩) wb := run_str wb cc hsc
  have hBb := hBa.trans (hbb.mono hBa.size)
  have bb := Lib.hid (ba.out.now hbb)
  have hpb := Lib.hid (hpa.out.now hbb)
  clear hownb hsc hbb ba hpa st2
  go_wp2_with fail
  refine (same_lab _ 1 1 awL A8 n8 c8 awL _ (by omega) (by omega) bb.out hpb.out).mono ?_
  rintro e wc ⟨⟨q, rfl, hq⟩, hbc⟩
  obtain rfl := hq rfl
  go_wp2
  go_ret
  exact ⟨rfl, hBb.trans (hbc.mono hBb.size)⟩
end Go.Proofs.Ytkkbncgnobaliaa
