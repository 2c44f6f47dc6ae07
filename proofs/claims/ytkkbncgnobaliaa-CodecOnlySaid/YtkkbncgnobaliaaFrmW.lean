/-
  THE LAWS' awake (package watchtowerlaw06) returns true.
-/
import Derived.Test.YtkkbncgnobaliaaFrmA
import Derived.Lib.SlBytesConst
namespace Go.Proofs.Ytkkbncgnobaliaa
open Go.RowKit
open CodP
open CrcP
set_option linter.unusedVariables false
theorem sum_nil : sum (nats []) = 0 := by decide
theorem encU0 : encU 0 = [0] := encU_lt (by omega)
theorem recd_nil : recd [] = [0, 0, 0, 0, 0] := by
  unfold recd
  rw [sum_nil]
  show encU 0 ++ [] ++ le4 0 = _
  rw [encU0]; rfl
theorem getF_bad : getF [0, 1, 0, 0, 0] = .error 5 := by
  have h : getU [0, 1, 0, 0, 0] = .ok (0, [1, 0, 0, 0]) := by simp [getU, decU]
  unfold getF
  rw [h]
  simp only
  rw [if_neg (by omega), if_neg (by simp), if_neg]
  show ¬ sum (nats []) = val4 [1, 0, 0, 0]
  rw [sum_nil]; decide
theorem recd_len2 (a b : UInt8) : (recd [a, b]).length = 7 := by
  unfold recd
  have : encU 2 = [2] := encU_lt (by omega)
  show (encU 2 ++ [a, b] ++ le4 _).length = 7
  rw [this]; rfl
theorem putF_nil (p : List UInt8) (h : p.length ≤ 65536) : putF [] p = recd p := by unfold putF; rw [if_pos h]; rfl
set_option maxRecDepth 100000 in
set_option maxHeartbeats 1600000 in
theorem fawake_any (w : World) : Calls Try.prog 21 #[] w fun e w' => e = .returned (.bool true) ∧ Below w.heap.size w w' := by
  have hab := Lib.hid (Bs.fresh w 5 #[.int .u8 97, .int .u8 98] (2, 3) [97, 98] 2 rfl rfl)
  have hB0 := (Below.refl w.heap.size w).alloc (Nat.le_refl _) (.cells #[.int .u8 97, .int .u8 98] 5 (2, 3))
  have kc := fun (w : World) (C : Array Value) (n c : Nat) => Lib.run_convert_bytes_const (P := Try.prog) w 22 5 C n c Try.underlying22 Try.underlying5
  go_enter Try.func21, Try.ntmps21
  go_wp2_with fail
  generalize (w.alloc (.cells #[.int .u8 97, .int .u8 98] 5 (2, 3))) = w0 at hab hB0 ⊢
  refine (fput_any none 0 0 [] (some ⟨w.heap.size, 0, none⟩) 2 2 [97, 98] _ (by omega) (by omega) (Bs.nil_ _ _ _) hab.out).mono ?_
  rintro e w1 ⟨⟨v1, rfl, hown1⟩, hb1⟩
  rw [putF_nil _ (by simp)] at hown1
  have hB1 := hB0.trans (hb1.mono hB0.size)
  obtain ⟨A1, n1, c1, rfl, hs1, hc1, hd1⟩ := hown1.bs
  obtain rfl : n1 = 7 := by rw [← hs1.len, recd_len2]
  rw [maxLen_eq'] at hd1
  have HO : Hid (OwnB (w1.alloc (.cells #[] 5)) w1.heap.size 5 (.slice (some ⟨w1.heap.size, 0, none⟩) 0 0) []) := OwnB.fresh w1 5 [] #[] rfl 0 rfl (Nat.le_refl _) (Nat.zero_le _)
  have HS : Hid (Bs (w1.alloc (.cells #[] 5)) w1.heap.size A1 7 (recd [97, 98])) := ⟨hs1.len, hs1.sl.alloc (Nat.le_refl _) _⟩
  have hS1 := Lib.hid hs1
  clear hab hb1 hown1 hs1
  go_wp2_with (first
    | (refine wpList_append_b (by rfl) (.tmp 12) (.tmp 13) 22 (by rfl) w1.heap.size 5 Try.underlying22 infoU8 _ [] (by rfl) HO.out w1.heap.size A1 7 c1 (recd [97, 98]) (by rfl) HS.out (by simp) (by simp) ?_; intro v' w' hown' hgr hat; have hO1 := Lib.hid hown'; clear hown'; have hL5 := Lib.hid (Bs.lit1 w' 5 (.int .u8 9) 9 rfl); have hO2 := Lib.hid (hO1.out.alloc (.cells #[.int .u8 9] 5)); have hws := hgr.size)
    | (refine wpList_append_b (by rfl) (.tmp 14) (.tmp 15) 22 (by rfl) w1.heap.size 5 Try.underlying22 infoU8 v' ([] ++ recd [97, 98]) (by rfl) hO2.out (w'.heap.size + 1) (some ⟨w'.heap.size, 0, none⟩) 1 1 [9] (by rfl) hL5.out (by simp [recd_len2]) (by simp at hws ⊢; omega) ?_; intro v'' w'' hown'' hgr' hat'))
  obtain ⟨A2, n2, c2, rfl, hs2, hc2, hd2⟩ := hown''.bs
  rw [maxLen_eq'] at hd2
  have hB2 : Below w.heap.size w w'' := by
    have h1 := (hB1.alloc hB1.size (.cells #[] 5)).grown hgr (by have := hB1.size; simp; omega) (fun g e => by have := hB1.size; cases e; exact this)
    exact (h1.alloc h1.size _).grown hgr' (by have := h1.size; simp; omega) (fun g e => by have := hO1.out.base_le g e; have := hB1.size; omega)
  have hn2 : n2 = 8 := by rw [← hs2.len]; simp [recd_len2]
  have hb12 : Below w1.heap.size w1 w'' := by
    have h1 := ((Below.refl w1.heap.size w1).alloc (Nat.le_refl _) (.cells #[] 5)).grown hgr (by simp) (fun g e => by cases e; exact Nat.le_refl _)
    exact (h1.alloc h1.size _).grown hgr' (by have := h1.size; simp; omega) (fun g e => hO1.out.base_le g e)
  clear hown'' hat hat' HO HS hO1 hO2 hL5
  refine (fget_any A2 n2 c2 _ _ (by omega) hc2 hd2 hs2).mono ?_
  rintro e w2 ⟨hG, hb2⟩
  rw [show getF ([] ++ recd [97, 98] ++ [9]) = .ok ([97, 98], [9]) from getF_recd [97, 98] [9] (by simp)] at hG
  obtain ⟨A3, n3, c3, A4, n4, c4, rfl, hp, hr, -, -, -, -⟩ := hG
  obtain rfl : n3 = 2 := hp.len.symm
  obtain rfl : n4 = 1 := hr.len.symm
  have hB3 := hB2.trans (hb2.mono hB2.size)
  have HP := Lib.hid (hp.more hb2.size)
  have hL := Lib.hid (Bs.fresh w2 5 #[.int .u8 0, .int .u8 1, .int .u8 0, .int .u8 0, .int .u8 0] (0, 0) [0, 1, 0, 0, 0] 5 rfl rfl)
  clear hp hr hs2 kc
  go_wp2_with fail
  refine (fget_any (some ⟨w2.heap.size, 0, none⟩) 5 5 [0, 1, 0, 0, 0] _ (by omega) (by omega) (by omega) hL.out).mono ?_
  rintro e w3 ⟨hG, hb3⟩
  rw [getF_bad] at hG
  obtain rfl := hG
  have hB4 := (hB3.alloc hB3.size (.cells #[.int .u8 0, .int .u8 1, .int .u8 0, .int .u8 0, .int .u8 0] 5)).trans (hb3.mono (by have := hB3.size; simp; omega))
  have HP2 := Lib.hid ((HP.out.below (((Below.refl _ _).alloc (Nat.le_refl _) _).trans (hb3.mono (by simp)))).more (show w2.heap.size ≤ w3.heap.size by have := hb3.size; simp at this; omega))
  go_wp2_with fail
  refine (fput_any none 0 0 [] none 0 0 [] _ (by omega) (by omega) (Bs.nil_ _ _ _) (Bs.nil_ _ _ _)).mono ?_
  rintro e w4 ⟨⟨v4, rfl, hown4⟩, hb4⟩
  rw [putF_nil _ (by simp), recd_nil] at hown4
  have hB5 := hB4.trans (hb4.mono hB4.size)
  obtain ⟨A5, n5, c5, rfl, hs5, hc5, hd5⟩ := hown4.bs
  obtain rfl : n5 = 5 := hs5.len.symm
  have st1 : (convert 22 9 (.slice A5 5 c5)).run Try.prog w4 = .ok (.string ⟨#[0, 0, 0, 0, 0]⟩) w4 := run_str w4 c5 hs5
  have st2 : (convert 22 9 (.slice A3 2 c3)).run Try.prog w4 = .ok (.string ⟨#[97, 98]⟩) w4 := run_str w4 c3 (HP2.out.below hb4)
  clear hown4 hs5
  go_wp2
  go_ret
  exact ⟨rfl, hB5⟩
end Go.Proofs.Ytkkbncgnobaliaa
