/-
  FrameSeen's walk.
-/
import Derived.Test.YtkkbncgnobaliaaFrmW
import Derived.Test.YtkkbncgnobaliaaFrmS
namespace Go.Proofs.Ytkkbncgnobaliaa
open Go.RowKit
open CodP
open CrcP
set_option linter.unusedVariables false
theorem mod_plus (m n : Nat) : (m : Int) % (8 * (n : Int) + 1) = ((m % (8 * n + 1) : Nat) : Int) := by
  rw [Int.natCast_emod]; push_cast; rfl
set_option maxRecDepth 100000 in
set_option maxHeartbeats 1600000 in
theorem frameSeen_walk (w : World) (A : Option Addr) (n cap : Nat) (l : List UInt8) (hb : Bs w w.heap.size A n l) (hcap : n ≤ cap) (hm : cap ≤ 9223372036854775807) (at_ : Int) (hat1 : -9223372036854775808 ≤ at_) (hat2 : at_ ≤ 9223372036854775807) (x : Nat) (hx : x < 4294967296) :
    Calls Try.prog 3 #[.slice A n cap, .int .i64 at_, .int .u32 x] w fun e w' => e = .returned (.bool true) ∧ Below w.heap.size w w' := by
  by_cases hn : n ≤ 100
  · obtain ⟨m, hmask, hm'⟩ := and_mask at_ 16777215 (by omega)
    have hmask' : bits .and .i64 at_ 16777215 = (m : Int) := hmask
    clear hmask
    have hmod := mod_plus m n
    have hbit0 : m % (8 * n + 1) ≤ 8 * n := by have := Nat.mod_lt m (show 0 < 8 * n + 1 by omega); omega
    generalize m % (8 * n + 1) = bit0 at hmod hbit0
    have hHb := Lib.hid hb; clear hb
    go_enter Try.func3, Try.ntmps3
    go_wp2_with fail
    refine (fawake_any _).mono ?_
    rintro e w1 ⟨rfl, hb1⟩
    have HB := Lib.hid (hHb.out.now hb1)
    have hHl := Lib.hid hHb.out.len
    clear hHb
    have HO0 : Hid (OwnB (w1.alloc (.cells #[] 5)) w1.heap.size 5 (.slice (some ⟨w1.heap.size, 0, none⟩) 0 0) []) := OwnB.fresh w1 5 [] #[] rfl 0 rfl (Nat.le_refl _) (Nat.zero_le _)
    have HB0 := Lib.hid (show Bs (w1.alloc (.cells #[] 5)) (w1.alloc (.cells #[] 5)).heap.size A n l from ⟨HB.out.len, (HB.out.sl.alloc (Nat.le_refl _) _).more (by simp)⟩)
    go_wp2_with fail
    refine (fput_any none 0 0 [] A n cap l _ (by omega) (by omega) (Bs.nil_ _ _ _) HB0.out).mono ?_
    rintro e w2 ⟨⟨v2, rfl, hown2⟩, hb2⟩
    rw [putF_nil _ (by rw [hHl.out]; omega)] at hown2
    have hrl := Lib.hid (show (recd l).length = n + 5 by rw [recd_len (by rw [hHl.out]; omega), hHl.out])
    obtain ⟨A2, n2, c2, rfl, hs2, hc2, hd2⟩ := hown2.bs
    obtain rfl : n2 = n + 5 := by rw [← hs2.len, hrl.out]
    have HO1 := Lib.hid (HO0.out.below hb2)
    have hB12 : Below w1.heap.size w1 w2 := ((Below.refl w1.heap.size w1).alloc (Nat.le_refl _) (.cells #[] 5)).trans (hb2.mono (by simp))
    have hS2 := Lib.hid hs2
    clear hown2 hs2 HO0 HB0 hb2
    go_wp2_with ((refine wpList_append_b (by rfl) (.tmp 20) (.tmp 22) 22 (by rfl) w1.heap.size 5 Try.underlying22 infoU8 (.slice (some ⟨w1.heap.size, 0, none⟩) 0 0) [] (by rfl) HO1.out w2.heap.size A2 (n + 5) c2 (recd l) (by rfl) hS2.out (by rw [List.length_nil]; omega) hB12.size ?_))
    intro v3 w3 hown3 hgr3 hat3
    have hB3 : Below w1.heap.size w1 w3 := hB12.grown hgr3 hB12.size (by intro g hg; simp [Value.ownBlock] at hg; omega)
    rcases hown3.form with ⟨_, hnil⟩ | ⟨g, cap3, hv3, hg3, -, hc3, hm3⟩
    · have := hrl.out; rw [hnil] at this; simp at this
    rw [hrl.out] at hv3 hc3
    rw [hv3] at hown3 ⊢
    clear hat3 hgr3 hv3
    have ht : (8 : Int) * (n : Int) + 1 ≠ 0 := by omega
    have hne5 : (((n + 5 : Nat) : Int) != (n : Int) + 5) = false := by simp
    go_wp2_with fail
    clear hmod hmask' ht hm' hne5
    go_loopw [10, 11] (fun i _ wr => ∃ k : Nat, k ≤ 32 ∧ i = .int .i64 k ∧ OwnB wr w1.heap.size 5 (.slice (some ⟨g, 0, none⟩) (n + 5) cap3) (flips (recd l) (8 + bit0) x k) ∧ Below w1.heap.size w1 wr) (fun i _ _ => 32 - (intOf i).toNat)
    case atStart => exact ⟨0, by omega, rfl, hown3, hB3⟩
    case round =>
      obtain ⟨k, hk, rfl, hown, hB⟩ := hrel
      by_cases hlt : k < 32
      · have HS := Lib.hid (flips_succ (recd l) (8 + bit0) x k)
        by_cases ho : x / 2 ^ k % 2 = 1
        · have hand : bits .and .u32 ((x : Int) / 2 ^ k) 1 = 1 := by rw [bit_and x k hx, ho]; rfl
          have hj : (8 + bit0 + k) / 8 < n + 5 := by omega
          have hcell := hown.cell (by rw [flips_len, hrl.out]; exact hj)
          have hfro := hown.frozen ((8 + bit0 + k) / 8)
          have HO := Lib.hid hown; clear hown
          have HF := Lib.hid ho; clear ho
          generalize hu : (flips (recd l) (8 + bit0) x k).getD ((8 + bit0 + k) / 8) 0 = u at hcell
          have HU := Lib.hid hu; clear hu
          go_wp2
          rw [flip_val u (8 + bit0 + k)]
          go_roundw
          case rel =>
            refine ⟨k + 1, by omega, by go_num, ?_, hB.setCell hg3 _⟩
            rw [HS.out, if_pos HF.out, ← flip1_set _ _ u HU.out]
            exact HO.out.stored _ _
          case measure => simp [intOf]; omega
        · have hand : bits .and .u32 ((x : Int) / 2 ^ k) 1 = 0 := by rw [bit_and x k hx]; omega
          have HF := Lib.hid ho; clear ho
          go_wp2
          go_roundw
          case rel => exact ⟨k + 1, by omega, by go_num, by rw [HS.out, if_neg HF.out]; exact hown, hB⟩
          case measure => simp [intOf]; omega
      · obtain rfl : k = 32 := by omega
        obtain ⟨A9, n9, c9, hv9, hb9, h91, h92⟩ := hown.bs
        injection hv9 with e1 e2 e3
        subst e1 e2 e3
        rw [maxLen_eq'] at h92
        have HB9 := Lib.hid hb9
        clear hb9 hown
        go_wp2_with fail
        refine (fget_any _ _ _ (flips (recd l) (8 + bit0) x 32) _ (by omega) h91 h92 HB9.out).mono ?_
        rintro e w4 ⟨hG, hb4⟩
        have hB4 := hB.trans (hb4.mono hB.size)
        by_cases hx0 : x = 0
        · rw [hx0, flips_zero, show getF (recd l) = .ok (l, []) from by
            have := getF_recd l [] (by rw [hHl.out]; omega)
            rwa [List.append_nil] at this] at hG
          obtain ⟨A3, n3, c3, A4, n4, c4, rfl, hp, hr, -, -, -, -⟩ := hG
          obtain rfl : n4 = 0 := hr.len.symm
          obtain rfl : n3 = n := by rw [← hp.len, hHl.out]
          have st1 : (convert 22 9 (.slice A3 n3 c3)).run Try.prog w4 = .ok (.string ⟨l.toArray⟩) w4 := run_str w4 c3 hp
          have st2 : (convert 22 9 (.slice A n3 cap)).run Try.prog w4 = .ok (.string ⟨l.toArray⟩) w4 := run_str w4 cap (HB.out.below hB4)
          generalize (⟨l.toArray⟩ : ByteArray) = s at st1 st2
          have hx00 : ((x : Int) == 0) = true := by rw [hx0]; rfl
          have HX := Lib.hid hx0
          clear hp hr hx0
          go_wp2
          go_ret
          exact ⟨rfl, hb1.trans (hB4.mono hb1.size)⟩
        · rw [seen l (by rw [hHl.out]; omega) (8 + bit0) x hx hx0 (by omega) (by rw [hHl.out]; omega)] at hG
          obtain rfl := hG
          have hx00 : ((x : Int) == 0) = false := beq_false_of_ne (by omega)
          have HX := Lib.hid hx0
          clear hx0
          go_wp2
          go_ret
          exact ⟨rfl, hb1.trans (hB4.mono hb1.size)⟩
  · go_enter Try.func3, Try.ntmps3
    go_wp2_with fail
    refine (fawake_any _).mono ?_
    rintro e w1 ⟨rfl, hb1⟩
    go_wp2
    go_ret
    exact ⟨rfl, hb1⟩
end Go.Proofs.Ytkkbncgnobaliaa
