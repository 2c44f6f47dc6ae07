/-
  CrcBurst's walk: the loop changes the bits one by one in a copy of the call's own.
-/
import Derived.Test.YtpocpjolphckgaaCrcAwake
import Derived.Test.YtpocpjolphckgaaCut
import Derived.Test.YtpocpjolphckgaaApp
import Derived.Test.YtpocpjolphckgaaFlips
namespace Go.Proofs.Ytpocpjolphckgaa
open Go.RowKit
open CrcP
set_option linter.unusedVariables false
theorem infoU8 : (Try.prog.info? 5).map (fun i => (i.zero, i.size, i.bytes)) = some (some (.int .u8 0), 1, 1) := by kernel_rfl
theorem ret_true {b : Bool} (h : b = true) : Ending.returned (.bool b) = .returned (.bool true) := by rw [h]
theorem mod_sub (m n : Nat) (hn : 5 ≤ n) : (m : Int) % (8 * (n : Int) - 31) = ((m % (8 * n - 31) : Nat) : Int) := by
  rw [Int.natCast_emod, Int.natCast_sub (by omega), Int.natCast_mul]; rfl
set_option maxRecDepth 100000 in
set_option maxHeartbeats 400000 in
theorem crcBurst_walk (w : World) (A : Option Addr) (n cap : Nat) (l : List UInt8) (hb : Bs w w.heap.size A n l) (hcap : n ≤ cap) (hm : cap ≤ 9223372036854775807) (at_ : Int) (hat1 : -9223372036854775808 ≤ at_) (hat2 : at_ ≤ 9223372036854775807) (x : Nat) (hx : x < 4294967296) :
    Calls Try.prog 5 #[.slice A n cap, .int .i64 at_, .int .u32 x] w fun e w' => e = .returned (.bool true) ∧ Below w.heap.size w w' := by
  by_cases hn : 5 ≤ n
  · by_cases hn2 : n ≤ 1000
    · have d1 : decide ((n : Int) < 5) = false := by simp; omega
      have d2 : decide ((1000 : Int) < n) = false := by simp; omega
      obtain ⟨m, hmask, hm'⟩ := and_mask at_ 16777215 (by omega)
      have hmask' : bits .and .i64 at_ 16777215 = (m : Int) := hmask
      clear hmask
      have hmod := mod_sub m n hn
      have hbit : m % (8 * n - 31) + 31 < 8 * n := by have := Nat.mod_lt m (show 0 < 8 * n - 31 by omega); omega
      generalize m % (8 * n - 31) = bit at hmod hbit
      go_enter Try.func5, Try.ntmps5
      go_wp2_with fail
      refine (awake_any _).mono ?_
      rintro e w1 ⟨rfl, hb1⟩
      have HB := Lib.hid (hb.now hb1)
      have hHl := Lib.hid hb.len
      clear hb
      have ht : (8 : Int) * (n : Int) - 31 ≠ 0 := by omega
      go_wp2_with (at_builtin; refine wpList_append_b rfl (.tmp 29) (.tmp 30) 23 rfl w1.heap.size 5 Try.underlying23 infoU8 (.slice (some ⟨w1.heap.size, 0, none⟩) 0 0) [] rfl ?h1 w1.heap.size A n cap l rfl ?h2 ?h3 ?h4 ?_)
      case h1 => exact OwnB.fresh _ _ [] _ rfl _ rfl (Nat.le_refl _) (by simp)
      case h2 => exact (HB.out.keep fun b o hb => World.cell?_alloc_lt _ _ _ hb)
      case h3 => simp; omega
      case h4 => simp
      intro v3 w3 hown3 hgr3 hat3
      have hB3 : Below w1.heap.size w1 w3 := ((Below.refl _ _).alloc (Nat.le_refl _) _).grown hgr3 (by simp) (by intro g hg; simp [Value.ownBlock] at hg; omega)
      rcases hown3.form with ⟨_, hnil⟩ | ⟨g, cap3, hv3, hg3, -, hc3, hm3⟩
      · have := hHl.out; rw [hnil] at this; simp at this; omega
      rw [hHl.out] at hv3 hc3
      rw [hv3] at hown3 ⊢
      clear hat3 hgr3 hv3
      go_wp2_with fail
      clear hmod hmask' ht hm'
      go_loopw [10, 11] (fun i _ wr => ∃ k : Nat, k ≤ 32 ∧ i = .int .i64 k ∧ OwnB wr w1.heap.size 5 (.slice (some ⟨g, 0, none⟩) n cap3) (flips l bit x k) ∧ Below w1.heap.size w1 wr) (fun i _ _ => 32 - (intOf i).toNat)
      case atStart => exact ⟨0, by omega, rfl, hown3, hB3⟩
      case round =>
        obtain ⟨k, hk, rfl, hown, hB⟩ := hrel
        by_cases hlt : k < 32
        · have HS := Lib.hid (flips_succ l bit x k)
          by_cases ho : x / 2 ^ k % 2 = 1
          · have hand : bits .and .u32 ((x : Int) / 2 ^ k) 1 = 1 := by rw [bit_and x k hx, ho]; rfl
            have hj : (bit + k) / 8 < n := by omega
            have hcell := hown.cell (by rw [flips_len, hHl.out]; exact hj)
            have hfro := hown.frozen ((bit + k) / 8)
            have HO := Lib.hid hown; clear hown
            have HF := Lib.hid ho; clear ho
            generalize hu : (flips l bit x k).getD ((bit + k) / 8) 0 = u at hcell
            have HU := Lib.hid hu; clear hu
            go_wp2
            rw [flip_val u (bit + k)]
            go_roundw
            case rel =>
              refine ⟨k + 1, by omega, by go_num, ?_, hB.setCell hg3 _⟩
              rw [HS.out, if_pos HF.out, ← flip1_set _ _ u HU.out]
              exact HO.out.stored _ _
            case measure => simp [intOf]; omega
          · have hand : bits .and .u32 ((x : Int) / 2 ^ k) 1 = 0 := by rw [bit_and x k hx]; omega
            have HF := Lib.hid ho; clear ho
            go_wp2
            go_roundw
            case rel => exact ⟨k + 1, by omega, by go_num, by rw [HS.out, if_neg HF.out]; exact hown, hB⟩
            case measure => simp [intOf]; omega
        · obtain rfl : k = 32 := by omega
          have HE := Lib.hid (sum_flips l bit x hx (by rw [hHl.out]; omega))
          obtain ⟨A9, n9, c9, hv9, hb9, h91, h92⟩ := hown.bs
          injection hv9 with e1 e2 e3
          subst e1 e2 e3
          have HB9 := Lib.hid hb9
          clear hb9 hown
          have s1 := sum_lt (nats_lt (flips l bit x 32))
          go_wp2_with fail
          refine (sum_any _ _ _ (flips l bit x 32) _ (by omega) HB9.out).mono ?_
          rintro e w4 ⟨rfl, hb4⟩
          have hB4 := hB.trans (hb4.mono hB.size)
          go_wp2_with fail
          refine (sum_any _ _ _ l _ (by omega) (HB.out.now hB4)).mono ?_
          rintro e w5 ⟨rfl, hb5⟩
          have hq : (((sum (nats (flips l bit x 32)) : Nat) : Int) == ((sum (nats l) : Nat) : Int)) = ((x : Int) == 0) := by
            rw [Bool.eq_iff_iff]
            simp only [beq_iff_eq, Int.natCast_inj]
            have := HE.out
            omega
          go_wp2
          go_ret
          exact ⟨ret_true (by simp), hb1.trans ((hB4.trans (hb5.mono hB4.size)).mono hb1.size)⟩
    · have d1 : decide ((n : Int) < 5) = false := by simp; omega
      have d2 : decide ((1000 : Int) < n) = true := by simp; omega
      go_enter Try.func5, Try.ntmps5
      go_wp2_with fail
      refine (awake_any _).mono ?_
      rintro e w1 ⟨rfl, hb1⟩
      go_wp2
      go_ret
      exact ⟨rfl, hb1⟩
  · have d1 : decide ((n : Int) < 5) = true := by simp; omega
    go_enter Try.func5, Try.ntmps5
    go_wp2_with fail
    refine (awake_any _).mono ?_
    rintro e w1 ⟨rfl, hb1⟩
    go_wp2
    go_ret
    exact ⟨rfl, hb1⟩
end Go.Proofs.Ytpocpjolphckgaa
