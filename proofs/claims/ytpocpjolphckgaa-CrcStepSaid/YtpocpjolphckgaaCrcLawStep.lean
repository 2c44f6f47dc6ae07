/-
  CrcStep's walk: the law's own code calls 'awake' and 'crc.Step' by their contracts; that it answers true is CrcPlain's 'rds_inj'.
-/
import Derived.Test.YtpocpjolphckgaaCrcAwake
namespace Go.Proofs.Ytpocpjolphckgaa
open Go.RowKit
open CrcP
theorem stp_left (c d x : Nat) (hc : c < 4294967296) (hd : d < 4294967296) (hx : x < 256) : (((stp c x : Nat) : Int) == ((stp d x : Nat) : Int)) = ((c : Int) == (d : Int)) := by
  rw [Bool.eq_iff_iff]
  simp only [beq_iff_eq, Int.natCast_inj]
  constructor
  · intro h
    have := rds_inj 8 (xor_lt32 hc (show x < 4294967296 by omega)) (xor_lt32 hd (show x < 4294967296 by omega)) h
    have e : c ^^^ x ^^^ x = d ^^^ x ^^^ x := by rw [this]
    simpa [Nat.xor_assoc] using e
  · rintro rfl; rfl
theorem stp_right (c x y : Nat) (hc : c < 4294967296) (hx : x < 256) (hy : y < 256) : (((stp c x : Nat) : Int) == ((stp c y : Nat) : Int)) = ((x : Int) == (y : Int)) := by
  rw [Bool.eq_iff_iff]
  simp only [beq_iff_eq, Int.natCast_inj]
  constructor
  · intro h
    have := rds_inj 8 (xor_lt32 hc (show x < 4294967296 by omega)) (xor_lt32 hc (show y < 4294967296 by omega)) h
    have e : c ^^^ (c ^^^ x) = c ^^^ (c ^^^ y) := by rw [this]
    simpa [← Nat.xor_assoc] using e
  · rintro rfl; rfl
theorem stp_own (c : Nat) : stp c (c % 256) = c / 256 := by
  have h := low_xor_high c
  have e : c ^^^ c % 256 = c / 256 * 2 ^ 8 := by
    rw [show (2 ^ 8 : Nat) = 256 from by decide]
    calc c ^^^ c % 256 = (c % 256 ^^^ c / 256 * 256) ^^^ c % 256 := by rw [h]
      _ = c / 256 * 256 := by rw [Nat.xor_comm (c % 256), Nat.xor_assoc, Nat.xor_self, Nat.xor_zero]
  unfold stp
  rw [e, rds_shift]
theorem and_255 (m : Nat) (h : m < 4294967296) : bits .and .u32 (m : Int) 255 = ((m % 256 : Nat) : Int) := by
  have := u32_and_nat m 255 h (by omega)
  rw [nat_mask8] at this
  exact this
set_option maxRecDepth 100000 in
set_option maxHeartbeats 400000 in
theorem crcStep_walk (w : World) (c : Nat) (hc : c < 4294967296) (d : Nat) (hd : d < 4294967296) (x : Nat) (hx : x < 256) (y : Nat) (hy : y < 256) :
    Calls Try.prog 7 #[.int .u32 c, .int .u32 d, .int .u8 x, .int .u8 y] w fun e w' => e = .returned (.bool true) ∧ Below w.heap.size w w' := by
  have h1 := stp_left c d x hc hd hx
  have h2 := stp_right c x y hc hx hy
  have h3 := stp_own c
  have h4 := and_255 c hc
  have hm : c % 256 < 256 := Nat.mod_lt _ (by decide)
  have H3 := Lib.hid h3; clear h3
  go_enter Try.func7, Try.ntmps7
  go_wp2_with fail
  refine (awake_any _).mono ?_
  rintro e w1 ⟨rfl, hb1⟩
  go_wp2_with fail
  refine (step_nat c x hc hx _).mono ?_
  rintro e w2 ⟨rfl, rfl⟩
  go_wp2_with fail
  refine (step_nat d x hd hx _).mono ?_
  rintro e w2 ⟨rfl, rfl⟩
  go_wp2_with fail
  refine (step_nat c x hc hx _).mono ?_
  rintro e w2 ⟨rfl, rfl⟩
  go_wp2_with fail
  refine (step_nat c y hc hy _).mono ?_
  rintro e w2 ⟨rfl, rfl⟩
  generalize c % 256 = m at h4 hm H3
  go_wp2_with fail
  refine (step_nat c m hc hm _).mono ?_
  rintro e w2 ⟨rfl, rfl⟩
  rw [H3.out]
  go_wp2
  go_ret
  exact ⟨by simp, hb1⟩
end Go.Proofs.Ytpocpjolphckgaa
