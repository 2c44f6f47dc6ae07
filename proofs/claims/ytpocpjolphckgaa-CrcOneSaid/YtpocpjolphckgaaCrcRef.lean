/-
  THE REFERENCE's WALKS (package watchtowerref04): 'Step', 'Update', 'Sum' by their contracts: they reckon CrcPlain's 'stp', 'upd', 'sum'.
-/
import Derived.Test.YtpocpjolphckgaaCrcSums
namespace Go.Proofs.Ytpocpjolphckgaa
open Go.RowKit
open CrcP
set_option maxRecDepth 100000 in
set_option maxHeartbeats 400000 in
theorem rstep_nat (c x : Nat) (hc : c < 4294967296) (hx : x < 256) (w : World) :
    Calls Try.prog 11 #[.int .u32 c, .int .u8 x] w fun e w' => e = .returned (.int .u32 (stp c x : Nat)) ∧ w = w' := by
  have h0 := u32_xor_nat c x hc (by omega)
  have hm := xor_lt32 hc (show x < 4294967296 by omega)
  have HS : Hid (stp c x = rds 8 (c ^^^ x)) := rfl
  generalize c ^^^ x = m0 at h0 hm HS
  generalize stp c x = S at HS ⊢
  go_enter Try.func11, Try.ntmps11
  go_wp2
  go_loop [5, 6, 7] (fun s i _ => ∃ k : Nat, k ≤ 8 ∧ i = .int .i64 k ∧ s = .int .u32 (rds k m0 : Nat)) (fun _ i _ => 8 - (intOf i).toNat)
  case atStart => exact ⟨0, by omega, rfl, rfl⟩
  case round =>
    obtain ⟨k, hk, rfl, rfl⟩ := hrel
    have hl := rds_lt k hm
    have HL : Hid (rds (k + 1) m0 = rd (rds k m0)) := rds_last k m0
    generalize hg : rds k m0 = m at hl HL
    have HG := Lib.hid hg; clear hg
    by_cases hlt : k < 8
    · by_cases ho : m % 2 = 1
      · have hb : bits .and .u32 (m : Int) 1 = 1 := by rw [and_one m hl, ho]; rfl
        have hr := rd_odd m hl ho
        have HO := Lib.hid ho; clear ho
        go_wp2
        go_round
        case rel => exact ⟨k + 1, by omega, by go_num, by rw [HL.out]⟩
        case measure => simp [intOf]; omega
      · have hb : bits .and .u32 (m : Int) 1 = 0 := by rw [and_one m hl]; omega
        have HR : Hid _ := rd_even m ho
        have HO := Lib.hid ho; clear ho
        go_wp2
        go_round
        case rel => exact ⟨k + 1, by omega, by go_num, by rw [HL.out, HR.out]⟩
        case measure => simp [intOf]; omega
    · obtain rfl : k = 8 := by omega
      go_wp2
      go_ret
      exact ⟨ret_int (by rw [HS.out, HG.out]), rfl⟩
set_option maxRecDepth 100000 in
set_option maxHeartbeats 400000 in
theorem rupdate_any (c : Nat) (A : Option Addr) (n cap : Nat) (l : List UInt8) (w : World) (hc32 : c < 4294967296) (hn : n ≤ 9223372036854775807) {B : Nat} (hb : Bs w B A n l) :
    Calls Try.prog 13 #[.int .u32 c, .slice A n cap] w fun e w' => e = .returned (.int .u32 (upd c (nats l) : Nat)) ∧ w = w' := by
  have hHl := Lib.hid hb.len
  have HB := Lib.hid hb; clear hb
  go_enter Try.func13, Try.ntmps13
  go_wp2
  go_loop [5, 6] (fun s i => ∃ k : Nat, k ≤ n ∧ i = .int .i64 k ∧ s = .int .u32 (upd c (nats (l.take k)) : Nat)) (fun _ i => n - (intOf i).toNat)
  case atStart => exact ⟨0, by omega, rfl, rfl⟩
  case round =>
    obtain ⟨k, hk, rfl, rfl⟩ := hrel
    have hm := upd_lt (c := c) (l := nats (l.take k)) (by omega) (nats_lt _)
    by_cases hlt : k < n
    · obtain ⟨b, off, rfl, hbB, hx⟩ := HB.out.at_ hlt
      have HL : Hid _ := upd_take c l k (by rw [hHl.out]; exact hlt)
      have hx8 : (l.getD k 0).toNat < 256 := (l.getD k 0).toNat_lt
      generalize (l.getD k 0).toNat = x at hx hx8 HL
      generalize hg : upd c (nats (l.take k)) = m at hm HL
      have HG := Lib.hid hg; clear hg
      go_wp2_with fail
      refine (rstep_nat m x hm hx8 _).mono ?_
      rintro e w2 ⟨rfl, rfl⟩
      go_wp2
      go_round
      case rel => exact ⟨k + 1, by omega, by go_num, by rw [HL.out]⟩
      case measure => simp [intOf]; omega
    · obtain rfl : k = n := by omega
      have HT : Hid (l.take k = l) := List.take_of_length_le (by rw [hHl.out]; exact Nat.le_refl _)
      generalize hg : upd c (nats (l.take k)) = m at hm
      have HG := Lib.hid hg; clear hg
      go_wp2
      go_ret
      exact ⟨ret_int (by rw [← HG.out, HT.out]), rfl⟩
theorem crc_not' (m : Nat) (hm : m < 4294967296) : bits .xor .u32 (m : Int) 4294967295 = ((4294967295 ^^^ m : Nat) : Int) := by
  rw [Nat.xor_comm]
  exact u32_xor_nat m 4294967295 hm (by omega)
set_option maxRecDepth 100000 in
set_option maxHeartbeats 400000 in
theorem rsum_any (A : Option Addr) (n cap : Nat) (l : List UInt8) (w : World) (hn : n ≤ 9223372036854775807) {B : Nat} (hb : Bs w B A n l) :
    Calls Try.prog 15 #[.slice A n cap] w fun e w' => e = .returned (.int .u32 (sum (nats l) : Nat)) ∧ w = w' := by
  have hm := upd_lt (c := 4294967295) (l := nats l) (by omega) (nats_lt _)
  go_enter Try.func15, Try.ntmps15
  go_wp2_with fail
  refine (rupdate_any 4294967295 _ _ _ l _ (by omega) hn hb).mono ?_
  rintro e w1 ⟨rfl, rfl⟩
  have HN : Hid _ := crc_not' _ hm
  have HS : Hid (sum (nats l) = 4294967295 ^^^ upd 4294967295 (nats l)) := rfl
  generalize upd 4294967295 (nats l) = m at hm HN HS ⊢
  go_wp2
  go_ret
  exact ⟨ret_int (by rw [HS.out, ← HN.out]), rfl⟩
end Go.Proofs.Ytpocpjolphckgaa
