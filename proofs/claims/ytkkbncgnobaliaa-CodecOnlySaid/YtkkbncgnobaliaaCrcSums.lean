/-
  THE CRC's WALKS: 'Update' and 'Sum' (package crc) by their contracts.
-/
import Derived.Test.YtkkbncgnobaliaaCrcWalks
namespace Go.Proofs.Ytkkbncgnobaliaa
open Go.RowKit
open CrcP
/-- Octets as numbers. -/
def nats (l : List UInt8) : List Nat := l.map UInt8.toNat
theorem nats_lt (l : List UInt8) : ∀ x ∈ nats l, x < 256 := by
  intro x hx
  obtain ⟨y, _, rfl⟩ := List.mem_map.1 hx
  exact y.toNat_lt
theorem nats_take (l : List UInt8) (k : Nat) : nats (l.take k) = (nats l).take k := by simp [nats]
theorem nats_append (a b : List UInt8) : nats (a ++ b) = nats a ++ nats b := by simp [nats]
theorem take_succ (l : List UInt8) (k : Nat) (hk : k < l.length) : l.take (k + 1) = l.take k ++ [l.getD k 0] := by
  rw [List.take_succ_eq_append_getElem hk, List.getD_eq_getElem?_getD, List.getElem?_eq_getElem hk]; rfl
theorem upd_take (c : Nat) (l : List UInt8) (k : Nat) (hk : k < l.length) : upd c (nats (l.take (k + 1))) = stp (upd c (nats (l.take k))) (l.getD k 0).toNat := by
  rw [take_succ l k hk, nats_append, upd_append]; rfl

/-- A look into the table, as the walk spells it. -/
theorem look_eq (m x : Nat) (hm : m < 4294967296) (hx : x < 256) :
    (m % 256 ^^^ x) < 256 ∧ bits .xor .u8 ((m : Int) % 256) (x : Int) = ((m % 256 ^^^ x : Nat) : Int) ∧ bits .xor .u32 ((rds 8 (m % 256 ^^^ x) : Nat) : Int) ((m : Int) / 256) = ((stp m x : Nat) : Int) := by
  have h1 : m % 256 ^^^ x < 256 := by
    have h2 : (256 : Nat) = 2 ^ 8 := by decide
    rw [h2] at *; exact Nat.xor_lt_two_pow (Nat.mod_lt _ (by decide)) hx
  refine ⟨h1, ?_, ?_⟩
  · have := u8_xor_nat (m % 256) x (Nat.mod_lt _ (by decide)) hx
    rwa [Int.natCast_emod] at this
  · have := u32_xor_nat (rds 8 (m % 256 ^^^ x)) (m / 256) (rds_lt 8 (by omega)) (by omega)
    rw [stp_table m x hx, Int.natCast_ediv] at this
    exact this
set_option maxRecDepth 100000 in
set_option maxHeartbeats 400000 in
theorem update_any (c : Int) (A : Option Addr) (n cap : Nat) (l : List UInt8) (w : World) (h1 : 0 ≤ c) (h2 : c < 4294967296) (hn : n ≤ 9223372036854775807) (hb : Bs w w.heap.size A n l) :
    Calls Try.prog 71 #[.int .u32 c, .slice A n cap] w fun e w' => e = .returned (.int .u32 (upd c.toNat (nats l) : Nat)) ∧ Below w.heap.size w w' := by
  obtain ⟨c, rfl⟩ := Int.eq_ofNat_of_zero_le h1
  have hc32 : c < 4294967296 := by omega
  clear h1 h2
  obtain ⟨hl, hsl⟩ := hb
  have hHl := Lib.hid hl; clear hl
  by_cases h0 : n = 0
  · have HE : Hid (upd (c : Int).toNat (nats l) = c) := by
      have : l = [] := List.eq_nil_of_length_eq_zero (by rw [hHl.out, h0])
      subst this; rfl
    subst h0
    go_enter Try.func71, Try.ntmps71
    go_wp2
    go_ret
    exact ⟨ret_int (by rw [HE.out]), Below.refl _ _⟩
  · obtain ⟨b, off, rfl, hbB, hc⟩ := hsl (by omega)
    have hne : ((n : Int) == 0) = false := by simp; omega
    obtain ⟨hz, hs0⟩ := zero_of_info infoT
    have hs := Lib.hid hs0; clear hs0
    have hc' := Lib.hid hc; clear hc hsl
    clear h0
    go_enter Try.func71, Try.ntmps71
    go_wp2_with fail
    refine (table_any _).mono ?_
    rintro e w1 ⟨rfl, hb1⟩
    go_wp2_with (refine wpList_store_row rfl 113 _ _ rfl w1.heap.size (tblCells 256) rfl rfl 113 (tblCells 0) (Blk.new _ _ _) (by rw [hs.out, tblCells_size]) (by rw [tblCells_size, tblCells_size]) (tblCells_one _) ?_)
    have hB2 : Below w.heap.size w ((w1.alloc (.cells (tblCells 0) 113)).setRow w1.heap.size (tblCells 256)) := below_setRow (hb1.alloc hb1.size _) hb1.size _
    have hblk : Blk ((w1.alloc (.cells (tblCells 0) 113)).setRow w1.heap.size (tblCells 256)) w1.heap.size 113 (tblCells 256) := (Blk.new _ _ _).setRow _
    generalize (w1.alloc (.cells (tblCells 0) 113)).setRow w1.heap.size (tblCells 256) = w2 at hB2 hblk ⊢
    generalize w1.heap.size = g at hblk ⊢
    clear hb1 hz
    go_loop [0, 7, 15] (fun s _ i => ∃ k : Nat, k ≤ n ∧ i = .int .i64 k ∧ s = .int .u32 (upd c (nats (l.take k)) : Nat)) (fun _ _ i => n - (intOf i).toNat)
    case atStart => exact ⟨0, by omega, rfl, rfl⟩
    case round =>
      obtain ⟨k, hk, rfl, rfl⟩ := hrel
      have hm := upd_lt (c := c) (l := nats (l.take k)) (by omega) (nats_lt _)
      by_cases hlt : k < n
      · have hx := (hB2.cell (p := ⟨b, off + k, none⟩) hbB).trans (hc'.out k hlt)
        have HL : Hid _ := upd_take c l k (by rw [hHl.out]; exact hlt)
        unfold octs at hx
        have hx8 : (l.getD k 0).toNat < 256 := (l.getD k 0).toNat_lt
        generalize (l.getD k 0).toNat = x at hx hx8 HL
        generalize hg : upd c (nats (l.take k)) = m at hm HL
        have HG := Lib.hid hg; clear hg
        obtain ⟨hy, hxor, hstp⟩ := look_eq m x hm hx8
        have hcy := (hblk.cell (m % 256 ^^^ x)).trans (tblCells_get 256 _ hy)
        rw [if_pos hy] at hcy
        have HS := Lib.hid hstp; clear hstp
        generalize m % 256 ^^^ x = y at hy hxor hcy HS
        have hr8 := rds_lt 8 (c := y) (by omega)
        generalize rds 8 y = r at hcy HS hr8
        go_wp2
        go_round
        case rel => exact ⟨k + 1, by omega, by go_num, by rw [HL.out, ← HS.out]⟩
        case measure => simp [intOf]; omega
      · obtain rfl : k = n := by omega
        have HT : Hid (l.take k = l) := List.take_of_length_le (by rw [hHl.out]; exact Nat.le_refl _)
        generalize hg : upd c (nats (l.take k)) = m at hm
        have HG := Lib.hid hg; clear hg
        go_wp2
        go_ret
        exact ⟨ret_int (by rw [← HG.out, HT.out]), hB2⟩

theorem crc_not (m : Nat) (hm : m < 4294967296) : bits .xor .u32 IntKind.u32.max (m : Int) = ((4294967295 ^^^ m : Nat) : Int) :=
  u32_xor_nat 4294967295 m (by omega) hm
set_option maxRecDepth 100000 in
set_option maxHeartbeats 400000 in
theorem sum_any (A : Option Addr) (n cap : Nat) (l : List UInt8) (w : World) (hn : n ≤ 9223372036854775807) (hb : Bs w w.heap.size A n l) :
    Calls Try.prog 58 #[.slice A n cap] w fun e w' => e = .returned (.int .u32 (sum (nats l) : Nat)) ∧ Below w.heap.size w w' := by
  have hm := upd_lt (c := 4294967295) (l := nats l) (by omega) (nats_lt _)
  go_enter Try.func58, Try.ntmps58
  go_wp2_with fail
  refine (update_any _ _ _ _ l _ (by omega) (by omega) hn hb).mono ?_
  rintro e w1 ⟨rfl, hb1⟩
  have HG : Hid (upd (4294967295 : Int).toNat (nats l) = upd 4294967295 (nats l)) := rfl
  rw [HG.out]
  have HN : Hid _ := crc_not _ hm
  have HS : Hid (sum (nats l) = 4294967295 ^^^ upd 4294967295 (nats l)) := rfl
  generalize upd 4294967295 (nats l) = m at hm HN HS ⊢
  go_wp2
  go_ret
  exact ⟨ret_int (by rw [HS.out, ← HN.out]), hb1⟩
end Go.Proofs.Ytkkbncgnobaliaa
