/-
  THE CRC's WALKS: 'Step', 'table', 'Update', 'Sum' (package crc), each by its contract: what it reckons is CrcPlain's 'stp', 'upd', 'sum'; nothing that was there is written.
-/
import Derived.Test.YtkkbncgnobaliaaChecked
import Derived.Test.YtkkbncgnobaliaaCrcPlain
import Derived.Test.YtkkbncgnobaliaaMem
import Derived.WalkKit
import Derived.Laws.BitsAllLaws
import Derived.Lib.Hide
import Derived.Deep.WholeRow
namespace Go.Proofs.Ytkkbncgnobaliaa
open Go.RowKit
open CrcP
theorem rds_last (n c : Nat) : rds (n + 1) c = rd (rds n c) := rds_add n 1 c
theorem and_one (m : Nat) (h : m < 4294967296) : bits .and .u32 (m : Int) 1 = ((m % 2 : Nat) : Int) := by
  have := u32_and_nat m 1 h (by omega)
  rw [nat_mask1] at this
  exact this
theorem rd_odd (m : Nat) (h : m < 4294967296) (ho : m % 2 = 1) : bits .xor .u32 ((m : Int) / 2) 3988292384 = ((rd m : Nat) : Int) := by
  have := u32_xor_nat (m / 2) 3988292384 (by omega) (by omega)
  have e : ((m / 2 : Nat) : Int) = (m : Int) / 2 := by omega
  rw [e] at this
  unfold rd
  rw [if_pos ho]
  exact this
theorem rd_even (m : Nat) (ho : ¬ m % 2 = 1) : (m : Int) / 2 = ((rd m : Nat) : Int) := by
  unfold rd
  rw [if_neg ho, Nat.xor_zero]
  omega
theorem ret_int {k : IntKind} {a b : Int} (h : a = b) : Ending.returned (.int k a) = .returned (.int k b) := by rw [h]

set_option maxRecDepth 100000 in
set_option maxHeartbeats 400000 in
theorem step_nat (c x : Nat) (hc : c < 4294967296) (hx : x < 256) (w : World) :
    Calls Try.prog 74 #[.int .u32 c, .int .u8 x] w fun e w' => e = .returned (.int .u32 (stp c x : Nat)) ∧ w = w' := by
  have h0 := u32_xor_nat c x hc (by omega)
  have hm := xor_lt32 hc (show x < 4294967296 by omega)
  have HS : Hid (stp c x = rds 8 (c ^^^ x)) := rfl
  generalize c ^^^ x = m0 at h0 hm HS
  generalize stp c x = S at HS ⊢
  go_enter Try.func74, Try.ntmps74
  go_wp2
  go_loop [0, 5, 10] (fun s _ i => ∃ k : Nat, k ≤ 8 ∧ i = .int .i64 k ∧ s = .int .u32 (rds k m0 : Nat)) (fun _ _ i => 8 - (intOf i).toNat)
  case atStart => exact ⟨0, by omega, rfl, rfl⟩
  case round =>
    obtain ⟨k, hk, rfl, rfl⟩ := hrel
    have hl := rds_lt k hm
    have HL : Hid (rds (k + 1) m0 = rd (rds k m0)) := rds_last k m0
    generalize hg : rds k m0 = m at hl HL
    have HG := Lib.hid hg; clear hg
    by_cases hlt : k < 8
    · by_cases ho : m % 2 = 1
      · have hb : bits .and .u32 (m : Int) 1 = 1 := by rw [and_one m hl, ho]; rfl
        have hr := rd_odd m hl ho
        have HO := Lib.hid ho; clear ho
        go_wp2
        go_round
        case rel => exact ⟨k + 1, by omega, by go_num, by rw [HL.out]⟩
        case measure => simp [intOf]; omega
      · have hb : bits .and .u32 (m : Int) 1 = 0 := by rw [and_one m hl]; omega
        have HR : Hid _ := rd_even m ho
        have HO := Lib.hid ho; clear ho
        go_wp2
        go_round
        case rel => exact ⟨k + 1, by omega, by go_num, by rw [HL.out, HR.out]⟩
        case measure => simp [intOf]; omega
    · obtain rfl : k = 8 := by omega
      go_wp2
      go_ret
      exact ⟨ret_int (by rw [HS.out, HG.out]), rfl⟩
theorem step_any (c x : Int) (h1 : 0 ≤ c) (h2 : c < 4294967296) (h3 : 0 ≤ x) (h4 : x < 256) (w : World) :
    Calls Try.prog 74 #[.int .u32 c, .int .u8 x] w fun e w' => e = .returned (.int .u32 (stp c.toNat x.toNat : Nat)) ∧ w = w' := by
  obtain ⟨c, rfl⟩ := Int.eq_ofNat_of_zero_le h1
  obtain ⟨x, rfl⟩ := Int.eq_ofNat_of_zero_le h3
  exact step_nat c x (by omega) (by omega) w
/-- The table, the first k of its octets reckoned. -/
def tblCells (k : Nat) : Array Value := ((List.range 256).map fun x => Value.int .u32 ((if x < k then rds 8 x else 0 : Nat) : Int)).toArray
theorem tblCells_size (k : Nat) : (tblCells k).size = 256 := by simp [tblCells]
theorem tblCells_get (k j : Nat) (hj : j < 256) : (tblCells k)[j]? = some (.int .u32 ((if j < k then rds 8 j else 0 : Nat) : Int)) := by
  simp [tblCells, hj]
theorem tblCells_set (k : Nat) (hk : k < 256) : (tblCells k).setIfInBounds k (.int .u32 (rds 8 k : Nat)) = tblCells (k + 1) := by
  apply Array.ext_getElem?
  intro j
  rw [Array.getElem?_setIfInBounds, tblCells_size]
  by_cases hj : j < 256
  · rw [tblCells_get k j hj, tblCells_get (k + 1) j hj]
    by_cases e : k = j
    · subst e; simp [hk]
    · rw [if_neg e]; congr 3; by_cases h : j < k <;> simp [h] <;> omega
  · rw [Array.getElem?_eq_none (by rw [tblCells_size]; omega), Array.getElem?_eq_none (by rw [tblCells_size]; omega), if_neg (by omega)]
theorem tblCells_one (k : Nat) : (tblCells k).all (·.oneCell') = true := by
  simp [tblCells, Value.oneCell']
theorem infoT : (Try.prog.info? 113).map (fun i => (i.zero, i.size)) = some (some (.agg (tblCells 0)), 256) := by kernel_rfl
theorem stp_zero (k : Nat) : stp 0 k = rds 8 k := by unfold stp; rw [Nat.zero_xor]
theorem table_round {w wr : World} {g k : Nat} (hk : k < 256) (h : Blk wr g 113 (tblCells k)) (hb : Below w.heap.size w wr) (hg : w.heap.size ≤ g) (S : Nat) (hS : S = stp 0 k) :
    Blk (wr.setCell ⟨g, k, none⟩ (.int .u32 S)) g 113 (tblCells (k + 1)) ∧ Below w.heap.size w (wr.setCell ⟨g, k, none⟩ (.int .u32 S)) := by
  subst hS
  rw [stp_zero]
  refine ⟨?_, hb.setCell hg _⟩
  have := h.put k (.int .u32 (rds 8 k : Nat))
  rwa [tblCells_set k hk] at this
set_option maxRecDepth 100000 in
set_option maxHeartbeats 400000 in
theorem table_any (w : World) :
    Calls Try.prog 73 #[] w fun e w' => e = .returned (.agg (tblCells 256)) ∧ Below w.heap.size w w' := by
  obtain ⟨hz, hs0⟩ := zero_of_info infoT
  have hs := Lib.hid hs0; clear hs0
  go_enter Try.func73, Try.ntmps73
  go_wp2
  clear hz
  go_loopw [2, 3] (fun _ i wr => ∃ k : Nat, k ≤ 256 ∧ i = .int .i64 k ∧ Blk wr w.heap.size 113 (tblCells 0) ∧ Blk wr (w.heap.size + 1) 113 (tblCells k) ∧ Below w.heap.size w wr)
    (fun _ i _ => 256 - (intOf i).toNat)
  case atStart =>
    refine ⟨0, by omega, rfl, (Blk.new _ _ _).alloc _, ?_, ((Below.refl _ _).alloc (Nat.le_refl _) _).alloc (by simp) _⟩
    have := Blk.new (w.alloc (.cells (tblCells 0) 113)) 113 (tblCells 0)
    rwa [World.size_alloc] at this
  case round =>
    obtain ⟨k, hk, rfl, hr0, hr1, hbl⟩ := hrel
    by_cases hlt : k < 256
    · have hc := (hr1.cell k).trans (tblCells_get k k hlt)
      rw [if_neg (by omega)] at hc
      have hf := hr1.frozen k
      go_wp2_with fail
      refine (step_any _ _ (by omega) (by omega) (by omega) (by omega) _).mono ?_
      rintro e w' ⟨rfl, rfl⟩
      have HS : Hid (stp (0 : Int).toNat (k : Int).toNat = stp 0 k) := rfl
      generalize stp (0 : Int).toNat (k : Int).toNat = S at HS ⊢
      go_wp2
      have R := table_round hlt hr1 hbl (Nat.le_succ _) S HS.out
      go_roundw
      case rel => exact ⟨k + 1, by omega, by go_num, hr0.away (by simp) _, R.1, R.2⟩
      case measure => simp [intOf]; omega
    · obtain rfl : k = 256 := by omega
      go_wp2_with (first
        | (refine wpList_load_row rfl 113 _ rfl (w.heap.size + 1) rfl 113 (tblCells 256) (0, 0) _ hr1 Try.underlying113 rfl (by rw [hs.out, tblCells_size]) ?_)
        | (refine wpList_store_row rfl 113 _ _ rfl w.heap.size (tblCells 256) rfl rfl 113 (tblCells 0) hr0 (by rw [hs.out, tblCells_size]) (by rw [tblCells_size, tblCells_size]) (tblCells_one _) ?_))
      refine bodyPost_ret (v := .agg (tblCells 256)) ?_ rfl ⟨rfl, below_setRow hbl (Nat.le_refl _) _⟩
      exact results_cell_row rfl _ _ w.heap.size 113 (tblCells 256) (0, 0) _ rfl (hr0.setRow _) Try.underlying113 rfl (by rw [hs.out, tblCells_size])
end Go.Proofs.Ytkkbncgnobaliaa
