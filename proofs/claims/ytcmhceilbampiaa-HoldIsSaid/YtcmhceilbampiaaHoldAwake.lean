/-
  THE LAWS' 'awake' (package watchtowerlaw15) returns true: the document's example.
-/
import Derived.Test.YtcmhceilbampiaaHoldStep
import Derived.Test.YtcmhceilbampiaaHoldGone
import Derived.Deep.WholeRow
namespace Go.Proofs.Ytcmhceilbampiaa
open Go.RowKit
open HoldP
/-- The example's hold behind k looks; what it was at them. -/
def exH : Nat → Hd
  | 0 => ⟨false, 0, false, 0⟩
  | 1 => ⟨true, 0, false, 0⟩
  | 2 => ⟨true, 0, false, 0⟩
  | 3 => ⟨true, 0, true, 10⟩
  | _ => ⟨true, 0, true, 15⟩
def exN : Nat → Int
  | 0 => 1
  | 1 => 1
  | 2 => 2
  | _ => 2
def exS (k : Nat) : Array Value := ((List.range 4).map fun j => Value.int .i64 (if j < k then exN j else 0)).toArray
theorem ex_step (k : Nat) (hk : k < 4) : stepH (exH k) true (5 * (k : Int)) 10 = exH (k + 1) ∧ now (exH (k + 1)) (5 * (k : Int)) 0 = exN k := by
  match k, hk with
  | 0, _ => exact ⟨rfl, rfl⟩
  | 1, _ => exact ⟨rfl, rfl⟩
  | 2, _ => exact ⟨rfl, rfl⟩
  | 3, _ => exact ⟨rfl, rfl⟩
theorem ex_last : stepH ⟨true, 0, true, 15⟩ false 20 10 = ⟨false, 0, true, 15⟩ ∧ now ⟨false, 0, true, 15⟩ 20 6 = 2 ∧ now ⟨false, 0, true, 15⟩ 20 5 = 0 ∧ saneH ⟨true, 0, true, 15⟩ = true ∧ now ⟨true, 0, true, 15⟩ 15 0 = 2 ∧ gone ⟨false, 0, false, 0⟩ 3 0 = true :=
  ⟨rfl, rfl, rfl, rfl, rfl, rfl⟩
theorem exS_get (k j : Nat) (hj : j < 4) : (exS k)[j]? = some (.int .i64 (if j < k then exN j else 0)) := by simp [exS, hj]
theorem exS_size (k : Nat) : (exS k).size = 4 := by simp [exS]
theorem exS_set (k : Nat) (hk : k < 4) (v : Int) (hv : v = exN k) : (exS k).setIfInBounds k (.int .i64 v) = exS (k + 1) := by
  subst hv
  apply Array.ext_getElem?
  intro j
  rw [Array.getElem?_setIfInBounds, exS_size]
  by_cases hj : j < 4
  · rw [exS_get k j hj, exS_get (k + 1) j hj]
    by_cases e : k = j
    · subst e; simp [hk]
    · rw [if_neg e]; congr 3; simp; omega
  · rw [Array.getElem?_eq_none (by rw [exS_size]; omega), Array.getElem?_eq_none (by rw [exS_size]; omega), if_neg (by omega)]
theorem infoA4 : (Try.prog.info? 49).map (fun i => (i.zero, i.size)) = some (some (.agg (exS 0)), 4) := by kernel_rfl
theorem ex_eq (w : World) : (Op.equalIn 10000 49 (.agg (exS 4)) (.agg #[.int .i64 1, .int .i64 1, .int .i64 2, .int .i64 2])).run Try.prog w = .ok true w := by kernel_rfl
set_option maxRecDepth 100000 in
set_option maxHeartbeats 1600000 in
theorem awake_any (w : World) : Calls Try.prog 16 #[] w fun e w' => e = .returned (.bool true) ∧ Below w.heap.size w w' := by
  obtain ⟨hz, hs0⟩ := zero_of_info infoA4
  have hs := Lib.hid hs0; clear hs0
  go_enter Try.func16, Try.ntmps16
  go_wp2_with fail
  clear hz
  go_loopw [3, 4, 5] (fun i _ _ wr => ∃ k : Nat, k ≤ 4 ∧ i = .int .i64 k ∧ Blk wr w.heap.size 23 (hv (exH k)) ∧ Blk wr (w.heap.size + 1) 49 (exS k) ∧ Below w.heap.size w wr) (fun i _ _ _ => 4 - (intOf i).toNat)
  case atStart =>
    refine ⟨0, by omega, rfl, (((Blk.new w _ _)).alloc _), blk_new_at (by simp) rfl, ?_⟩
    exact ((Below.refl _ _).alloc (Nat.le_refl _) _).alloc (by simp) _
  case round =>
    obtain ⟨k, hk, rfl, hr0, hr1, hB⟩ := hrel
    by_cases hlt : k < 4
    · have HE := Lib.hid (ex_step k hlt)
      generalize hh : exH k = h at hr0 HE
      have HH := Lib.hid hh; clear hh
      obtain ⟨o, s, i, f⟩ := h
      have p0 : wr.cell? ⟨w.heap.size, 0, none⟩ = some (.bool o) := hr0.cell 0
      have p1 : wr.cell? ⟨w.heap.size, 1, none⟩ = some (.int .i64 s) := hr0.cell 1
      have p2 : wr.cell? ⟨w.heap.size, 2, none⟩ = some (.bool i) := hr0.cell 2
      have p3 : wr.cell? ⟨w.heap.size, 3, none⟩ = some (.int .i64 f) := hr0.cell 3
      go_wp2_with fail
      refine (step_any o s i f true (5 * (k : Int)) 10 0 _).mono ?_
      rintro e w1 ⟨rfl, hb1⟩
      rw [HE.out.1, HE.out.2]
      clear p0 p1 p2 p3
      have hB1 := hB.trans (hb1.mono hB.size)
      have hq0 := hr0.below hb1 hr0.lt
      have hq1 := hr1.below hb1 hr1.lt
      generalize hh : exH (k + 1) = h' at HE ⊢
      have HH' := Lib.hid hh; clear hh
      obtain ⟨o', s', i', f'⟩ := h'
      have hlt1 := hq1.lt
      have n0 : w.heap.size ≠ w1.heap.size := by omega
      have n2 : w.heap.size + 1 ≠ w1.heap.size := by omega
      have c4 : (hv ⟨o', s', i', f'⟩).size = 4 := rfl
      have B0 : Blk (w1.alloc (.cells #[.bool false, .int .i64 0, .bool false, .int .i64 0] 23)) w1.heap.size 23 #[.bool false, .int .i64 0, .bool false, .int .i64 0] := Blk.new _ _ _
      have B1 := B0.setRow (hv ⟨o', s', i', f'⟩)
      have B2 := ((hq0.alloc (.cells #[.bool false, .int .i64 0, .bool false, .int .i64 0] 23)).setRow_away n0 (hv ⟨o', s', i', f'⟩))
      have B3 := B2.setRow (hv ⟨o', s', i', f'⟩)
      have B4 := (((hq1.alloc (.cells #[.bool false, .int .i64 0, .bool false, .int .i64 0] 23)).setRow_away n2 (hv ⟨o', s', i', f'⟩)).setRow_away (g' := w.heap.size) (by omega) (hv ⟨o', s', i', f'⟩))
      have BB := below_setRow (below_setRow (hB1.alloc hB1.size (.cells #[.bool false, .int .i64 0, .bool false, .int .i64 0] 23)) hB1.size (hv ⟨o', s', i', f'⟩)) (Nat.le_refl _) (hv ⟨o', s', i', f'⟩)
      have a0 := (B4.cell k).trans (exS_get k k hlt)
      have a1 := B4.frozen k
      have h1 : (hv ⟨o', s', i', f'⟩).all (·.oneCell') = true := by simp [hv, Value.oneCell']
      clear hq0 hq1
      go_wp2_with (first
        | (refine wpList_store_row rfl 23 (.tmp 4) (.tmp 20) rfl w1.heap.size (hv ⟨o', s', i', f'⟩) rfl rfl 23 _ B0 sizeHold rfl h1 ?_)
        | (refine wpList_load_row rfl 23 (.tmp 4) rfl w1.heap.size rfl 23 (hv ⟨o', s', i', f'⟩) (0, 0) _ B1 Try.underlying23 rfl sizeHold ?_)
        | (refine wpList_store_row rfl 23 (.tmp 1) (.tmp 22) rfl w.heap.size (hv ⟨o', s', i', f'⟩) rfl rfl 23 _ B2 sizeHold rfl h1 ?_))
      go_roundw
      case rel =>
        refine ⟨k + 1, by omega, by go_num, ?_, ?_, BB.setCell (Nat.le_succ _) _⟩
        · rw [HH'.out]; exact B3.away (by simp) _
        · have := B4.put k (.int .i64 (exN k))
          rwa [exS_set k hlt _ rfl] at this
      case measure => simp [intOf]; omega
    · obtain rfl : k = 4 := by omega
      have p0 : wr.cell? ⟨w.heap.size, 0, none⟩ = some (.bool true) := hr0.cell 0
      have p1 : wr.cell? ⟨w.heap.size, 1, none⟩ = some (.int .i64 0) := hr0.cell 1
      have p2 : wr.cell? ⟨w.heap.size, 2, none⟩ = some (.bool true) := hr0.cell 2
      have p3 : wr.cell? ⟨w.heap.size, 3, none⟩ = some (.int .i64 15) := hr0.cell 3
      have hz0 := hr1.lt
      go_wp2_with fail
      refine (step_any true 0 true 15 false 20 10 6 _).mono ?_
      rintro e w1 ⟨rfl, hb1⟩
      rw [ex_last.1, ex_last.2.1]
      simp only [hv]
      have hz1 := hb1.size
      obtain ⟨hc1, -⟩ := bcell hb1
      have hq0 := (hr0.below hb1 hr0.lt).alloc (.cells #[.bool false, .int .i64 0, .bool true, .int .i64 15] 23)
      have hq1 := (hr1.below hb1 hr1.lt).alloc (.cells #[.bool false, .int .i64 0, .bool true, .int .i64 15] 23)
      have hB1 := (hB.trans (hb1.mono hB.size)).alloc (by omega) (.cells #[.bool false, .int .i64 0, .bool true, .int .i64 15] 23)
      clear hc1 p0 p1 p2 p3
      have p0 : (w1.alloc (.cells #[.bool false, .int .i64 0, .bool true, .int .i64 15] 23)).cell? ⟨w.heap.size, 0, none⟩ = some (.bool true) := hq0.cell 0
      have p1 : (w1.alloc (.cells #[.bool false, .int .i64 0, .bool true, .int .i64 15] 23)).cell? ⟨w.heap.size, 1, none⟩ = some (.int .i64 0) := hq0.cell 1
      have p2 : (w1.alloc (.cells #[.bool false, .int .i64 0, .bool true, .int .i64 15] 23)).cell? ⟨w.heap.size, 2, none⟩ = some (.bool true) := hq0.cell 2
      have p3 : (w1.alloc (.cells #[.bool false, .int .i64 0, .bool true, .int .i64 15] 23)).cell? ⟨w.heap.size, 3, none⟩ = some (.int .i64 15) := hq0.cell 3
      go_wp2_with fail
      generalize w1.alloc (.cells #[.bool false, .int .i64 0, .bool true, .int .i64 15] 23) = v1 at hq0 hq1 hB1 p0 p1 p2 p3 ⊢
      refine (step_any true 0 true 15 false 20 10 5 _).mono ?_
      rintro e w2 ⟨rfl, hb2⟩
      rw [ex_last.1, ex_last.2.2.1]
      simp only [hv]
      have hz2 := hb2.size
      have hr2 := (hq0.below hb2 hq0.lt).alloc (.cells #[.bool false, .int .i64 0, .bool true, .int .i64 15] 23)
      have hr3 := (hq1.below hb2 hq1.lt).alloc (.cells #[.bool false, .int .i64 0, .bool true, .int .i64 15] 23)
      have hB2 := (hB1.trans (hb2.mono hB1.size)).alloc (by have := hB1.size; omega) (.cells #[.bool false, .int .i64 0, .bool true, .int .i64 15] 23)
      clear p0 p1 p2 p3 hq0 hq1 hB1
      have p0 : (w2.alloc (.cells #[.bool false, .int .i64 0, .bool true, .int .i64 15] 23)).cell? ⟨w.heap.size, 0, none⟩ = some (.bool true) := hr2.cell 0
      have p1 : (w2.alloc (.cells #[.bool false, .int .i64 0, .bool true, .int .i64 15] 23)).cell? ⟨w.heap.size, 1, none⟩ = some (.int .i64 0) := hr2.cell 1
      have p2 : (w2.alloc (.cells #[.bool false, .int .i64 0, .bool true, .int .i64 15] 23)).cell? ⟨w.heap.size, 2, none⟩ = some (.bool true) := hr2.cell 2
      have p3 : (w2.alloc (.cells #[.bool false, .int .i64 0, .bool true, .int .i64 15] 23)).cell? ⟨w.heap.size, 3, none⟩ = some (.int .i64 15) := hr2.cell 3
      have hs4 := Lib.hid (show (Try.prog.info? 49).map (·.size) = some (exS 4).size from by rw [hs.out, exS_size])
      go_wp2_with (refine wpList_load_row rfl 49 (.tmp 2) rfl (w.heap.size + 1) rfl 49 (exS 4) (0, 0) _ hr3 Try.underlying49 rfl hs4.out ?_)
      rw [ex_eq]
      go_simp
      go_wp2_with fail
      refine (sane_any true 0 true 15 _).mono ?_
      rintro e w3 ⟨rfl, hb3⟩
      rw [ex_last.2.2.2.1]
      have hr4 := hr2.below hb3 hr2.lt
      have hB3 := hB2.trans (hb3.mono hB2.size)
      clear p0 p1 p2 p3 hr2 hr3 hB2 hb3
      have p0 : w3.cell? ⟨w.heap.size, 0, none⟩ = some (.bool true) := hr4.cell 0
      have p1 : w3.cell? ⟨w.heap.size, 1, none⟩ = some (.int .i64 0) := hr4.cell 1
      have p2 : w3.cell? ⟨w.heap.size, 2, none⟩ = some (.bool true) := hr4.cell 2
      have p3 : w3.cell? ⟨w.heap.size, 3, none⟩ = some (.int .i64 15) := hr4.cell 3
      go_wp2_with fail
      refine (now_any true 0 true 15 15 0 _).mono ?_
      rintro e w4 ⟨rfl, hb4⟩
      rw [ex_last.2.2.2.2.1]
      go_wp2_with fail
      refine (gone_any false 0 false 0 3 0 _).mono ?_
      rintro e w5 ⟨rfl, hb5⟩
      rw [ex_last.2.2.2.2.2]
      go_wp2
      go_ret
      have hB4 := hB3.trans (hb4.mono hB3.size)
      exact ⟨rfl, hB4.trans (hb5.mono hB4.size)⟩
end Go.Proofs.Ytcmhceilbampiaa
