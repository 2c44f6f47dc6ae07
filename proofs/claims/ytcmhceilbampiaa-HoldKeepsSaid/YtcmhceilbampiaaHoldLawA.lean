/-
  HoldKeeps' and HoldTwice's walks.
-/
import Derived.Test.YtcmhceilbampiaaHoldAwake
import Derived.Test.YtcmhceilbampiaaHoldFacts
import Derived.Test.YtcmhceilbampiaaOpen
namespace Go.Proofs.Ytcmhceilbampiaa
open Go.RowKit
open HoldP
set_option linter.unusedVariables false
theorem ret_true {b : Bool} (h : b = true) : Ending.returned (.bool b) = .returned (.bool true) := by rw [h]
set_option maxRecDepth 100000 in
set_option maxHeartbeats 1600000 in
theorem holdKeeps_walk (w : World) (v : Value) (hv' : IsHold v) (c : Bool) (t : Int) (ht1 : -9223372036854775808 ≤ t) (ht2 : t ≤ 9223372036854775807) (wt : Int) (hw1 : -9223372036854775808 ≤ wt) (hw2 : wt ≤ 9223372036854775807) (k : Int) (hk1 : -9223372036854775808 ≤ k) (hk2 : k ≤ 9223372036854775807) :
    Calls Try.prog 4 #[v, .bool c, .int .i64 t, .int .i64 wt, .int .i64 k] w fun e w' => e = .returned (.bool true) ∧ Below w.heap.size w w' := by
  obtain ⟨o, s, i, f, rfl, -, -⟩ := hv'
  have F1 := step_sane ⟨o, s, i, f⟩ c t wt
  have F2 := step_on ⟨o, s, i, f⟩ c t wt
  have F3 := now_vals (stepH ⟨o, s, i, f⟩ c t wt) t k
  have F4 : c = true → now (stepH ⟨o, s, i, f⟩ c t wt) t k ≠ 0 := fun e => now_on F1 (F2.trans e) t k
  have F5 : c = false → now (stepH ⟨o, s, i, f⟩ c t wt) t k ≠ 1 := fun e => now_off F1 (F2.trans e) t k
  have G1 := Lib.hid F1; clear F1
  have G2 := Lib.hid F2; clear F2
  have G4 := Lib.hid F4; clear F4
  have G5 := Lib.hid F5; clear F5
  go_enter Try.func4, Try.ntmps4
  go_wp2_with fail
  refine (awake_any _).mono ?_
  rintro e w1 ⟨rfl, hb1⟩
  have K1 : Blk w1 w.heap.size 23 #[.bool o, .int .i64 s, .bool i, .int .i64 f] := (Blk.new w _ _).below hb1 (by simp)
  have hB1 : Below w.heap.size w w1 := ((Below.refl _ _).alloc (Nat.le_refl _) _).trans (hb1.mono (by simp))
  have p0 : w1.cell? ⟨w.heap.size, 0, none⟩ = some (.bool o) := K1.cell 0
  have p1 : w1.cell? ⟨w.heap.size, 1, none⟩ = some (.int .i64 s) := K1.cell 1
  have p2 : w1.cell? ⟨w.heap.size, 2, none⟩ = some (.bool i) := K1.cell 2
  have p3 : w1.cell? ⟨w.heap.size, 3, none⟩ = some (.int .i64 f) := K1.cell 3
  go_wp2_with fail
  refine (step_any o s i f c t wt k _).mono ?_
  rintro e w2 ⟨rfl, hb2⟩
  generalize stepH ⟨o, s, i, f⟩ c t wt = h at G1 G2 F3 G4 G5 ⊢
  obtain ⟨o', s', i', f'⟩ := h
  simp only [hv]
  have hB2 := hB1.trans (hb2.mono hB1.size)
  clear p0 p1 p2 p3 K1 hb1 hb2
  generalize hn : now ⟨o', s', i', f'⟩ t k = n at F3 G4 G5 ⊢
  have Hn := Lib.hid hn; clear hn
  go_wp2_with fail
  refine (sane_any o' s' i' f' _).mono ?_
  rintro e w3 ⟨rfl, hb3⟩
  rw [G1.out]
  have K3 : Blk w3 w2.heap.size 23 #[.bool o', .int .i64 s', .bool i', .int .i64 f'] := (Blk.new w2 _ _).below hb3 (by simp)
  have hB3 := (hB2.alloc hB2.size (.cells #[.bool o', .int .i64 s', .bool i', .int .i64 f'] 23)).trans (hb3.mono (by have := hB2.size; simp; omega))
  have p0 : w3.cell? ⟨w2.heap.size, 0, none⟩ = some (.bool o') := K3.cell 0
  have p1 : w3.cell? ⟨w2.heap.size, 1, none⟩ = some (.int .i64 s') := K3.cell 1
  have p2 : w3.cell? ⟨w2.heap.size, 2, none⟩ = some (.bool i') := K3.cell 2
  have p3 : w3.cell? ⟨w2.heap.size, 3, none⟩ = some (.int .i64 f') := K3.cell 3
  clear hb3
  go_wp2_with fail
  refine (now_any o' s' i' f' t k _).mono ?_
  rintro e w4 ⟨rfl, hb4⟩
  rw [Hn.out]
  have K4 := K3.below hb4 K3.lt
  have hB4 := hB3.trans (hb4.mono hB3.size)
  clear p0 p1 p2 p3 K3 hb4
  have p0 : w4.cell? ⟨w2.heap.size, 0, none⟩ = some (.bool o') := K4.cell 0
  clear K4
  cases c
  · have d1 : (n != 1) = true := by simpa using G5.out rfl
    have e1 : o' = false := G2.out
    subst e1
    go_wp2
    go_ret
    exact ⟨ret_true (by simp <;> omega), hB4⟩
  · have d1 : (n != 0) = true := by simpa using G4.out rfl
    have e1 : o' = true := G2.out
    subst e1
    go_wp2
    go_ret
    exact ⟨ret_true (by simp <;> omega), hB4⟩
end Go.Proofs.Ytcmhceilbampiaa
