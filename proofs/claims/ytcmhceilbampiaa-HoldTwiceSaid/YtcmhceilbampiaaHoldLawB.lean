/-
  HoldTwice's walk.
-/
import Derived.Test.YtcmhceilbampiaaHoldAwake
import Derived.Test.YtcmhceilbampiaaHoldFacts
import Derived.Test.YtcmhceilbampiaaOpen
import Derived.Laws.StructEq
namespace Go.Proofs.Ytcmhceilbampiaa
open Go.RowKit
open HoldP
set_option linter.unusedVariables false
theorem ret_true {b : Bool} (h : b = true) : Ending.returned (.bool b) = .returned (.bool true) := by rw [h]
set_option maxRecDepth 100000 in
set_option maxHeartbeats 1600000 in
theorem holdTwice_walk (w : World) (v : Value) (hv' : IsHold v) (c : Bool) (t : Int) (ht1 : -9223372036854775808 ≤ t) (ht2 : t ≤ 9223372036854775807) (wt : Int) (hw1 : -9223372036854775808 ≤ wt) (hw2 : wt ≤ 9223372036854775807) (k : Int) (hk1 : -9223372036854775808 ≤ k) (hk2 : k ≤ 9223372036854775807) :
    Calls Try.prog 8 #[v, .bool c, .int .i64 t, .int .i64 wt, .int .i64 k] w fun e w' => e = .returned (.bool true) ∧ Below w.heap.size w w' := by
  obtain ⟨o, s, i, f, rfl, -, -⟩ := hv'
  have G1 := Lib.hid (step_twice ⟨o, s, i, f⟩ c t wt)
  go_enter Try.func8, Try.ntmps8
  go_wp2_with fail
  refine (awake_any _).mono ?_
  rintro e w1 ⟨rfl, hb1⟩
  have K1 : Blk w1 w.heap.size 23 #[.bool o, .int .i64 s, .bool i, .int .i64 f] := (Blk.new w _ _).below hb1 (by simp)
  have hB1 : Below w.heap.size w w1 := ((Below.refl _ _).alloc (Nat.le_refl _) _).trans (hb1.mono (by simp))
  have p0 : w1.cell? ⟨w.heap.size, 0, none⟩ = some (.bool o) := K1.cell 0
  have p1 : w1.cell? ⟨w.heap.size, 1, none⟩ = some (.int .i64 s) := K1.cell 1
  have p2 : w1.cell? ⟨w.heap.size, 2, none⟩ = some (.bool i) := K1.cell 2
  have p3 : w1.cell? ⟨w.heap.size, 3, none⟩ = some (.int .i64 f) := K1.cell 3
  go_wp2_with fail
  refine (step_any o s i f c t wt k _).mono ?_
  rintro e w2 ⟨rfl, hb2⟩
  generalize stepH ⟨o, s, i, f⟩ c t wt = h at G1 ⊢
  obtain ⟨o', s', i', f'⟩ := h
  simp only [hv]
  have hB2 := hB1.trans (hb2.mono hB1.size)
  clear p0 p1 p2 p3 K1 hb1 hb2
  go_wp2_with fail
  refine (step_any o' s' i' f' c t wt k _).mono ?_
  rintro e w3 ⟨rfl, hb3⟩
  rw [G1.out]
  simp only [hv]
  generalize now ⟨o', s', i', f'⟩ t k = n
  have K3 : Blk w3 w2.heap.size 23 #[.bool o', .int .i64 s', .bool i', .int .i64 f'] := (Blk.new w2 _ _).below hb3 (by simp)
  have hB3 := (hB2.alloc hB2.size (.cells #[.bool o', .int .i64 s', .bool i', .int .i64 f'] 23)).trans (hb3.mono (by have := hB2.size; simp; omega))
  have K4 := K3.alloc (.cells #[.bool o', .int .i64 s', .bool i', .int .i64 f'] 23)
  have hB4 := hB3.alloc hB3.size (.cells #[.bool o', .int .i64 s', .bool i', .int .i64 f'] 23)
  have p0 : (w3.alloc (.cells #[.bool o', .int .i64 s', .bool i', .int .i64 f'] 23)).cell? ⟨w2.heap.size, 0, none⟩ = some (.bool o') := K4.cell 0
  have p1 : (w3.alloc (.cells #[.bool o', .int .i64 s', .bool i', .int .i64 f'] 23)).cell? ⟨w2.heap.size, 1, none⟩ = some (.int .i64 s') := K4.cell 1
  have p2 : (w3.alloc (.cells #[.bool o', .int .i64 s', .bool i', .int .i64 f'] 23)).cell? ⟨w2.heap.size, 2, none⟩ = some (.bool i') := K4.cell 2
  have p3 : (w3.alloc (.cells #[.bool o', .int .i64 s', .bool i', .int .i64 f'] 23)).cell? ⟨w2.heap.size, 3, none⟩ = some (.int .i64 f') := K4.cell 3
  clear hb3 K3
  go_wp2
  go_ret
  exact ⟨rfl, hB4⟩
end Go.Proofs.Ytcmhceilbampiaa
