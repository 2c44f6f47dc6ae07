/-
  HoldPlain's walk.
-/
import Derived.Test.YtcmhceilbampiaaHoldAwake
import Derived.Test.YtcmhceilbampiaaHoldFacts2
import Derived.Test.YtcmhceilbampiaaOpen
namespace Go.Proofs.Ytcmhceilbampiaa
open Go.RowKit
open HoldP
set_option linter.unusedVariables false
theorem ret_true {b : Bool} (h : b = true) : Ending.returned (.bool b) = .returned (.bool true) := by rw [h]
set_option maxRecDepth 100000 in
set_option maxHeartbeats 1600000 in
theorem holdPlain_walk (w : World) (v : Value) (hv' : IsHold v) (c : Bool) (t : Int) (ht1 : -9223372036854775808 ≤ t) (ht2 : t ≤ 9223372036854775807) :
    Calls Try.prog 5 #[v, .bool c, .int .i64 t] w fun e w' => e = .returned (.bool true) ∧ Below w.heap.size w w' := by
  obtain ⟨o, s, i, f, rfl, -, -⟩ := hv'
  cases hsn : saneH ⟨o, s, i, f⟩
  · have HS := Lib.hid hsn; clear hsn
    go_enter Try.func5, Try.ntmps5
    go_wp2_with fail
    refine (awake_any _).mono ?_
    rintro e w1 ⟨rfl, hb1⟩
    have K1 : Blk w1 w.heap.size 23 #[.bool o, .int .i64 s, .bool i, .int .i64 f] := (Blk.new w _ _).below hb1 (by simp)
    have hB1 : Below w.heap.size w w1 := ((Below.refl _ _).alloc (Nat.le_refl _) _).trans (hb1.mono (by simp))
    have p0 : w1.cell? ⟨w.heap.size, 0, none⟩ = some (.bool o) := K1.cell 0
    have p1 : w1.cell? ⟨w.heap.size, 1, none⟩ = some (.int .i64 s) := K1.cell 1
    have p2 : w1.cell? ⟨w.heap.size, 2, none⟩ = some (.bool i) := K1.cell 2
    have p3 : w1.cell? ⟨w.heap.size, 3, none⟩ = some (.int .i64 f) := K1.cell 3
    go_wp2_with fail
    refine (sane_any o s i f _).mono ?_
    rintro e w2 ⟨rfl, hb2⟩
    rw [HS.out]
    go_wp2
    go_ret
    exact ⟨rfl, hB1.trans (hb2.mono hB1.size)⟩
  · have HS := Lib.hid hsn
    have H1 := Lib.hid (fun (h0 : 0 ≤ t) (h1 : t ≤ 9007199254740992) (hs : s ≤ t) => plain_true hsn h0 h1 hs)
    have H2 := Lib.hid (fun (h0 : 0 ≤ t) (h1 : t ≤ 9007199254740992) (hs : f < t) => plain_false hsn h0 h1 hs)
    have H3 := Lib.hid (fun (h0 : 0 ≤ t) (h1 : t ≤ 9007199254740992) => plain_first c h0 h1)
    clear hsn
    by_cases a1 : 0 ≤ t <;> by_cases a2 : t ≤ 9007199254740992 <;> by_cases a3 : s ≤ t <;> by_cases a4 : f < t
    all_goals
      go_enter Try.func5, Try.ntmps5
      go_wp2_with fail
      refine (awake_any _).mono ?_
      rintro e w1 ⟨rfl, hb1⟩
      have K1 : Blk w1 w.heap.size 23 #[.bool o, .int .i64 s, .bool i, .int .i64 f] := (Blk.new w _ _).below hb1 (by simp)
      have hB1 : Below w.heap.size w w1 := ((Below.refl _ _).alloc (Nat.le_refl _) _).trans (hb1.mono (by simp))
      have p0 : w1.cell? ⟨w.heap.size, 0, none⟩ = some (.bool o) := K1.cell 0
      have p1 : w1.cell? ⟨w.heap.size, 1, none⟩ = some (.int .i64 s) := K1.cell 1
      have p2 : w1.cell? ⟨w.heap.size, 2, none⟩ = some (.bool i) := K1.cell 2
      have p3 : w1.cell? ⟨w.heap.size, 3, none⟩ = some (.int .i64 f) := K1.cell 3
      go_wp2_with fail
      refine (sane_any o s i f _).mono ?_
      rintro e w2 ⟨rfl, hb2⟩
      rw [HS.out]
      have K2 := K1.below hb2 K1.lt
      have hB2 := hB1.trans (hb2.mono hB1.size)
      clear p0 p1 p2 p3 K1 hb1 hb2
      have p0 : w2.cell? ⟨w.heap.size, 0, none⟩ = some (.bool o) := K2.cell 0
      have p1 : w2.cell? ⟨w.heap.size, 1, none⟩ = some (.int .i64 s) := K2.cell 1
      have p2 : w2.cell? ⟨w.heap.size, 2, none⟩ = some (.bool i) := K2.cell 2
      have p3 : w2.cell? ⟨w.heap.size, 3, none⟩ = some (.int .i64 f) := K2.cell 3
      go_wp2_with fail
    all_goals
      first
        | (go_ret; exact ⟨rfl, hB2⟩)
        | skip
    refine (step_any o s i f c t 0 0 _).mono ?_
    rintro e w3 ⟨rfl, hb3⟩
    have hB3 := hB2.trans (hb3.mono hB2.size)
    clear p0 p1 p2 p3 K2 hb3
    cases c
    · rw [H2.out a1 a2 a4]
      generalize stepH ⟨o, s, i, f⟩ false t 0 = h1
      obtain ⟨o1, s1, i1, f1⟩ := h1
      simp only [hv]
      go_wp2_with fail
      refine (step_any false 0 false 0 false t 1 0 _).mono ?_
      rintro e w4 ⟨rfl, hb4⟩
      rw [H3.out a1 a2]
      generalize stepH ⟨false, 0, false, 0⟩ false t 1 = h2
      obtain ⟨o2, s2, i2, f2⟩ := h2
      simp only [hv]
      have hB4 := (hB3.alloc hB3.size (.cells #[.bool o1, .int .i64 s1, .bool i1, .int .i64 f1] 23)).trans (hb4.mono (by have := hB3.size; simp; omega))
      go_wp2
      go_ret
      exact ⟨rfl, hB4.alloc hB4.size _⟩
    · rw [H1.out a1 a2 a3]
      generalize stepH ⟨o, s, i, f⟩ true t 0 = h1
      obtain ⟨o1, s1, i1, f1⟩ := h1
      simp only [hv]
      go_wp2_with fail
      refine (step_any false 0 false 0 true t 1 0 _).mono ?_
      rintro e w4 ⟨rfl, hb4⟩
      rw [H3.out a1 a2]
      generalize stepH ⟨false, 0, false, 0⟩ true t 1 = h2
      obtain ⟨o2, s2, i2, f2⟩ := h2
      simp only [hv]
      have hB4 := (hB3.alloc hB3.size (.cells #[.bool o1, .int .i64 s1, .bool i1, .int .i64 f1] 23)).trans (hb4.mono (by have := hB3.size; simp; omega))
      go_wp2
      go_ret
      exact ⟨rfl, hB4.alloc hB4.size _⟩
end Go.Proofs.Ytcmhceilbampiaa
