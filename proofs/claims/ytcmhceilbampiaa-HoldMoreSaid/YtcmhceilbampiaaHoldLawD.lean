/-
  HoldMore's walk.
-/
import Derived.Test.YtcmhceilbampiaaHoldAwake
import Derived.Test.YtcmhceilbampiaaHoldFacts2
import Derived.Test.YtcmhceilbampiaaOpen
namespace Go.Proofs.Ytcmhceilbampiaa
open Go.RowKit
open HoldP
set_option linter.unusedVariables false
theorem ret_true {b : Bool} (h : b = true) : Ending.returned (.bool b) = .returned (.bool true) := by rw [h]
set_option maxRecDepth 100000 in
set_option maxHeartbeats 1600000 in
theorem more_good (w : World) (o : Bool) (s : Int) (i : Bool) (f : Int) (c : Bool) (t wt k m : Int) (a1 : 0 ≤ wt) (a2 : 0 ≤ k) (a3 : 0 ≤ m) (a4 : wt ≤ 4503599627370496) (a5 : k ≤ 4503599627370496) (a6 : m ≤ 4503599627370496) :
    Calls Try.prog 7 #[.agg #[.bool o, .int .i64 s, .bool i, .int .i64 f], .bool c, .int .i64 t, .int .i64 wt, .int .i64 k, .int .i64 m] w fun e w' => e = .returned (.bool true) ∧ Below w.heap.size w w' := by
  have F1 := more_wait ⟨o, s, i, f⟩ c t k (show wt ≤ wt + m by omega)
  have F2 := more_keep (stepH ⟨o, s, i, f⟩ c t wt) t (show k ≤ k + m by omega)
  have G1 := Lib.hid F1; clear F1
  have G2 := Lib.hid F2; clear F2
  go_enter Try.func7, Try.ntmps7
  go_wp2_with fail
  refine (awake_any _).mono ?_
  rintro e w1 ⟨rfl, hb1⟩
  have K1 : Blk w1 w.heap.size 23 #[.bool o, .int .i64 s, .bool i, .int .i64 f] := (Blk.new w _ _).below hb1 (by simp)
  have hB1 : Below w.heap.size w w1 := ((Below.refl _ _).alloc (Nat.le_refl _) _).trans (hb1.mono (by simp))
  have p0 : w1.cell? ⟨w.heap.size, 0, none⟩ = some (.bool o) := K1.cell 0
  have p1 : w1.cell? ⟨w.heap.size, 1, none⟩ = some (.int .i64 s) := K1.cell 1
  have p2 : w1.cell? ⟨w.heap.size, 2, none⟩ = some (.bool i) := K1.cell 2
  have p3 : w1.cell? ⟨w.heap.size, 3, none⟩ = some (.int .i64 f) := K1.cell 3
  go_wp2_with fail
  refine (step_any o s i f c t wt k _).mono ?_
  rintro e w2 ⟨rfl, hb2⟩
  generalize hn : now (stepH ⟨o, s, i, f⟩ c t wt) t k = n at G1 G2 ⊢
  have Hn := Lib.hid hn; clear hn
  generalize hh : hv (stepH ⟨o, s, i, f⟩ c t wt) = h1
  have Hh := Lib.hid hh; clear hh
  obtain ⟨x0, x1, x2, x3, rfl⟩ : ∃ x0 x1 x2 x3, h1 = #[.bool x0, .int .i64 x1, .bool x2, .int .i64 x3] := ⟨_, _, _, _, Hh.out.symm⟩
  have L2 := (K1.below hb2 K1.lt).alloc (.cells #[.bool x0, .int .i64 x1, .bool x2, .int .i64 x3] 23)
  have hB2 := (hB1.trans (hb2.mono hB1.size)).alloc (by have := hB1.size; have := hb2.size; omega) (.cells #[.bool x0, .int .i64 x1, .bool x2, .int .i64 x3] 23)
  clear p0 p1 p2 p3 K1 hb1 hb2 hB1
  have p0 : (w2.alloc (.cells #[.bool x0, .int .i64 x1, .bool x2, .int .i64 x3] 23)).cell? ⟨w.heap.size, 0, none⟩ = some (.bool o) := L2.cell 0
  have p1 : (w2.alloc (.cells #[.bool x0, .int .i64 x1, .bool x2, .int .i64 x3] 23)).cell? ⟨w.heap.size, 1, none⟩ = some (.int .i64 s) := L2.cell 1
  have p2 : (w2.alloc (.cells #[.bool x0, .int .i64 x1, .bool x2, .int .i64 x3] 23)).cell? ⟨w.heap.size, 2, none⟩ = some (.bool i) := L2.cell 2
  have p3 : (w2.alloc (.cells #[.bool x0, .int .i64 x1, .bool x2, .int .i64 x3] 23)).cell? ⟨w.heap.size, 3, none⟩ = some (.int .i64 f) := L2.cell 3
  go_wp2_with fail
  refine (step_any o s i f c t (wt + m) k _).mono ?_
  rintro e w3 ⟨rfl, hb3⟩
  generalize now (stepH ⟨o, s, i, f⟩ c t (wt + m)) t k = n2 at G1 ⊢
  generalize hh : hv (stepH ⟨o, s, i, f⟩ c t (wt + m)) = h2
  have Hh2 := Lib.hid hh; clear hh
  obtain ⟨y0, y1, y2, y3, rfl⟩ : ∃ x0 x1 x2 x3, h2 = #[.bool x0, .int .i64 x1, .bool x2, .int .i64 x3] := ⟨_, _, _, _, Hh2.out.symm⟩
  have L3 := (L2.below hb3 L2.lt).alloc (.cells #[.bool y0, .int .i64 y1, .bool y2, .int .i64 y3] 23)
  have hB3 := (hB2.trans (hb3.mono hB2.size)).alloc (by have := hB2.size; have := hb3.size; omega) (.cells #[.bool y0, .int .i64 y1, .bool y2, .int .i64 y3] 23)
  clear p0 p1 p2 p3 L2 hb3 hB2
  have p0 : (w3.alloc (.cells #[.bool y0, .int .i64 y1, .bool y2, .int .i64 y3] 23)).cell? ⟨w.heap.size, 0, none⟩ = some (.bool o) := L3.cell 0
  have p1 : (w3.alloc (.cells #[.bool y0, .int .i64 y1, .bool y2, .int .i64 y3] 23)).cell? ⟨w.heap.size, 1, none⟩ = some (.int .i64 s) := L3.cell 1
  have p2 : (w3.alloc (.cells #[.bool y0, .int .i64 y1, .bool y2, .int .i64 y3] 23)).cell? ⟨w.heap.size, 2, none⟩ = some (.bool i) := L3.cell 2
  have p3 : (w3.alloc (.cells #[.bool y0, .int .i64 y1, .bool y2, .int .i64 y3] 23)).cell? ⟨w.heap.size, 3, none⟩ = some (.int .i64 f) := L3.cell 3
  go_wp2_with fail
  refine (step_any o s i f c t wt (k + m) _).mono ?_
  rintro e w4 ⟨rfl, hb4⟩
  generalize now (stepH ⟨o, s, i, f⟩ c t wt) t (k + m) = n3 at G2 ⊢
  rw [Hh.out]
  have hB4 := (hB3.trans (hb4.mono hB3.size)).alloc (by have := hB3.size; have := hb4.size; omega) (.cells #[.bool x0, .int .i64 x1, .bool x2, .int .i64 x3] 23)
  clear p0 p1 p2 p3 L3 hb4 hB3 Hh Hh2 Hn
  by_cases b1 : n = 2
  · have e3 := G2.out b1
    subst b1
    subst e3
    clear G1 G2
    cases b2 : (n2 != 2)
    all_goals
      go_wp2
      go_ret
      exact ⟨ret_true (by simp), hB4⟩
  · have b2 : (n2 != 2) = true := by simp; exact fun e => b1 (G1.out e)
    have b3 : (n != 2) = true := by simpa using b1
    have B1 := Lib.hid b1
    clear b1 G1 G2
    go_wp2
    go_ret
    exact ⟨ret_true (by simp), hB4⟩
set_option maxRecDepth 100000 in
set_option maxHeartbeats 1600000 in
theorem holdMore_walk (w : World) (v : Value) (hv' : IsHold v) (c : Bool) (t : Int) (ht1 : -9223372036854775808 ≤ t) (ht2 : t ≤ 9223372036854775807) (wt : Int) (hw1 : -9223372036854775808 ≤ wt) (hw2 : wt ≤ 9223372036854775807) (k : Int) (hk1 : -9223372036854775808 ≤ k) (hk2 : k ≤ 9223372036854775807) (m : Int) (hm1 : -9223372036854775808 ≤ m) (hm2 : m ≤ 9223372036854775807) :
    Calls Try.prog 7 #[v, .bool c, .int .i64 t, .int .i64 wt, .int .i64 k, .int .i64 m] w fun e w' => e = .returned (.bool true) ∧ Below w.heap.size w w' := by
  obtain ⟨o, s, i, f, rfl, -, -⟩ := hv'
  by_cases a1 : 0 ≤ wt <;> by_cases a2 : 0 ≤ k <;> by_cases a3 : 0 ≤ m <;> by_cases a4 : wt ≤ 4503599627370496 <;> by_cases a5 : k ≤ 4503599627370496 <;> by_cases a6 : m ≤ 4503599627370496
  all_goals
    first
      | exact more_good w o s i f c t wt k m a1 a2 a3 a4 a5 a6
      | (exfalso; omega)
      | (go_enter Try.func7, Try.ntmps7
         go_wp2_with fail
         refine (awake_any _).mono ?_
         rintro e w1 ⟨rfl, hb1⟩
         go_wp2
         go_ret
         exact ⟨rfl, ((Below.refl _ _).alloc (Nat.le_refl _) _).trans (hb1.mono (by simp))⟩)
end Go.Proofs.Ytcmhceilbampiaa
