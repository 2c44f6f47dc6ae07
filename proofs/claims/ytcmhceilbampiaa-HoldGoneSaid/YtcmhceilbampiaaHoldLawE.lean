/-
  HoldGone's walk.
-/
import Derived.Test.YtcmhceilbampiaaHoldAwake
import Derived.Test.YtcmhceilbampiaaHoldFacts2
import Derived.Test.YtcmhceilbampiaaOpen
import Derived.Laws.StructEq
namespace Go.Proofs.Ytcmhceilbampiaa
open Go.RowKit
open HoldP
set_option linter.unusedVariables false
theorem ret_true {b : Bool} (h : b = true) : Ending.returned (.bool b) = .returned (.bool true) := by rw [h]
set_option maxRecDepth 100000 in
set_option maxHeartbeats 3200000 in
theorem gone_good (w : World) (o : Bool) (s : Int) (i : Bool) (f : Int) (t m u k : Int) (a1 : 0 ≤ t) (a2 : 0 ≤ m) (a3 : t ≤ 4503599627370496) (a4 : m ≤ 4503599627370496) :
    Calls Try.prog 6 #[.agg #[.bool o, .int .i64 s, .bool i, .int .i64 f], .int .i64 t, .int .i64 m, .int .i64 u, .int .i64 k] w fun e w' => e = .returned (.bool true) ∧ Below w.heap.size w w' := by
  have G1 := Lib.hid (fun hg => gone_stays (h := ⟨o, s, i, f⟩) (t := t) (t' := t + m) (k := k) a1 (by omega) (by omega) hg u)
  have G2 := Lib.hid (fun hg => gone_again (h := ⟨o, s, i, f⟩) (t := t) (t' := t + m + 1) (k := k) a1 (by omega) a3 hg u)
  go_enter Try.func6, Try.ntmps6
  go_wp2_with fail
  refine (awake_any _).mono ?_
  rintro e w1 ⟨rfl, hb1⟩
  have K1 : Blk w1 w.heap.size 23 #[.bool o, .int .i64 s, .bool i, .int .i64 f] := (Blk.new w _ _).below hb1 (by simp)
  have hB1 : Below w.heap.size w w1 := ((Below.refl _ _).alloc (Nat.le_refl _) _).trans (hb1.mono (by simp))
  have p0 : w1.cell? ⟨w.heap.size, 0, none⟩ = some (.bool o) := K1.cell 0
  have p1 : w1.cell? ⟨w.heap.size, 1, none⟩ = some (.int .i64 s) := K1.cell 1
  have p2 : w1.cell? ⟨w.heap.size, 2, none⟩ = some (.bool i) := K1.cell 2
  have p3 : w1.cell? ⟨w.heap.size, 3, none⟩ = some (.int .i64 f) := K1.cell 3
  go_wp2_with fail
  refine (gone_any o s i f t k _).mono ?_
  rintro e w1' ⟨rfl, hb1'⟩
  have K1' := K1.below hb1' K1.lt
  have hB1' := hB1.trans (hb1'.mono hB1.size)
  clear p0 p1 p2 p3 K1 hb1 hb1' hB1
  cases hg : gone ⟨o, s, i, f⟩ t k
  · clear G1 G2
    go_wp2
    go_ret
    exact ⟨rfl, hB1'⟩
  · have A1 := Lib.hid (G1.out hg)
    have A2 := Lib.hid (G2.out hg)
    clear G1 G2 hg
    have p0 : w1'.cell? ⟨w.heap.size, 0, none⟩ = some (.bool o) := K1'.cell 0
    have p1 : w1'.cell? ⟨w.heap.size, 1, none⟩ = some (.int .i64 s) := K1'.cell 1
    have p2 : w1'.cell? ⟨w.heap.size, 2, none⟩ = some (.bool i) := K1'.cell 2
    have p3 : w1'.cell? ⟨w.heap.size, 3, none⟩ = some (.int .i64 f) := K1'.cell 3
    go_wp2_with fail
    refine (step_any o s i f false (t + m) u k _).mono ?_
    rintro e w2 ⟨rfl, hb2⟩
    rw [A1.out.1]
    have A3 := Lib.hid A1.out.2; clear A1
    generalize stepH ⟨o, s, i, f⟩ false (t + m) u = h at A3 ⊢
    obtain ⟨x0, x1, x2, x3⟩ := h
    simp only [hv]
    have L2 := (K1'.below hb2 K1'.lt).alloc (.cells #[.bool x0, .int .i64 x1, .bool x2, .int .i64 x3] 23)
    have X2 : Blk (w2.alloc (.cells #[.bool x0, .int .i64 x1, .bool x2, .int .i64 x3] 23)) w2.heap.size 23 #[.bool x0, .int .i64 x1, .bool x2, .int .i64 x3] := Blk.new _ _ _
    have hB2 := (hB1'.trans (hb2.mono hB1'.size)).alloc (by have := hB1'.size; have := hb2.size; omega) (.cells #[.bool x0, .int .i64 x1, .bool x2, .int .i64 x3] 23)
    clear p0 p1 p2 p3 K1' hb2 hB1'
    have p0 : (w2.alloc (.cells #[.bool x0, .int .i64 x1, .bool x2, .int .i64 x3] 23)).cell? ⟨w.heap.size, 0, none⟩ = some (.bool o) := L2.cell 0
    have p1 : (w2.alloc (.cells #[.bool x0, .int .i64 x1, .bool x2, .int .i64 x3] 23)).cell? ⟨w.heap.size, 1, none⟩ = some (.int .i64 s) := L2.cell 1
    have p2 : (w2.alloc (.cells #[.bool x0, .int .i64 x1, .bool x2, .int .i64 x3] 23)).cell? ⟨w.heap.size, 2, none⟩ = some (.bool i) := L2.cell 2
    have p3 : (w2.alloc (.cells #[.bool x0, .int .i64 x1, .bool x2, .int .i64 x3] 23)).cell? ⟨w.heap.size, 3, none⟩ = some (.int .i64 f) := L2.cell 3
    go_wp2_with fail
    generalize w2.alloc (.cells #[.bool x0, .int .i64 x1, .bool x2, .int .i64 x3] 23) = v2 at L2 X2 hB2 p0 p1 p2 p3 ⊢
    refine (step_any o s i f true (t + m + 1) u k _).mono ?_
    rintro e w3 ⟨rfl, hb3⟩
    generalize hm : now (stepH ⟨o, s, i, f⟩ true (t + m + 1) u) t k = mm
    clear hm mm
    generalize stepH ⟨o, s, i, f⟩ true (t + m + 1) u = h at A2 ⊢
    obtain ⟨y0, y1, y2, y3⟩ := h
    generalize now ⟨y0, y1, y2, y3⟩ (t + m + 1) k = n1 at A2 ⊢
    simp only [hv]
    have X3 := (X2.below hb3 X2.lt).alloc (.cells #[.bool y0, .int .i64 y1, .bool y2, .int .i64 y3] 23)
    have Y3 : Blk (w3.alloc (.cells #[.bool y0, .int .i64 y1, .bool y2, .int .i64 y3] 23)) w3.heap.size 23 #[.bool y0, .int .i64 y1, .bool y2, .int .i64 y3] := Blk.new _ _ _
    have hB3 := (hB2.trans (hb3.mono hB2.size)).alloc (by have := hB2.size; have := hb3.size; omega) (.cells #[.bool y0, .int .i64 y1, .bool y2, .int .i64 y3] 23)
    clear p0 p1 p2 p3 L2 X2 hb3 hB2
    go_wp2_with fail
    generalize w3.alloc (.cells #[.bool y0, .int .i64 y1, .bool y2, .int .i64 y3] 23) = v3 at X3 Y3 hB3 ⊢
    refine (step_any false 0 false 0 true (t + m + 1) u k _).mono ?_
    rintro e w4 ⟨rfl, hb4⟩
    generalize stepH ⟨false, 0, false, 0⟩ true (t + m + 1) u = h at A2 ⊢
    obtain ⟨z0, z1, z2, z3⟩ := h
    generalize now ⟨z0, z1, z2, z3⟩ (t + m + 1) k = n2 at A2 ⊢
    simp only [hv]
    obtain ⟨q1, q2, q3, q4⟩ := A2.out
    simp only at q2 q3
    subst q1 q2 q3
    have Q4 := Lib.hid q4; clear q4 A2
    have X4 := (X3.below hb4 X3.lt).alloc (.cells #[.bool y0, .int .i64 y1, .bool z2, .int .i64 z3] 23)
    have Y4 := (Y3.below hb4 Y3.lt).alloc (.cells #[.bool y0, .int .i64 y1, .bool z2, .int .i64 z3] 23)
    have Z4 : Blk (w4.alloc (.cells #[.bool y0, .int .i64 y1, .bool z2, .int .i64 z3] 23)) w4.heap.size 23 #[.bool y0, .int .i64 y1, .bool z2, .int .i64 z3] := Blk.new _ _ _
    have hB4 := (hB3.trans (hb4.mono hB3.size)).alloc (by have := hB3.size; have := hb4.size; omega) (.cells #[.bool y0, .int .i64 y1, .bool z2, .int .i64 z3] 23)
    clear X3 Y3 hb4 hB3
    have p0 : (w4.alloc (.cells #[.bool y0, .int .i64 y1, .bool z2, .int .i64 z3] 23)).cell? ⟨w2.heap.size, 0, none⟩ = some (.bool x0) := X4.cell 0
    have p1 : (w4.alloc (.cells #[.bool y0, .int .i64 y1, .bool z2, .int .i64 z3] 23)).cell? ⟨w2.heap.size, 1, none⟩ = some (.int .i64 x1) := X4.cell 1
    have p2 : (w4.alloc (.cells #[.bool y0, .int .i64 y1, .bool z2, .int .i64 z3] 23)).cell? ⟨w2.heap.size, 2, none⟩ = some (.bool x2) := X4.cell 2
    have p3 : (w4.alloc (.cells #[.bool y0, .int .i64 y1, .bool z2, .int .i64 z3] 23)).cell? ⟨w2.heap.size, 3, none⟩ = some (.int .i64 x3) := X4.cell 3
    go_wp2_with fail
    generalize w4.alloc (.cells #[.bool y0, .int .i64 y1, .bool z2, .int .i64 z3] 23) = v4 at X4 Y4 Z4 hB4 p0 p1 p2 p3 ⊢
    refine (gone_any x0 x1 x2 x3 (t + m) k _).mono ?_
    rintro e w5 ⟨rfl, hb5⟩
    rw [A3.out]
    have Y5 := Y4.below hb5 Y4.lt
    have Z5 := Z4.below hb5 Z4.lt
    have hB5 := hB4.trans (hb5.mono hB4.size)
    clear p0 p1 p2 p3 X4 Y4 Z4 hb5 hB4
    have p0 : w5.cell? ⟨w3.heap.size, 0, none⟩ = some (.bool y0) := Y5.cell 0
    have p1 : w5.cell? ⟨w3.heap.size, 1, none⟩ = some (.int .i64 y1) := Y5.cell 1
    have p2 : w5.cell? ⟨w3.heap.size, 2, none⟩ = some (.bool y2) := Y5.cell 2
    have p3 : w5.cell? ⟨w3.heap.size, 3, none⟩ = some (.int .i64 y3) := Y5.cell 3
    have r0 : w5.cell? ⟨w4.heap.size, 0, none⟩ = some (.bool y0) := Z5.cell 0
    have r1 : w5.cell? ⟨w4.heap.size, 1, none⟩ = some (.int .i64 y1) := Z5.cell 1
    have r2 : w5.cell? ⟨w4.heap.size, 2, none⟩ = some (.bool z2) := Z5.cell 2
    have r3 : w5.cell? ⟨w4.heap.size, 3, none⟩ = some (.int .i64 z3) := Z5.cell 3
    clear Y5 Z5
    cases z2
    · go_wp2
      go_ret
      exact ⟨ret_true (by simp), hB5⟩
    · have q := Q4.out rfl
      injection q with e1 e2 e3 e4
      subst e3 e4
      clear Q4
      go_wp2
      go_ret
      exact ⟨ret_true (by simp), hB5⟩
set_option maxRecDepth 100000 in
set_option maxHeartbeats 1600000 in
theorem holdGone_walk (w : World) (v : Value) (hv' : IsHold v) (t : Int) (ht1 : -9223372036854775808 ≤ t) (ht2 : t ≤ 9223372036854775807) (m : Int) (hm1 : -9223372036854775808 ≤ m) (hm2 : m ≤ 9223372036854775807) (u : Int) (hu1 : -9223372036854775808 ≤ u) (hu2 : u ≤ 9223372036854775807) (k : Int) (hk1 : -9223372036854775808 ≤ k) (hk2 : k ≤ 9223372036854775807) :
    Calls Try.prog 6 #[v, .int .i64 t, .int .i64 m, .int .i64 u, .int .i64 k] w fun e w' => e = .returned (.bool true) ∧ Below w.heap.size w w' := by
  obtain ⟨o, s, i, f, rfl, -, -⟩ := hv'
  by_cases a1 : 0 ≤ t <;> by_cases a2 : 0 ≤ m <;> by_cases a3 : t ≤ 4503599627370496 <;> by_cases a4 : m ≤ 4503599627370496
  all_goals
    first
      | exact gone_good w o s i f t m u k a1 a2 a3 a4
      | (exfalso; omega)
      | (go_enter Try.func6, Try.ntmps6
         go_wp2_with fail
         refine (awake_any _).mono ?_
         rintro e w1 ⟨rfl, hb1⟩
         go_wp2
         go_ret
         exact ⟨rfl, ((Below.refl _ _).alloc (Nat.le_refl _) _).trans (hb1.mono (by simp))⟩)
end Go.Proofs.Ytcmhceilbampiaa
