/-
  HoldIs's walk: hold's answers are the document's.
-/
import Derived.Test.YtcmhceilbampiaaHoldAwake
import Derived.Test.YtcmhceilbampiaaHoldFacts
import Derived.Test.YtcmhceilbampiaaHoldGone
import Derived.Test.YtcmhceilbampiaaHoldRefGone
import Derived.Test.YtcmhceilbampiaaOpen
import Derived.Laws.StructEq
namespace Go.Proofs.Ytcmhceilbampiaa
open Go.RowKit
open HoldP
set_option linter.unusedVariables false
set_option maxRecDepth 100000 in
set_option maxHeartbeats 3200000 in
theorem holdIs_walk (w : World) (v : Value) (hv' : IsHold v) (c : Bool) (t : Int) (ht1 : -9223372036854775808 ≤ t) (ht2 : t ≤ 9223372036854775807) (wt : Int) (hw1 : -9223372036854775808 ≤ wt) (hw2 : wt ≤ 9223372036854775807) (k : Int) (hk1 : -9223372036854775808 ≤ k) (hk2 : k ≤ 9223372036854775807) :
    Calls Try.prog 3 #[v, .bool c, .int .i64 t, .int .i64 wt, .int .i64 k] w fun e w' => e = .returned (.bool true) ∧ Below w.heap.size w w' := by
  obtain ⟨o, s, i, f, rfl, -, -⟩ := hv'
  go_enter Try.func3, Try.ntmps3
  go_wp2_with fail
  refine (awake_any _).mono ?_
  rintro e w1 ⟨rfl, hb1⟩
  have K1 : Blk w1 w.heap.size 23 #[.bool o, .int .i64 s, .bool i, .int .i64 f] := (Blk.new w _ _).below hb1 (by simp)
  have hB1 : Below w.heap.size w w1 := ((Below.refl _ _).alloc (Nat.le_refl _) _).trans (hb1.mono (by simp))
  have hz1 : w.heap.size < w1.heap.size := by have := hb1.size; simp at this; omega
  have p0 : w1.cell? ⟨w.heap.size, 0, none⟩ = some (.bool o) := K1.cell 0
  have p1 : w1.cell? ⟨w.heap.size, 1, none⟩ = some (.int .i64 s) := K1.cell 1
  have p2 : w1.cell? ⟨w.heap.size, 2, none⟩ = some (.bool i) := K1.cell 2
  have p3 : w1.cell? ⟨w.heap.size, 3, none⟩ = some (.int .i64 f) := K1.cell 3
  clear hb1
  go_wp2_with fail
  refine (step_any o s i f c t wt k _).mono ?_
  rintro e w2 ⟨rfl, hb2⟩
  obtain ⟨h, hh⟩ : ∃ h, stepH ⟨o, s, i, f⟩ c t wt = h := ⟨_, rfl⟩
  have RS : ∀ W', Calls Try.prog 18 #[.agg #[.bool o, .int .i64 s, .bool i, .int .i64 f], .bool c, .int .i64 t, .int .i64 wt, .int .i64 k] W' fun e w' =>
    e = .returned (.tuple #[.agg (hv h), .int .i64 (now h t k)]) ∧ Below W'.heap.size W' w' := fun W' => by rw [← hh]; exact rstep_any o s i f c t wt k W'
  rw [hh]
  clear hh
  obtain ⟨o', s', i', f'⟩ := h
  simp only [hv] at RS ⊢
  generalize now ⟨o', s', i', f'⟩ t k = n at RS ⊢
  have RS' := Lib.hid RS; clear RS
  have hB2 := hB1.trans (hb2.mono hB1.size)
  have K2 := K1.below hb2 hz1
  have hz2 : w.heap.size < w2.heap.size := by have := hb2.size; omega
  clear p0 p1 p2 p3 K1 hb2
  have hB3 := hB2.alloc hB2.size (.cells #[.bool o', .int .i64 s', .bool i', .int .i64 f'] 23)
  have K3 := K2.alloc (.cells #[.bool o', .int .i64 s', .bool i', .int .i64 f'] 23)
  have L3 : Blk (w2.alloc (.cells #[.bool o', .int .i64 s', .bool i', .int .i64 f'] 23)) w2.heap.size 23 #[.bool o', .int .i64 s', .bool i', .int .i64 f'] := Blk.new _ _ _
  have p0 : (w2.alloc (.cells #[.bool o', .int .i64 s', .bool i', .int .i64 f'] 23)).cell? ⟨w.heap.size, 0, none⟩ = some (.bool o) := K3.cell 0
  have p1 : (w2.alloc (.cells #[.bool o', .int .i64 s', .bool i', .int .i64 f'] 23)).cell? ⟨w.heap.size, 1, none⟩ = some (.int .i64 s) := K3.cell 1
  have p2 : (w2.alloc (.cells #[.bool o', .int .i64 s', .bool i', .int .i64 f'] 23)).cell? ⟨w.heap.size, 2, none⟩ = some (.bool i) := K3.cell 2
  have p3 : (w2.alloc (.cells #[.bool o', .int .i64 s', .bool i', .int .i64 f'] 23)).cell? ⟨w.heap.size, 3, none⟩ = some (.int .i64 f) := K3.cell 3
  have hz3 : (w2.alloc (.cells #[.bool o', .int .i64 s', .bool i', .int .i64 f'] 23)).heap.size = w2.heap.size + 1 := by simp
  go_wp2_with fail
  refine (RS'.out _).mono ?_
  rintro e w3 ⟨rfl, hb3⟩
  have K4 := K3.below hb3 (by omega)
  have L4 := L3.below hb3 (by omega)
  have hB4 := hB3.trans (hb3.mono hB3.size)
  have hz4 : w2.heap.size < w3.heap.size := by have := hb3.size; omega
  clear p0 p1 p2 p3 K3 L3 hb3 K2 hB3 hz3
  have K5 := K4.alloc (.cells #[.bool o', .int .i64 s', .bool i', .int .i64 f'] 23)
  have L5 := L4.alloc (.cells #[.bool o', .int .i64 s', .bool i', .int .i64 f'] 23)
  have M5 : Blk (w3.alloc (.cells #[.bool o', .int .i64 s', .bool i', .int .i64 f'] 23)) w3.heap.size 23 #[.bool o', .int .i64 s', .bool i', .int .i64 f'] := Blk.new _ _ _
  have hB5 := hB4.alloc hB4.size (.cells #[.bool o', .int .i64 s', .bool i', .int .i64 f'] 23)
  clear K4 L4 hB4
  go_wp2_with fail
  generalize (w3.alloc (.cells #[.bool o', .int .i64 s', .bool i', .int .i64 f'] 23)) = W at K5 L5 M5 hB5 ⊢
  have q0 : ∀ p : Bel W, p.now.cell? ⟨w.heap.size, 0, none⟩ = some (.bool o) := Bel.cells K5 0
  have q1 : ∀ p : Bel W, p.now.cell? ⟨w.heap.size, 1, none⟩ = some (.int .i64 s) := Bel.cells K5 1
  have q2 : ∀ p : Bel W, p.now.cell? ⟨w.heap.size, 2, none⟩ = some (.bool i) := Bel.cells K5 2
  have q3 : ∀ p : Bel W, p.now.cell? ⟨w.heap.size, 3, none⟩ = some (.int .i64 f) := Bel.cells K5 3
  have u0 : ∀ p : Bel W, p.now.cell? ⟨w2.heap.size, 0, none⟩ = some (.bool o') := Bel.cells L5 0
  have u1 : ∀ p : Bel W, p.now.cell? ⟨w2.heap.size, 1, none⟩ = some (.int .i64 s') := Bel.cells L5 1
  have u2 : ∀ p : Bel W, p.now.cell? ⟨w2.heap.size, 2, none⟩ = some (.bool i') := Bel.cells L5 2
  have u3 : ∀ p : Bel W, p.now.cell? ⟨w2.heap.size, 3, none⟩ = some (.int .i64 f') := Bel.cells L5 3
  have t0 : ∀ p : Bel W, p.now.cell? ⟨w3.heap.size, 0, none⟩ = some (.bool o') := Bel.cells M5 0
  have t1 : ∀ p : Bel W, p.now.cell? ⟨w3.heap.size, 1, none⟩ = some (.int .i64 s') := Bel.cells M5 1
  have t2 : ∀ p : Bel W, p.now.cell? ⟨w3.heap.size, 2, none⟩ = some (.bool i') := Bel.cells M5 2
  have t3 : ∀ p : Bel W, p.now.cell? ⟨w3.heap.size, 3, none⟩ = some (.int .i64 f') := Bel.cells M5 3
  have S1 := Lib.hid (show ∀ p : Bel W, Calls Try.prog 19 #[.agg #[.bool o, .int .i64 s, .bool i, .int .i64 f]] p.now fun e w'' => e = .returned (.bool (saneH ⟨o, s, i, f⟩)) ∧ ∃ q : Bel W, w'' = q.now from fun p => Calls.bel_of (sane_any o s i f p.now))
  have S2 := Lib.hid (show ∀ p : Bel W, Calls Try.prog 20 #[.agg #[.bool o, .int .i64 s, .bool i, .int .i64 f]] p.now fun e w'' => e = .returned (.bool (saneH ⟨o, s, i, f⟩)) ∧ ∃ q : Bel W, w'' = q.now from fun p => Calls.bel_of (rsane_any o s i f p.now))
  have S3 := Lib.hid (show ∀ p : Bel W, Calls Try.prog 21 #[.agg #[.bool o, .int .i64 s, .bool i, .int .i64 f], .int .i64 t, .int .i64 k] p.now fun e w'' => e = .returned (.int .i64 (now ⟨o, s, i, f⟩ t k)) ∧ ∃ q : Bel W, w'' = q.now from fun p => Calls.bel_of (now_any o s i f t k p.now))
  have S4 := Lib.hid (show ∀ p : Bel W, Calls Try.prog 22 #[.agg #[.bool o, .int .i64 s, .bool i, .int .i64 f], .int .i64 t, .int .i64 k] p.now fun e w'' => e = .returned (.int .i64 (now ⟨o, s, i, f⟩ t k)) ∧ ∃ q : Bel W, w'' = q.now from fun p => Calls.bel_of (rnow_any o s i f t k p.now))
  have S5 := Lib.hid (show ∀ p : Bel W, Calls Try.prog 23 #[.agg #[.bool o, .int .i64 s, .bool i, .int .i64 f], .int .i64 t, .int .i64 k] p.now fun e w'' => e = .returned (.bool (gone ⟨o, s, i, f⟩ t k)) ∧ ∃ q : Bel W, w'' = q.now from fun p => Calls.bel_of (gone_any o s i f t k p.now))
  have S6 := Lib.hid (show ∀ p : Bel W, Calls Try.prog 24 #[.agg #[.bool o, .int .i64 s, .bool i, .int .i64 f], .int .i64 t, .int .i64 k] p.now fun e w'' => e = .returned (.bool (gone ⟨o, s, i, f⟩ t k)) ∧ ∃ q : Bel W, w'' = q.now from fun p => Calls.bel_of (rgone_any o s i f t k p.now))
  generalize saneH ⟨o, s, i, f⟩ = b1 at S1 S2
  generalize now ⟨o, s, i, f⟩ t k = n2 at S3 S4
  generalize gone ⟨o, s, i, f⟩ t k = b3 at S5 S6
  clear K5 L5 M5 RS'
  refine wp_region_bel (by kernel_rfl) (by kernel_rfl) ?_
  repeat (
    refine WQ.step (fun KK hKK => ?_)
    go_simp
    first
      | (refine hKK _ ?_; clear hKK KK)
      | (apply Exists.intro; refine ⟨fun _ => ?_, hKK _ ?_⟩; (first
          | (go_at_call 19; exact S1.out _)
          | (go_at_call 20; exact S2.out _)
          | (go_at_call 21; exact S3.out _)
          | (go_at_call 22; exact S4.out _)
          | (go_at_call 23; exact S5.out _)
          | (go_at_call 24; exact S6.out _)); clear hKK KK))
  refine WQ.nil_ ?_
  rintro _ ⟨⟨wq, hq⟩, rfl⟩
  go_wp2
  go_ret
  exact ⟨rfl, hB5.trans (hq.mono hB5.size)⟩
end Go.Proofs.Ytcmhceilbampiaa
