/-
  THE PAST's awake.
-/
import Derived.Test.YtcmhceilbampiaaPastI
namespace Go.Proofs.Ytcmhceilbampiaa
open Go.RowKit
open HoldP
open PastP
set_option linter.unusedVariables false
def aT (i : Nat) : Int := [(0 : Int), 5, 6, 9].getD i 0
def aC (i : Nat) : Bool := [true, true, false, true].getD i false
theorem aS : SaneP 4 aT := ⟨by omega, fun i hi => by
  match i, hi with
  | 0, _ => decide
  | 1, _ => decide
  | 2, _ => decide
  | 3, _ => decide⟩
theorem aN : cntN 4 aT = 4 := cntN_of aS
theorem aR : runs aC 4 = [(0, 1), (3, 3)] := rfl
theorem a0 : atP aT aC 5 2 0 = 1 := atP_1 (by
  rintro ⟨b, hb, ⟨_, h⟩, _⟩
  obtain rfl : b = 0 := by omega
  revert h; decide) rfl
theorem a1 : atP aT aC 5 2 1 = 2 := atP_yes ⟨1, by omega, ⟨rfl, by decide⟩, .inl rfl⟩
theorem a2 : atP aT aC 5 2 2 = 2 := atP_yes ⟨1, by omega, ⟨rfl, by decide⟩, .inr (by decide)⟩
theorem a3 : atP aT aC 5 2 3 = 1 := atP_1 (by
  rintro ⟨b, hb, ⟨hc, h⟩, h2⟩
  match b, hb with
  | 0, _ => revert h; decide
  | 1, _ => revert h2; decide
  | 2, _ => revert hc; decide
  | 3, _ => revert h; decide) rfl
theorem aA : allL aT aC (clT 5) (clT 2) 4 = [1, 2, 2, 1] := by
  have e1 : clT 5 = 5 := by decide
  have e2 : clT 2 = 2 := by decide
  rw [e1, e2]
  simp only [allL, List.range, List.range.loop, List.map, a0, a1, a2, a3]
theorem aV1 : atV 4 aT aC 5 0 2 = 0 := by
  have := atV_at (n := 4) (T := aT) (C := aC) (w := 5) (k := 0) (I := 2) (by rw [aN]; omega)
  rw [show ((2 : Nat) : Int) = 2 from rfl] at this
  rw [this, show clT 5 = 5 from by decide, show clT 0 = 0 from by decide]
  refine atP_0 (fun h => ?_) rfl
  have := fires_nokeep h
  revert this; decide
theorem aV2 : atV 4 aT aC 5 0 4 = -1 := atV_no (by rw [aN]; omega)
theorem R2.lit {α : Type} {w : World} {g : Nat} {t : TypeId} {cs : Array Value} {f : α → Value × Value} {l : List α} (h : Blk w g t cs) {n : Nat} (hn : n = l.length) (hc : ∀ (i : Nat) (p : α), l[i]? = some p → cs[i * 2]? = some (f p).1 ∧ cs[i * 2 + 1]? = some (f p).2) : R2 w (some ⟨g, 0, none⟩) n f l :=
  ⟨hn, fun i p hp => ⟨g, 0, rfl, h.lt, by rw [Nat.zero_add, h.cell]; exact (hc i p hp).1, by rw [Nat.zero_add, h.cell]; exact (hc i p hp).2⟩⟩
theorem R1.lit {α : Type} {w : World} {g : Nat} {t : TypeId} {cs : Array Value} {f : α → Value} {l : List α} (h : Blk w g t cs) {n : Nat} (hn : n = l.length) (hc : ∀ (i : Nat) (p : α), l[i]? = some p → cs[i]? = some (f p)) : R1 w (some ⟨g, 0, none⟩) n f l :=
  ⟨hn, fun i p hp => ⟨g, 0, rfl, h.lt, by rw [Nat.zero_add, h.cell]; exact hc i p hp⟩⟩
theorem Ps.lit {w : World} {g : Nat} {t : TypeId} {cs : Array Value} {T : Nat → Int} {C : Nat → Bool} (h : Blk w g t cs) {n : Nat} (hc : ∀ i, i < n → cs[i * 2]? = some (.int .i64 (T i)) ∧ cs[i * 2 + 1]? = some (.bool (C i))) : Ps w w.heap.size (some ⟨g, 0, none⟩) n T C :=
  fun _ => ⟨g, 0, rfl, h.lt, fun i hi => ⟨by rw [Nat.zero_add, h.cell]; exact (hc i hi).1, by rw [Nat.zero_add, h.cell]; exact (hc i hi).2⟩⟩
set_option maxRecDepth 100000 in
set_option maxHeartbeats 1600000 in
theorem pawake_any (w : World) : Calls Try.prog 25 #[] w fun e w' => e = .returned (.bool true) ∧ Below w.heap.size w w' := by
  have hP0 := Lib.hid (Ps.lit (Blk.new w 46 #[.int .i64 0, .bool true, .int .i64 5, .bool true, .int .i64 6, .bool false, .int .i64 9, .bool true]) (T := aT) (C := aC) (n := 4) (fun i hi => by
    match i, hi with
    | 0, _ => exact ⟨rfl, rfl⟩
    | 1, _ => exact ⟨rfl, rfl⟩
    | 2, _ => exact ⟨rfl, rfl⟩
    | 3, _ => exact ⟨rfl, rfl⟩))
  have hB0 := (Below.refl w.heap.size w).alloc (Nat.le_refl _) (.cells #[.int .i64 0, .bool true, .int .i64 5, .bool true, .int .i64 6, .bool false, .int .i64 9, .bool true] 46)
  go_enter Try.func25, Try.ntmps25
  go_wp2_with fail
  generalize w.alloc (.cells #[.int .i64 0, .bool true, .int .i64 5, .bool true, .int .i64 6, .bool false, .int .i64 9, .bool true] 46) = w0 at hP0 hB0 ⊢
  refine (pruns_any _ 4 4 aT aC _ (by omega) (by omega) (by omega) hP0.out).mono ?_
  rintro e w1 ⟨⟨v, rfl, hown⟩, hb1⟩
  rw [aN, aR] at hown
  obtain ⟨A1, n1, c1, rfl, hc1, hd1, hr⟩ := hown.r2
  obtain rfl : n1 = 2 := hr.len
  have hB1 := hB0.trans (hb1.mono hB0.size)
  have hP1 := Lib.hid (Q2.now hP0.out hb1)
  have H1 := Lib.hid (hr.below (((Below.refl w1.heap.size w1).alloc (Nat.le_refl _) (.cells #[.int .i64 0, .int .i64 1, .int .i64 3, .int .i64 3] 44))))
  have HL := Lib.hid (R2.lit (Blk.new w1 44 #[.int .i64 0, .int .i64 1, .int .i64 3, .int .i64 3]) (f := pr) (l := [(0, 1), (3, 3)]) (n := 2) rfl (fun i p hp => by
    match i, hp with
    | 0, hp => cases hp; exact ⟨rfl, rfl⟩
    | 1, hp => cases hp; exact ⟨rfl, rfl⟩
    | i + 2, hp => cases hp))
  clear hown hr hP0
  go_wp2_with fail
  refine (rpairs_same A1 _ 2 c1 2 [(0, 1), (3, 3)] _ (by omega) H1.out HL.out).mono ?_
  rintro e w2 ⟨rfl, hb2⟩
  have hB2 := (hB1.alloc hB1.size (.cells #[.int .i64 0, .int .i64 1, .int .i64 3, .int .i64 3] 44)).trans (hb2.mono (by have := hB1.size; simp; omega))
  have hP2 := Lib.hid (Q2.now hP1.out (((Below.refl _ _).alloc (Nat.le_refl _) _).trans (hb2.mono (by simp))))
  clear H1 HL hP1 hb1 hb2
  go_wp2_with fail
  refine (pall_any _ 4 4 aT aC 5 2 _ (by omega) (by omega) (by omega) hP2.out).mono ?_
  rintro e w3 ⟨⟨v, rfl, hown⟩, hb3⟩
  rw [aN, aA] at hown
  obtain ⟨A3, n3, c3, rfl, hc3, hd3, hr⟩ := hown.r1
  obtain rfl : n3 = 4 := hr.len
  have hB3 := hB2.trans (hb3.mono hB2.size)
  have hP3 := Lib.hid (Q2.now hP2.out hb3)
  have H1 := Lib.hid (hr.below (((Below.refl w3.heap.size w3).alloc (Nat.le_refl _) (.cells #[.int .i64 1, .int .i64 2, .int .i64 2, .int .i64 1] 3))))
  have HL := Lib.hid (R1.lit (Blk.new w3 3 #[.int .i64 1, .int .i64 2, .int .i64 2, .int .i64 1]) (f := fun z : Int => .int .i64 z) (l := [1, 2, 2, 1]) (n := 4) rfl (fun i p hp => by
    match i, hp with
    | 0, hp => cases hp; rfl
    | 1, hp => cases hp; rfl
    | 2, hp => cases hp; rfl
    | 3, hp => cases hp; rfl
    | i + 4, hp => cases hp))
  clear hown hr hP2
  go_wp2_with fail
  refine (rints_same A3 _ 4 c3 4 [1, 2, 2, 1] _ (by omega) H1.out HL.out).mono ?_
  rintro e w4 ⟨rfl, hb4⟩
  have hB4 := (hB3.alloc hB3.size (.cells #[.int .i64 1, .int .i64 2, .int .i64 2, .int .i64 1] 3)).trans (hb4.mono (by have := hB3.size; simp; omega))
  have hP4 := Lib.hid (Q2.now hP3.out (((Below.refl _ _).alloc (Nat.le_refl _) _).trans (hb4.mono (by simp))))
  clear H1 HL hP3 hb3 hb4
  go_wp2_with fail
  refine (pat_any _ 4 4 aT aC 5 0 2 _ (by omega) (by omega) (by omega) _ (Nat.le_refl _) hP4.out).mono ?_
  rintro e w5 ⟨rfl, hb5⟩
  rw [aV1]
  have hP5 := Lib.hid (Q2.now hP4.out hb5)
  have hB5 := hB4.trans (hb5.mono hB4.size)
  clear hP4 hb5
  go_wp2_with fail
  refine (pat_any _ 4 4 aT aC 5 0 4 _ (by omega) (by omega) (by omega) _ (Nat.le_refl _) hP5.out).mono ?_
  rintro e w6 ⟨rfl, hb6⟩
  rw [aV2]
  have hP6 := Lib.hid (Q2.now hP5.out hb6)
  have hB6 := hB5.trans (hb6.mono hB5.size)
  clear hP5 hb6
  go_wp2_with fail
  refine (psane_any _ 4 4 aT aC _ (by omega) hP6.out).mono ?_
  rintro e w7 ⟨rfl, hb7⟩
  rw [saneB_iff.2 aS]
  go_wp2
  go_ret
  exact ⟨rfl, hB6.trans (hb7.mono hB6.size)⟩
end Go.Proofs.Ytcmhceilbampiaa
