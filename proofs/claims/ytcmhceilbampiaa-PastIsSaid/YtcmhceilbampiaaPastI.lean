/-
  THE REFERENCE's Ints and Pairs on rows that hold the same.
-/
import Derived.Test.YtcmhceilbampiaaPastAll
namespace Go.Proofs.Ytcmhceilbampiaa
open Go.RowKit
open PastP
set_option linter.unusedVariables false
/-- A slice that reads as this list, two cells an element. -/
structure R2 {α : Type} (w : World) (A : Option Addr) (n : Nat) (f : α → Value × Value) (l : List α) : Prop where
  len : n = l.length
  at_ : ∀ (i : Nat) (p : α), l[i]? = some p → ∃ b off, A = some ⟨b, off, none⟩ ∧ b < w.heap.size ∧ w.cell? ⟨b, off + i * 2, none⟩ = some (f p).1 ∧ w.cell? ⟨b, off + i * 2 + 1, none⟩ = some (f p).2
theorem R2.below {α : Type} {w w' : World} {A : Option Addr} {n : Nat} {f : α → Value × Value} {l : List α} (h : R2 w A n f l) (hb : Below w.heap.size w w') : R2 w' A n f l := ⟨h.len, fun i p hp => by
  obtain ⟨b, off, e, h1, h2, h3⟩ := h.at_ i p hp
  exact ⟨b, off, e, by have := hb.size; omega, (hb.cell (p := ⟨b, off + i * 2, none⟩) h1).trans h2, (hb.cell (p := ⟨b, off + i * 2 + 1, none⟩) h1).trans h3⟩⟩
/-- .. one cell an element. -/
structure R1 {α : Type} (w : World) (A : Option Addr) (n : Nat) (f : α → Value) (l : List α) : Prop where
  len : n = l.length
  at_ : ∀ (i : Nat) (p : α), l[i]? = some p → ∃ b off, A = some ⟨b, off, none⟩ ∧ b < w.heap.size ∧ w.cell? ⟨b, off + i, none⟩ = some (f p)
theorem R1.below {α : Type} {w w' : World} {A : Option Addr} {n : Nat} {f : α → Value} {l : List α} (h : R1 w A n f l) (hb : Below w.heap.size w w') : R1 w' A n f l := ⟨h.len, fun i p hp => by
  obtain ⟨b, off, e, h1, h2⟩ := h.at_ i p hp
  exact ⟨b, off, e, by have := hb.size; omega, (hb.cell (p := ⟨b, off + i, none⟩) h1).trans h2⟩⟩
theorem R1.take {α : Type} {w : World} {A : Option Addr} {n : Nat} {f : α → Value} {l : List α} (h : R1 w A n f l) {m : Nat} (hm : m ≤ n) : R1 w A m f (l.take m) := ⟨by have := h.len; rw [List.length_take]; omega, fun i p hp => h.at_ i p (by
  rw [List.getElem?_take] at hp
  split at hp
  · exact hp
  · cases hp)⟩
theorem Own2.r2 {α : Type} {w : World} {base e : Nat} {f : α → Value × Value} {v : Value} {l : List α} (h : Own2 w base e f v l) : ∃ A n cap, v = .slice A n cap ∧ n ≤ cap ∧ cap ≤ 9223372036854775807 ∧ R2 w A n f l := by
  obtain ⟨A, n, cap, hv, hn, h1, h2, h3⟩ := h.ats
  exact ⟨A, n, cap, hv, h1, h2, hn, h3⟩
theorem Own1.r1 {α : Type} {w : World} {base e : Nat} {f : α → Value} {v : Value} {l : List α} (h : Own1 w base e f v l) : ∃ A n cap, v = .slice A n cap ∧ n ≤ cap ∧ cap ≤ 9223372036854775807 ∧ R1 w A n f l := by
  obtain ⟨A, n, cap, rfl, rfl, hq, h1, h2⟩ := h.sl
  refine ⟨A, _, cap, rfl, h1, h2, rfl, fun i p hp => ?_⟩
  have hi : i < l.length := (List.getElem?_eq_some_iff.1 hp).1
  obtain ⟨b, off, e, hb, hc⟩ := hq (by omega)
  have := hc i hi
  simp only [hp, Option.map_some, Option.getD_some] at this
  exact ⟨b, off, e, hb, this⟩
def iv (z : Int) : Value := .int .i64 z
set_option maxRecDepth 100000 in
set_option maxHeartbeats 800000 in
theorem rints_same (A1 A2 : Option Addr) (n c1 c2 : Nat) (l : List Int) (w : World) (hn : n ≤ 9223372036854775807) (h1 : R1 w A1 n (fun z : Int => .int .i64 z) l) (h2 : R1 w A2 n (fun z : Int => .int .i64 z) l) :
    Calls Try.prog 33 #[.slice A1 n c1, .slice A2 n c2] w fun e w' => e = .returned (.bool true) ∧ Below w.heap.size w w' := by
  have H1 := Lib.hid h1; clear h1
  have H2 := Lib.hid h2; clear h2
  go_enter Try.func33, Try.ntmps33
  go_wp2
  go_loopw [5] (fun i wr => ∃ m : Nat, m ≤ n ∧ i = .int .i64 m ∧ Below w.heap.size w wr) (fun i _ => n - (intOf i).toNat)
  case atStart => exact ⟨0, by omega, rfl, Below.refl _ _⟩
  case round =>
    obtain ⟨m, hm, rfl, hB⟩ := hrel
    by_cases hlt : m < n
    · obtain ⟨z, hz⟩ : ∃ z, l[m]? = some z := ⟨_, List.getElem?_eq_getElem (by rw [← H1.out.len]; exact hlt)⟩
      obtain ⟨b1, o1, rfl, hb1, hc1⟩ := H1.out.at_ m z hz
      obtain ⟨b2, o2, rfl, hb2, hc2⟩ := H2.out.at_ m z hz
      clear hz
      have q1 : ∀ p : Bel wr, p.now.cell? ⟨b1, o1 + m, none⟩ = some (.int .i64 z) := fun p => (p.bel.cell (p := ⟨b1, o1 + m, none⟩) (by have := hB.size; show b1 < _; omega)).trans ((hB.cell (p := ⟨b1, o1 + m, none⟩) hb1).trans hc1)
      have q2 : ∀ p : Bel wr, p.now.cell? ⟨b2, o2 + m, none⟩ = some (.int .i64 z) := fun p => (p.bel.cell (p := ⟨b2, o2 + m, none⟩) (by have := hB.size; show b2 < _; omega)).trans ((hB.cell (p := ⟨b2, o2 + m, none⟩) hb2).trans hc2)
      clear hc1 hc2
      go_wp2_with fail
      refine wp_region_bel (by kernel_rfl) (by kernel_rfl) ?_
      repeat (
        refine WQ.step (fun KK hKK => ?_)
        go_simp
        refine hKK _ ?_; clear hKK KK)
      refine WQ.nil_ ?_
      rintro wq1 ⟨⟨wq, hq⟩, hwq⟩
      obtain rfl : wq = wq1 := hwq.symm
      clear hwq
      go_wp2
      go_roundw
      case rel => exact ⟨m + 1, by omega, by go_num, hB.trans (hq.mono hB.size)⟩
      case measure => simp [intOf]; omega
    · obtain rfl : m = n := by omega
      go_wp2
      go_ret
      exact ⟨rfl, hB⟩
set_option maxRecDepth 100000 in
set_option maxHeartbeats 800000 in
theorem rpairs_same (A1 A2 : Option Addr) (n c1 c2 : Nat) (l : List (Nat × Nat)) (w : World) (hn : n ≤ 9223372036854775807) (h1 : R2 w A1 n pr l) (h2 : R2 w A2 n pr l) :
    Calls Try.prog 28 #[.slice A1 n c1, .slice A2 n c2] w fun e w' => e = .returned (.bool true) ∧ Below w.heap.size w w' := by
  have H1 := Lib.hid h1; clear h1
  have H2 := Lib.hid h2; clear h2
  go_enter Try.func28, Try.ntmps28
  go_wp2
  go_loopw [5] (fun i wr => ∃ m : Nat, m ≤ n ∧ i = .int .i64 m ∧ Below w.heap.size w wr) (fun i _ => n - (intOf i).toNat)
  case atStart => exact ⟨0, by omega, rfl, Below.refl _ _⟩
  case round =>
    obtain ⟨m, hm, rfl, hB⟩ := hrel
    by_cases hlt : m < n
    · obtain ⟨⟨x, y⟩, hz⟩ : ∃ z, l[m]? = some z := ⟨_, List.getElem?_eq_getElem (by rw [← H1.out.len]; exact hlt)⟩
      obtain ⟨b1, o1, rfl, hb1, hc1, hd1⟩ := H1.out.at_ m (x, y) hz
      obtain ⟨b2, o2, rfl, hb2, hc2, hd2⟩ := H2.out.at_ m (x, y) hz
      clear hz
      have q1 : ∀ p : Bel wr, p.now.cell? ⟨b1, o1 + m * 2, none⟩ = some (.int .i64 (x : Int)) := fun p => (p.bel.cell (p := ⟨b1, o1 + m * 2, none⟩) (by have := hB.size; show b1 < _; omega)).trans ((hB.cell (p := ⟨b1, o1 + m * 2, none⟩) hb1).trans hc1)
      have r1 : ∀ p : Bel wr, p.now.cell? ⟨b1, o1 + m * 2 + 1, none⟩ = some (.int .i64 (y : Int)) := fun p => (p.bel.cell (p := ⟨b1, o1 + m * 2 + 1, none⟩) (by have := hB.size; show b1 < _; omega)).trans ((hB.cell (p := ⟨b1, o1 + m * 2 + 1, none⟩) hb1).trans hd1)
      have q2 : ∀ p : Bel wr, p.now.cell? ⟨b2, o2 + m * 2, none⟩ = some (.int .i64 (x : Int)) := fun p => (p.bel.cell (p := ⟨b2, o2 + m * 2, none⟩) (by have := hB.size; show b2 < _; omega)).trans ((hB.cell (p := ⟨b2, o2 + m * 2, none⟩) hb2).trans hc2)
      have r2 : ∀ p : Bel wr, p.now.cell? ⟨b2, o2 + m * 2 + 1, none⟩ = some (.int .i64 (y : Int)) := fun p => (p.bel.cell (p := ⟨b2, o2 + m * 2 + 1, none⟩) (by have := hB.size; show b2 < _; omega)).trans ((hB.cell (p := ⟨b2, o2 + m * 2 + 1, none⟩) hb2).trans hd2)
      have heq : ∀ w, (Op.equalIn 10000 44 (.agg #[.int .i64 (x : Int), .int .i64 (y : Int)]) (.agg #[.int .i64 (x : Int), .int .i64 (y : Int)])).run Try.prog w = .ok true w := fun w => by rw [eq_pair]; simp
      clear hc1 hc2 hd1 hd2
      go_wp2_with fail
      refine wp_region_bel (by kernel_rfl) (by kernel_rfl) ?_
      repeat (
        refine WQ.step (fun KK hKK => ?_)
        go_simp
        refine hKK _ ?_; clear hKK KK)
      refine WQ.nil_ ?_
      rintro wq1 ⟨⟨wq, hq⟩, hwq⟩
      obtain rfl : wq = wq1 := hwq.symm
      clear hwq
      go_wp2
      go_roundw
      case rel => exact ⟨m + 1, by omega, by go_num, hB.trans (hq.mono hB.size)⟩
      case measure => simp [intOf]; omega
    · obtain rfl : m = n := by omega
      go_wp2
      go_ret
      exact ⟨rfl, hB⟩
end Go.Proofs.Ytcmhceilbampiaa
