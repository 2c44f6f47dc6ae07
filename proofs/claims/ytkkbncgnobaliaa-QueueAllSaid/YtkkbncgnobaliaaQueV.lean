/-
  queues: SameNote, Few.
-/
import Derived.Test.YtkkbncgnobaliaaQueU
namespace Go.Proofs.Ytkkbncgnobaliaa
open Go.RowKit
open CodP
set_option linter.unusedVariables false
/-- Do two notes say the same? -/
def alike (y z : Nt) : Prop := y.L = z.L ∧ y.f = z.f ∧ y.t = z.t ∧ y.k = z.k ∧ y.x = z.x
set_option maxRecDepth 100000 in
set_option maxHeartbeats 1600000 in
theorem same_note (y z : Nt) (w : World) (hy : Rn w w.heap.size y) (hz : Rn w w.heap.size z) (h : alike y z) :
    Calls Try.prog 51 #[y.val, z.val] w fun e w' => e = .returned (.bool true) ∧ Below w.heap.size w w' := by
  obtain ⟨A, n, c, L, f, t, k, x⟩ := y
  obtain ⟨A', n', c', L', f', t', k', x'⟩ := z
  obtain ⟨rfl, rfl, rfl, rfl, rfl⟩ := h
  have HY := Lib.hid hy; clear hy
  have HZ := Lib.hid hz; clear hz
  have hn : n ≤ 9223372036854775807 := by have := HY.out.cap; simp at this; omega
  have hn' : n' ≤ 9223372036854775807 := by have := HZ.out.cap; simp at this; omega
  simp only [Nt.val]
  have hB0 : Below w.heap.size w ((w.alloc (.cells #[.slice A n c, .bool f, .int .i64 t, .int .i64 k, .int .i64 x] 80)).alloc (.cells #[.slice A' n' c', .bool f, .int .i64 t, .int .i64 k, .int .i64 x] 80)) := ((Below.refl _ _).alloc (Nat.le_refl _) _).alloc (by simp) _
  go_enter Try.func51, Try.ntmps51
  go_wp2_with fail
  refine (same_lab A n c L A' n' c' L _ hn hn' (HY.out.prs.now hB0) (HZ.out.prs.now hB0)).mono ?_
  rintro e w1 ⟨⟨b, rfl, hb⟩, hb1⟩
  obtain rfl := hb rfl
  have b0 := ((Blk.new w 80 #[.slice A n c, .bool f, .int .i64 t, .int .i64 k, .int .i64 x]).alloc (.cells #[.slice A' n' c', .bool f, .int .i64 t, .int .i64 k, .int .i64 x] 80)).below hb1 (by simp; omega)
  have b1 := (Blk.new (w.alloc (.cells #[.slice A n c, .bool f, .int .i64 t, .int .i64 k, .int .i64 x] 80)) 80 #[.slice A' n' c', .bool f, .int .i64 t, .int .i64 k, .int .i64 x]).below hb1 (by simp)
  simp only [World.size_alloc] at b1
  have x1 : w1.cell? ⟨w.heap.size, 1, none⟩ = some (.bool f) := b0.cell 1
  have x2 : w1.cell? ⟨w.heap.size, 2, none⟩ = some (.int .i64 t) := b0.cell 2
  have x3 : w1.cell? ⟨w.heap.size, 3, none⟩ = some (.int .i64 k) := b0.cell 3
  have x4 : w1.cell? ⟨w.heap.size, 4, none⟩ = some (.int .i64 x) := b0.cell 4
  have y1 : w1.cell? ⟨w.heap.size + 1, 1, none⟩ = some (.bool f) := b1.cell 1
  have y2 : w1.cell? ⟨w.heap.size + 1, 2, none⟩ = some (.int .i64 t) := b1.cell 2
  have y3 : w1.cell? ⟨w.heap.size + 1, 3, none⟩ = some (.int .i64 k) := b1.cell 3
  have y4 : w1.cell? ⟨w.heap.size + 1, 4, none⟩ = some (.int .i64 x) := b1.cell 4
  have hB1 := hB0.trans (hb1.mono hB0.size)
  clear hb1 b0 b1 hB0
  go_wp2
  go_ret
  exact ⟨rfl, hB1⟩
set_option maxRecDepth 100000 in
set_option maxHeartbeats 1600000 in
theorem few_q (v : Value) (d l : Int) (ns : List Nt) (w : World) (hb : QV w w.heap.size v ns d l) :
    Calls Try.prog 48 #[v] w fun e w' => (∃ b, e = .returned (.bool b)) ∧ Below w.heap.size w w' := by
  obtain ⟨A, n, c, rfl, h1, h2, h3⟩ := hb.out
  have HB := Lib.hid h1; clear h1 hb
  have b0 := Lib.hid (Blk.new w 75 #[.slice A n c, .int .i64 d, .int .i64 l])
  have hB0 : Below w.heap.size w (w.alloc (.cells #[.slice A n c, .int .i64 d, .int .i64 l] 75)) := (Below.refl _ _).alloc (Nat.le_refl _) _
  go_enter Try.func48, Try.ntmps48
  go_wp2
  go_loopw [3] (fun i wr => ∃ k : Nat, k ≤ n ∧ i = .int .i64 k ∧ Below w.heap.size w wr ∧ wr.cell? ⟨w.heap.size, 0, none⟩ = some (.slice A n c) ∧ w.heap.size < wr.heap.size) (fun i _ => n - (intOf i).toNat)
  case atStart => exact ⟨0, by omega, rfl, hB0, b0.out.cell 0, by simp⟩
  case round =>
    obtain ⟨k, hk, rfl, hB, hc0, hsz⟩ := hrel
    by_cases hlt : k < n
    · obtain ⟨b, off, rfl, hbB, z0, z1, z2, z3, z4⟩ := HB.out.at_ hlt
      obtain ⟨y, HY⟩ : ∃ y, Hid (nt ns k = y) := ⟨_, Lib.hid rfl⟩
      rw [HY.out] at z0
      have HR := Lib.hid (show Rn w w.heap.size y by rw [← HY.out]; exact HB.out.rn k hlt)
      obtain ⟨yA, yn, yc, yL, yf, yt, yk, yx⟩ := y
      have hx0 : wr.cell? ⟨b, off + k * 5, none⟩ = some (.slice yA yn yc) := (hB.cell (p := ⟨b, _, none⟩) hbB).trans z0
      have hyn : yn ≤ 9223372036854775807 := by have := HR.out.cap; simp at this; omega
      clear z0 z1 z2 z3 z4
      go_wp2_with fail
      refine (few_lab yA yn yc yL _ hyn (HR.out.prs.now hB)).mono ?_
      rintro e w1 ⟨⟨q, rfl, -⟩, hb1⟩
      have hB1 := hB.trans (hb1.mono hB.size)
      have hc1 := (hb1.cell (p := ⟨w.heap.size, 0, none⟩) hsz).trans hc0
      have hsz1 : w.heap.size < w1.heap.size := by have := hb1.size; omega
      clear hb1
      cases q
      · go_wp2
        go_ret
        exact ⟨⟨_, rfl⟩, hB1⟩
      · go_wp2
        go_roundw
        case rel => exact ⟨k + 1, by omega, by go_num, hB1, hc1, hsz1⟩
        case measure => simp [intOf]; omega
    · obtain rfl : k = n := by omega
      go_wp2
      all_goals first
        | (go_ret; exact ⟨⟨_, rfl⟩, hB⟩)
        | (exfalso; omega)
end Go.Proofs.Ytkkbncgnobaliaa
