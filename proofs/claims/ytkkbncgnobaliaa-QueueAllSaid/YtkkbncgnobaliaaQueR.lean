/-
  queues: Ready.
-/
import Derived.Test.YtkkbncgnobaliaaQueP
namespace Go.Proofs.Ytkkbncgnobaliaa
open Go.RowKit
open CodP
set_option linter.unusedVariables false
/-- May the first one be sent? -/
def rdB (ns : List Nt) (t : Int) : Bool := decide (0 < ns.length) && decide ((nt ns 0).x ≤ near t)
def rdN (ns : List Nt) (t : Int) : Nt := if rdB ns t then nt ns 0 else default
theorem Blk.agg5 {w : World} {g : Nat} {t : TypeId} {a0 a1 a2 a3 a4 : Value} (h : Blk w g t #[a0, a1, a2, a3, a4]) (u0 u1 u2 u3 u4 : Value) : Blk (((((w.setCell ⟨g, 0, none⟩ u0).setCell ⟨g, 1, none⟩ u1).setCell ⟨g, 2, none⟩ u2).setCell ⟨g, 3, none⟩ u3).setCell ⟨g, 4, none⟩ u4) g t #[u0, u1, u2, u3, u4] := ((((h.put 0 u0).put 1 u1).put 2 u2).put 3 u3).put 4 u4
theorem below_set5 {B : Nat} {a w : World} (h : Below B a w) {k : Nat} (hk : B ≤ k) (u0 u1 u2 u3 u4 : Value) : Below B a (((((w.setCell ⟨k, 0, none⟩ u0).setCell ⟨k, 1, none⟩ u1).setCell ⟨k, 2, none⟩ u2).setCell ⟨k, 3, none⟩ u3).setCell ⟨k, 4, none⟩ u4) := ((((h.setCell hk u0).setCell hk u1).setCell hk u2).setCell hk u3).setCell hk u4
set_option maxRecDepth 100000 in
set_option maxHeartbeats 3200000 in
theorem ready_at (v : Value) (d l : Int) (ns : List Nt) (t : Int) (w : World) (hb : QV w w.heap.size v ns d l) :
    Calls Try.prog 53 #[v, .int .i64 t] w fun e w' => e = .returned (.tuple #[(rdN (cNs ns d l) t).val, .bool (rdB (cNs ns d l) t)]) ∧ Below w.heap.size w w' := by
  have HB := Lib.hid hb
  obtain ⟨A0, n0, c0, rfl, h1, h2, h3⟩ := hb.out; clear h1 hb
  obtain ⟨ns1, H1⟩ : ∃ x, Hid (cNs ns d l = x) := ⟨_, Lib.hid rfl⟩
  obtain ⟨d1, H2⟩ : ∃ x, Hid (cI ns d l d = x) := ⟨_, Lib.hid rfl⟩
  obtain ⟨l1, H3⟩ : ∃ x, Hid (cI ns d l l = x) := ⟨_, Lib.hid rfl⟩
  go_enter Try.func53, Try.ntmps53
  go_wp2_with fail
  refine (counted_at w.heap.size _ d l ns _ (by simp; omega) (HB.out.below ?hb0)).mono ?_
  case hb0 => exact ((Below.refl _ _).alloc (Nat.le_refl _) _).alloc (by simp) _
  rintro e w1 ⟨⟨v1, rfl, hq1⟩, hb1⟩
  rw [H1.out, H2.out, H3.out] at hq1
  have hB1 : Below w.heap.size w w1 := (((Below.refl w.heap.size w).alloc (Nat.le_refl _) _).alloc (by simp) _).trans (hb1.mono (by simp; omega))
  have b0 := ((Blk.new w 75 #[.slice A0 n0 c0, .int .i64 d, .int .i64 l]).alloc (.cells #[.slice none 0 0, .bool false, .int .i64 0, .int .i64 0, .int .i64 0] 80)).below hb1 (by simp; omega)
  have b1 := (Blk.new (w.alloc (.cells #[.slice A0 n0 c0, .int .i64 d, .int .i64 l] 75)) 80 #[.slice none 0 0, .bool false, .int .i64 0, .int .i64 0, .int .i64 0]).below hb1 (by simp)
  simp only [World.size_alloc] at b1
  obtain ⟨A1, n1, c1, rfl, hq1, hnc1, hc1⟩ := hq1.out
  have hlen1 : ns1.length = n1 := hq1.len
  have x0 : w1.frozen? ⟨w.heap.size, 0, none⟩ = false := b0.frozen 0
  have x1 : w1.frozen? ⟨w.heap.size, 1, none⟩ = false := b0.frozen 1
  have x2 : w1.frozen? ⟨w.heap.size, 2, none⟩ = false := b0.frozen 2
  have hz0 : w1.cell? ⟨w.heap.size, 0, none⟩ = some (.slice A0 n0 c0) := b0.cell 0
  have hz1 : w1.cell? ⟨w.heap.size, 1, none⟩ = some (.int .i64 d) := b0.cell 1
  have hz2 : w1.cell? ⟨w.heap.size, 2, none⟩ = some (.int .i64 l) := b0.cell 2
  have g0 := b0.agg3 (.slice A1 n1 c1) (.int .i64 d1) (.int .i64 l1)
  have g1 := b1.away3 (k := w.heap.size) (by omega) (.slice A1 n1 c1) (.int .i64 d1) (.int .i64 l1)
  have hB2 := below_set3 hB1 (Nat.le_refl _) (.slice A1 n1 c1) (.int .i64 d1) (.int .i64 l1)
  have HQ := Lib.hid (((hq1.setCell (p := ⟨w.heap.size, 0, none⟩) (Nat.le_refl _) (.slice A1 n1 c1)).setCell (p := ⟨w.heap.size, 1, none⟩) (Nat.le_refl _) (.int .i64 d1)).setCell (p := ⟨w.heap.size, 2, none⟩) (Nat.le_refl _) (.int .i64 l1))
  have hsz1 : w.heap.size + 1 < w1.heap.size := by have := hb1.size; simp at this; omega
  obtain ⟨W, hW⟩ : ∃ W, ((w1.setCell ⟨w.heap.size, 0, none⟩ (.slice A1 n1 c1)).setCell ⟨w.heap.size, 1, none⟩ (.int .i64 d1)).setCell ⟨w.heap.size, 2, none⟩ (.int .i64 l1) = W := ⟨_, rfl⟩
  have hszW : W.heap.size = w1.heap.size := by rw [← hW]; simp
  rw [hW] at g0 g1 HQ hB2
  have q0 : ∀ p : Bel W, p.now.cell? ⟨w.heap.size, 0, none⟩ = some (.slice A1 n1 c1) := Bel.cells g0 0
  have CN := Lib.hid (show ∀ p : Bel W, Calls Try.prog 68 #[.int .i64 t] p.now fun e w'' => e = .returned (.int .i64 (near t)) ∧ ∃ q : Bel W, w'' = q.now from fun p => Calls.bel_of_same ((near_any t p.now).mono fun _ _ h => ⟨h.1, h.2.symm⟩))
  have HW := Lib.hid hW
  clear hb1 b0 b1 hq1 hW
  by_cases h0 : n1 = 0
  · subst h0
    have HE := Lib.hid (show rdB ns1 t = false by unfold rdB; rw [hlen1]; rfl)
    go_wp2_with fail
    rw [HW.out]
    refine wp_region_bel (by kernel_rfl) (by kernel_rfl) ?_
    repeat (
      refine WQ.step (fun KK hKK => ?_)
      go_simp
      refine hKK _ ?_; clear hKK KK)
    refine WQ.nil_ ?_
    rintro wq1 ⟨⟨wq, hq⟩, hwq⟩
    obtain rfl : wq = wq1 := hwq.symm
    clear hwq
    have k1 := g1.below hq g1.lt
    have r0 := k1.cell 0; have r1 := k1.cell 1; have r2 := k1.cell 2; have r3 := k1.cell 3; have r4 := k1.cell 4
    have z0 := k1.frozen 0; have z1 := k1.frozen 1; have z2 := k1.frozen 2; have z3 := k1.frozen 3; have z4 := k1.frozen 4
    simp at r0 r1 r2 r3 r4
    have hB3 := hB2.trans (hq.mono hB2.size)
    clear k1 hq
    go_wp2
    refine bodyPost_ret (v := .tuple #[.agg #[.slice none 0 0, .bool false, .int .i64 0, .int .i64 0, .int .i64 0], .bool false]) (by simp [results, Try.results53, go_sem, r0, r1, r2, r3, r4]) rfl ?_
    refine ⟨?_, below_set5 hB3 (by omega) _ _ _ _ _⟩
    rw [H1.out]; unfold rdN; rw [HE.out]; rfl
  · obtain ⟨b, off, rfl, hbB, hc0, hc1, hc2, hc3, hc4⟩ := HQ.out.at_ (k := 0) (by omega)
    obtain ⟨y, HY⟩ : ∃ y, Hid (nt ns1 0 = y) := ⟨_, Lib.hid rfl⟩
    rw [HY.out] at hc0 hc1 hc2 hc3 hc4
    simp only [Nat.zero_mul, Nat.add_zero] at hc0 hc1 hc2 hc3 hc4
    have HRX := Lib.hid (show rdB ns1 t = decide (y.x ≤ near t) by unfold rdB; rw [hlen1, HY.out]; simp; omega)
    have HRN := Lib.hid (show rdB ns1 t = true → rdN ns1 t = y by intro h; unfold rdN; rw [h, HY.out]; rfl)
    obtain ⟨yA, yn, yc, yL, yf, yt, yk, yx⟩ := y
    dsimp only at hc0 hc1 hc2 hc3 hc4 HRX
    have hx4 : ∀ p : Bel W, p.now.cell? ⟨b, off + 4, none⟩ = some (.int .i64 yx) := fun p => p.cell (by show b < _; omega) hc4
    have e0 : ((n1 : Int) == 0) = false := beq_false_of_ne (by omega)
    have npos : 0 < n1 := by omega
    have nposI : decide (0 < n1) = true := decide_eq_true npos
    obtain ⟨T, HT⟩ : ∃ T, Hid (near t = T) := ⟨_, Lib.hid rfl⟩
    rw [HT.out] at CN HRX
    by_cases hT : yx ≤ T
    · have HE := Lib.hid (show rdB ns1 t = true by rw [HRX.out]; exact decide_eq_true hT)
      have dT : decide (T < yx) = false := decide_eq_false (by omega)
      have b00 : b < w.heap.size := hbB
      have F := Lib.hid (⟨hc0, hc1, hc2, hc3, hc4⟩ : (_ ∧ _ ∧ _ ∧ _ ∧ _))
      clear hc0 hc1 hc2 hc3 hc4
      go_wp2_with fail
      rw [HW.out]
      refine wp_region_bel (by kernel_rfl) (by kernel_rfl) ?_
      repeat (
        refine WQ.step (fun KK hKK => ?_)
        go_simp
        first
          | (refine hKK _ ?_; clear hKK KK)
          | (apply Exists.intro; refine ⟨fun _ => ?_, hKK _ ?_⟩; ((go_at_call 68; exact CN.out _)); clear hKK KK))
      refine WQ.nil_ ?_
      rintro wq1 ⟨⟨wq, hq⟩, hwq⟩
      obtain rfl : wq = wq1 := hwq.symm
      clear hwq
      have k1 := g1.below hq g1.lt
      have k0 := g0.below hq g0.lt
      have r0 := k1.cell 0; have r1 := k1.cell 1; have r2 := k1.cell 2; have r3 := k1.cell 3; have r4 := k1.cell 4
      have z0 := k1.frozen 0; have z1 := k1.frozen 1; have z2 := k1.frozen 2; have z3 := k1.frozen 3; have z4 := k1.frozen 4
      have p0 := k0.cell 0
      simp at r0 r1 r2 r3 r4 p0
      obtain ⟨hc0, hc1, hc2, hc3, hc4⟩ := F.out
      have hd0 := (hq.cell (p := ⟨b, off, none⟩) (by show b < _; omega)).trans hc0
      have hd1 := (hq.cell (p := ⟨b, off + 1, none⟩) (by show b < _; omega)).trans hc1
      have hd2 := (hq.cell (p := ⟨b, off + 2, none⟩) (by show b < _; omega)).trans hc2
      have hd3 := (hq.cell (p := ⟨b, off + 3, none⟩) (by show b < _; omega)).trans hc3
      have hd4 := (hq.cell (p := ⟨b, off + 4, none⟩) (by show b < _; omega)).trans hc4
      have hB3 := hB2.trans (hq.mono hB2.size)
      clear k1 hq hc0 hc1 hc2 hc3 hc4 k0
      go_wp2
      refine bodyPost_ret (v := .tuple #[.agg #[.slice yA yn yc, .bool yf, .int .i64 yt, .int .i64 yk, .int .i64 yx], .bool true]) (by simp [results, Try.results53, go_sem, r0, r1, r2, r3, r4]) rfl ?_
      refine ⟨?_, below_set5 hB3 (by omega) _ _ _ _ _⟩
      rw [H1.out, HRN.out HE.out, HE.out]; rfl
    · have HE := Lib.hid (show rdB ns1 t = false by rw [HRX.out]; exact decide_eq_false hT)
      have dT : decide (T < yx) = true := decide_eq_true (by omega)
      clear hc0 hc1 hc2 hc3 hc4
      go_wp2_with fail
      rw [HW.out]
      refine wp_region_bel (by kernel_rfl) (by kernel_rfl) ?_
      repeat (
        refine WQ.step (fun KK hKK => ?_)
        go_simp
        first
          | (refine hKK _ ?_; clear hKK KK)
          | (apply Exists.intro; refine ⟨fun _ => ?_, hKK _ ?_⟩; ((go_at_call 68; exact CN.out _)); clear hKK KK))
      refine WQ.nil_ ?_
      rintro wq1 ⟨⟨wq, hq⟩, hwq⟩
      obtain rfl : wq = wq1 := hwq.symm
      clear hwq
      have k1 := g1.below hq g1.lt
      have r0 := k1.cell 0; have r1 := k1.cell 1; have r2 := k1.cell 2; have r3 := k1.cell 3; have r4 := k1.cell 4
      have z0 := k1.frozen 0; have z1 := k1.frozen 1; have z2 := k1.frozen 2; have z3 := k1.frozen 3; have z4 := k1.frozen 4
      simp at r0 r1 r2 r3 r4
      have hB3 := hB2.trans (hq.mono hB2.size)
      clear k1 hq
      go_wp2
      refine bodyPost_ret (v := .tuple #[.agg #[.slice none 0 0, .bool false, .int .i64 0, .int .i64 0, .int .i64 0], .bool false]) (by simp [results, Try.results53, go_sem, r0, r1, r2, r3, r4]) rfl ?_
      refine ⟨?_, below_set5 hB3 (by omega) _ _ _ _ _⟩
      rw [H1.out]; unfold rdN; rw [HE.out]; rfl
end Go.Proofs.Ytkkbncgnobaliaa
