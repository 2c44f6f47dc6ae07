/-
  DiskApart's walk.
-/
import Derived.Test.YtkkbncgnobaliaaDskA
import Derived.Test.YtkkbncgnobaliaaDskO
import Derived.Deep.RegionHeld3
namespace Go.Proofs.Ytkkbncgnobaliaa
open Go.RowKit
open CodP
open CrcP
set_option linter.unusedVariables false
set_option maxRecDepth 100000 in
set_option maxHeartbeats 3200000 in
theorem diskApart_walk (w : World) (dv : Value) (od : ∃ s0 s1, Dk0 w dv s0 s1) (gen : Int) (hgen1 : -9223372036854775808 ≤ gen) (hgen2 : gen ≤ 9223372036854775807) (A : Option Addr) (n cap : Nat) (l : List UInt8) (hb : Bs w w.heap.size A n l) (hcap : n ≤ cap) (hm : cap ≤ 9223372036854775807) (z : Int) (hz1 : -9223372036854775808 ≤ z) (hz2 : z ≤ 9223372036854775807) :
    Calls Try.prog 15 #[dv, .int .i64 gen, .slice A n cap, .int .i64 z] w fun e w' => e = .returned (.bool true) ∧ Below w.heap.size w w' := by
  obtain ⟨s0, s1, hd⟩ := od
  obtain ⟨A0, n0, c0, A1, n1, c1, rfl, hs0, hs1, r0, r1⟩ := hd.out
  have HD0 := Lib.hid (hd.dk (by rw [hs0.len]; omega) (by rw [hs1.len]; omega))
  have HS0 := Lib.hid hs0
  have HS1 := Lib.hid hs1
  clear hd hs0 hs1 r0 r1
  have hHb := Lib.hid hb; clear hb
  have hX : Below w.heap.size w (w.alloc (.cells #[.slice A0 n0 c0, .slice A1 n1 c1] 58)) := (Below.refl _ _).alloc (Nat.le_refl _) _
  have K0 := Lib.hid (Blk.new w 58 #[.slice A0 n0 c0, .slice A1 n1 c1])
  go_enter Try.func15, Try.ntmps15
  go_wp2_with fail
  generalize (w.alloc (.cells #[.slice A0 n0 c0, .slice A1 n1 c1] 58)) = wx at hX K0 ⊢
  refine (dawake_any _).mono ?_
  rintro e w1 ⟨rfl, hb1⟩
  have hB1 := hX.trans (hb1.mono hX.size)
  have K1 := Lib.hid (K0.out.below hb1 K0.out.lt)
  have HD1 := Lib.hid (HD0.out.now hB1)
  have HP1 := Lib.hid (hHb.out.now hB1)
  have hpl := Lib.hid hHb.out.len
  have q0 : w1.cell? ⟨w.heap.size, 0, none⟩ = some (.slice A0 n0 c0) := K1.out.cell 0
  have q1 : w1.cell? ⟨w.heap.size, 1, none⟩ = some (.slice A1 n1 c1) := K1.out.cell 1
  clear hb1 K0 hX HD0 hHb
  generalize hsum : IntKind.i64.wrap ((n0 : Int) + (n1 : Int)) = sm
  by_cases hfew : 8000 < sm
  · go_wp2
    go_ret
    exact ⟨rfl, hB1⟩
  have dfew : decide (8000 < sm) = false := decide_eq_false hfew
  by_cases hn : 2000 < n
  · go_wp2
    go_ret
    exact ⟨rfl, hB1⟩
  have dn : decide (2000 < n) = false := decide_eq_false hn
  by_cases hgen : 0 ≤ gen ∧ gen ≤ 9007199254740992
  · obtain ⟨g, rfl⟩ : ∃ g : Nat, gen = g := ⟨gen.toNat, by omega⟩
    have hok := Lib.hid (okD_small g l (by omega) (by rw [hpl.out]; omega))
    go_wp2_with fail
    refine (write_dk _ s0 s1 g z A n cap l w1 HD1.out (by omega) HP1.out hok.out).mono ?_
    rintro e w2 ⟨⟨v2, rfl, hd2⟩, hb2⟩
    obtain ⟨B0, j0, k0, B1, j1, k1, rfl, hn0, hn1, -, -⟩ := hd2.out
    have HN0 := Lib.hid hn0
    have HN1 := Lib.hid hn1
    clear hd2 hn0 hn1 q0 q1 dfew hfew dn
    have hB2 := hB1.trans (hb2.mono hB1.size)
    have K2 := Lib.hid (K1.out.below hb2 K1.out.lt)
    have HP2 := Lib.hid (HP1.out.now hb2)
    have HSa := Lib.hid ((HS0.out.now hB2))
    have HSb := Lib.hid ((HS1.out.now hB2))
    clear hb2 HD1 HP1 K1 hB1 HS0 HS1
    go_wp2_with fail
    have hZ : Below w2.heap.size w2 (w2.alloc (.cells #[.slice B0 j0 k0, .slice B1 j1 k1] 58)) := (Below.refl _ _).alloc (Nat.le_refl _) _
    have LW := Lib.hid (Blk.new w2 58 #[.slice B0 j0 k0, .slice B1 j1 k1])
    generalize (w2.alloc (.cells #[.slice B0 j0 k0, .slice B1 j1 k1] 58)) = V at hZ LW ⊢
    generalize w2.heap.size = D at LW ⊢
    have hB3 := hB2.trans (hZ.mono hB2.size)
    refine (record_any g A n cap l V (by omega) (HP2.out.now hZ)).mono ?_
    rintro e w4 ⟨⟨v4, rfl, hown4⟩, hb4⟩
    have hrs := recD_small hok.out
    obtain ⟨A4, K, c4, rfl, hs4, hc4, hd4⟩ := hown4.bs
    rw [maxLen_eq'] at hd4
    have hKR := Lib.hid hs4.len
    rw [hs4.len] at hrs
    have HR4 := Lib.hid hs4
    clear hs4 hown4
    have hB4 := hB3.trans (hb4.mono hB3.size)
    have hb24 := hZ.trans (hb4.mono hZ.size)
    have K4 := K2.out.below hb24 K2.out.lt
    have L4 := LW.out.below hb4 LW.out.lt
    have HSc := Lib.hid (HSa.out.now hb24)
    have HSd := Lib.hid (HSb.out.now hb24)
    have HN2 := Lib.hid (HN0.out.now hb24)
    have HN3 := Lib.hid (HN1.out.now hb24)
    have hw1 : IntKind.i64.wrap 1 = 1 := by decide
    have hw0 : IntKind.i64.wrap 0 = 0 := by decide
    have dg0 : decide ((g : Int) < 0) = false := decide_eq_false (by omega)
    have dg1 : decide (9007199254740992 < (g : Int)) = false := decide_eq_false (by omega)
    have dg2 : decide (9007199254740992 < g) = false := decide_eq_false (by omega)
    clear HSa HSb HN0 HN1 hZ hb24 hb4 hB3 hB2 LW K2 HP2
    obtain ⟨m1, k, hmax, hmin, hk⟩ := clip_runs z K
    have hk1 : min k K = k := by omega
    have hmin2 : ∀ (ts : Array TypeId) (t : TypeId) (W : World), (Builtin.min_ ts t #[.int .i64 (k : Int), .int .i64 (K : Int)]).run Try.prog W = .ok (.int .i64 (k : Int)) W := by
      intro ts t W
      simp [Builtin.min_, Builtin.min2]; omega
    have sc1 : ∀ w, (Instr.slice 22 (.slice A4 K c4) none (some (.int .i64 (k : Int))) none).run Try.prog w = .ok (.slice A4 k c4) w := run_cut_hi Try.underlying22 1 sizeU8 A4 K c4 k (by omega)
    have d0 : ∀ p : Bel w4, p.now.cell? ⟨w.heap.size, 0, none⟩ = some (.slice A0 n0 c0) := Bel.cells K4 0
    have d1 : ∀ p : Bel w4, p.now.cell? ⟨w.heap.size, 1, none⟩ = some (.slice A1 n1 c1) := Bel.cells K4 1
    have e0 : ∀ p : Bel w4, p.now.cell? ⟨D, 0, none⟩ = some (.slice B0 j0 k0) := Bel.cells L4 0
    have e1 : ∀ p : Bel w4, p.now.cell? ⟨D, 1, none⟩ = some (.slice B1 j1 k1) := Bel.cells L4 1
    have f0 := L4.cell 0
    have f1 := L4.cell 1
    have st5 : ∀ p : Bel w4, (convert 22 9 (.slice A4 k c4)).run Try.prog p.now = .ok (.string ⟨((recD (g : Int) l).take k).toArray⟩) p.now := fun p => run_str p.now c4 ((HR4.out.now p.bel).hi (show k ≤ K by omega))
    have hkt : (recD (g : Int) l).take k = (recD (g : Int) l).take z.toNat := by rw [hk, ← hKR.out, take_min]
    have HKL := Lib.hid (show ((recD (g : Int) l).take z.toNat).length = k by rw [List.length_take, hKR.out, hk])
    rw [hkt] at st5
    by_cases hpar : g % 2 = 0
    · have hp2 : (g : Int) % 2 = 0 := by omega
      have hp3 : (g : Int).tmod 2 = 0 := by rw [show (2 : Int) = ((2 : Nat) : Int) from rfl]; exact congrArg Int.ofNat hpar
      rw [show new0 s0 g l z = (recD (g : Int) l).take z.toNat from if_pos hpar] at HN2
      rw [show new1 s1 g l z = s1 from if_pos hpar] at HN3
      have st1 : ∀ p : Bel w4, (convert 22 9 (.slice B1 j1 k1)).run Try.prog p.now = .ok (.string ⟨s1.toArray⟩) p.now := fun p => run_str p.now k1 (HN3.out.now p.bel)
      have st2 : ∀ p : Bel w4, (convert 22 9 (.slice A1 n1 c1)).run Try.prog p.now = .ok (.string ⟨s1.toArray⟩) p.now := fun p => run_str p.now c1 (HSd.out.now p.bel)
      have st3 : ∀ p : Bel w4, (convert 22 9 (.slice B0 j0 k0)).run Try.prog p.now = .ok (.string ⟨((recD (g : Int) l).take z.toNat).toArray⟩) p.now := fun p => run_str p.now k0 (HN2.out.now p.bel)
      have hjk : j0 = k := by rw [← HN2.out.len, HKL.out]
      have HJ := Lib.hid hjk
      subst hjk
      generalize (⟨((recD (g : Int) l).take z.toNat).toArray⟩ : ByteArray) = x at st3 st5
      generalize (⟨s1.toArray⟩ : ByteArray) = y at st1 st2
      clear hkt hk hk1 K4 L4 hgen
      go_wp2_with fail
      refine wp_region_bel (by kernel_rfl) (by kernel_rfl) ?_
      repeat (
        refine WQ.step (fun KK hKK => ?_)
        go_simp
        refine hKK _ ?_; clear hKK KK)
      refine WQ.nil_ ?_
      rintro wq1 ⟨⟨wq, hq⟩, hwq⟩
      obtain rfl : wq = wq1 := hwq.symm
      clear hwq
      go_wp2
      go_ret
      exact ⟨rfl, hB4.trans (hq.mono hB4.size)⟩
    · have hp2 : (g : Int) % 2 = 1 := by omega
      have hp3 : (g : Int).tmod 2 = 1 := by rw [show (2 : Int) = ((2 : Nat) : Int) from rfl]; exact congrArg Int.ofNat (show g % 2 = 1 by omega)
      rw [show new0 s0 g l z = s0 from if_neg hpar] at HN2
      rw [show new1 s1 g l z = (recD (g : Int) l).take z.toNat from if_neg hpar] at HN3
      have st1 : ∀ p : Bel w4, (convert 22 9 (.slice B0 j0 k0)).run Try.prog p.now = .ok (.string ⟨s0.toArray⟩) p.now := fun p => run_str p.now k0 (HN2.out.now p.bel)
      have st2 : ∀ p : Bel w4, (convert 22 9 (.slice A0 n0 c0)).run Try.prog p.now = .ok (.string ⟨s0.toArray⟩) p.now := fun p => run_str p.now c0 (HSc.out.now p.bel)
      have st3 : ∀ p : Bel w4, (convert 22 9 (.slice B1 j1 k1)).run Try.prog p.now = .ok (.string ⟨((recD (g : Int) l).take z.toNat).toArray⟩) p.now := fun p => run_str p.now k1 (HN3.out.now p.bel)
      have hjk : j1 = k := by rw [← HN3.out.len, HKL.out]
      have HJ := Lib.hid hjk
      subst hjk
      generalize (⟨((recD (g : Int) l).take z.toNat).toArray⟩ : ByteArray) = x at st3 st5
      generalize (⟨s0.toArray⟩ : ByteArray) = y at st1 st2
      clear hkt hk hk1 K4 L4 hgen
      go_wp2_with fail
      refine wp_region_bel (by kernel_rfl) (by kernel_rfl) ?_
      repeat (
        refine WQ.step (fun KK hKK => ?_)
        go_simp
        refine hKK _ ?_; clear hKK KK)
      refine WQ.nil_ ?_
      rintro wq1 ⟨⟨wq, hq⟩, hwq⟩
      obtain rfl : wq = wq1 := hwq.symm
      clear hwq
      go_wp2
      go_ret
      exact ⟨rfl, hB4.trans (hq.mono hB4.size)⟩
  · have ho := Lib.hid (recD_no (gen := gen) (p := l) (fun h => hgen h.1))
    go_wp2_with fail
    refine (write_no A0 A1 n0 c0 n1 c1 gen z A n cap l w1 (by omega) HP1.out ho.out).mono ?_
    rintro e w2 ⟨rfl, hb2⟩
    clear q0 q1 dfew hfew dn
    have hB2 := hB1.trans (hb2.mono hB1.size)
    have K2 := Lib.hid (K1.out.below hb2 K1.out.lt)
    have HP2 := Lib.hid (HP1.out.now hb2)
    have HSa := Lib.hid ((HS0.out.now hB2))
    have HSb := Lib.hid ((HS1.out.now hB2))
    clear hb2 HD1 HP1 K1 hB1 HS0 HS1
    go_wp2_with fail
    have hZ : Below w2.heap.size w2 (w2.alloc (.cells #[.slice A0 n0 c0, .slice A1 n1 c1] 58)) := (Below.refl _ _).alloc (Nat.le_refl _) _
    have LW := Lib.hid (Blk.new w2 58 #[.slice A0 n0 c0, .slice A1 n1 c1])
    generalize (w2.alloc (.cells #[.slice A0 n0 c0, .slice A1 n1 c1] 58)) = V at hZ LW ⊢
    generalize w2.heap.size = D at LW ⊢
    have hB3 := hB2.trans (hZ.mono hB2.size)
    refine (record_any gen A n cap l V (by omega) (HP2.out.now hZ)).mono ?_
    rintro e w4 ⟨⟨v4, rfl, hown4⟩, hb4⟩
    rw [ho.out] at hown4
    obtain ⟨A4, K, c4, rfl, hs4, hc4, hd4⟩ := hown4.bs
    obtain rfl : K = 0 := hs4.len.symm
    clear hs4 hown4
    have hB4 := hB3.trans (hb4.mono hB3.size)
    have hb24 := hZ.trans (hb4.mono hZ.size)
    have K4 := K2.out.below hb24 K2.out.lt
    have L4 := LW.out.below hb4 LW.out.lt
    have st0 : (convert 22 9 (.slice A0 n0 c0)).run Try.prog w4 = .ok (.string ⟨s0.toArray⟩) w4 := run_str w4 c0 (HSa.out.now hb24)
    have st1 : (convert 22 9 (.slice A1 n1 c1)).run Try.prog w4 = .ok (.string ⟨s1.toArray⟩) w4 := run_str w4 c1 (HSb.out.now hb24)
    clear HSa HSb hZ hb24 hb4 hB3 hB2 LW K2 HP2
    have d0 : w4.cell? ⟨w.heap.size, 0, none⟩ = some (.slice A0 n0 c0) := K4.cell 0
    have d1 : w4.cell? ⟨w.heap.size, 1, none⟩ = some (.slice A1 n1 c1) := K4.cell 1
    have e0 : w4.cell? ⟨D, 0, none⟩ = some (.slice A0 n0 c0) := L4.cell 0
    have e1 : w4.cell? ⟨D, 1, none⟩ = some (.slice A1 n1 c1) := L4.cell 1
    generalize (⟨s0.toArray⟩ : ByteArray) = x at st0
    generalize (⟨s1.toArray⟩ : ByteArray) = y at st1
    by_cases hg0 : gen < 0
    · clear hgen
      go_wp2
      go_ret
      exact ⟨rfl, hB4⟩
    · have dg0 : decide (gen < 0) = false := decide_eq_false hg0
      have hg1 : 9007199254740992 < gen := by omega
      clear hgen
      go_wp2
      go_ret
      exact ⟨rfl, hB4⟩
end Go.Proofs.Ytkkbncgnobaliaa
