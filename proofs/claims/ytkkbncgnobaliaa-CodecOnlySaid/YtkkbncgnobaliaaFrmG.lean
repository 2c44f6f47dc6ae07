/-
  THE FRAME's WALKS: Get.
-/
import Derived.Test.YtkkbncgnobaliaaFrm
namespace Go.Proofs.Ytkkbncgnobaliaa
open Go.RowKit
open CodP
open CrcP
set_option linter.unusedVariables false
/-- What four octets are worth, the least first. -/
def val4 (l : List UInt8) : Nat := (l.getD 0 0).toNat + 256 * (l.getD 1 0).toNat + 65536 * (l.getD 2 0).toNat + 16777216 * (l.getD 3 0).toNat
/-- What stands in the first record, and the rest, or an error's number. -/
def getF (l : List UInt8) : Except Nat (List UInt8 × List UInt8) := match getU l with
  | .error c => .error c
  | .ok (n, r) => if 65536 < n then .error 4 else if r.length < n + 4 then .error 3 else if sum (nats (r.take n)) = val4 (r.drop n) then .ok (r.take n, r.drop (n + 4)) else .error 5
def GotF (w' : World) (B : Nat) (e : Ending) : Except Nat (List UInt8 × List UInt8) → Prop
  | .ok (p, r) => ∃ A1 n1 c1 A2 n2 c2, e = .returned (.tuple #[.slice A1 n1 c1, .slice A2 n2 c2, .int .i64 0]) ∧ Bs w' B A1 n1 p ∧ Bs w' B A2 n2 r ∧ n1 ≤ c1 ∧ c1 ≤ 9223372036854775807 ∧ n2 ≤ c2 ∧ c2 ≤ 9223372036854775807
  | .error c => e = .returned (.tuple #[.slice none 0 0, .slice none 0 0, .int .i64 (c : Int)])
theorem or_add {a b k : Nat} (h : a < 2 ^ k) : a ||| b * 2 ^ k = a + b * 2 ^ k := by
  have := Nat.shiftLeft_add_eq_or_of_lt h b
  rw [Nat.shiftLeft_eq] at this
  rw [Nat.or_comm, ← this, Nat.add_comm]
theorem or4 {y0 y1 y2 y3 : Nat} (l0 : y0 < 2 ^ 8) (l1 : y1 < 2 ^ 8) (l2 : y2 < 2 ^ 8) (l3 : y3 < 2 ^ 8) :
    bits .or .u32 (bits .or .u32 (bits .or .u32 (y0 : Int) (IntKind.u32.wrap ((y1 : Int) * 256))) (IntKind.u32.wrap ((y2 : Int) * 65536))) (IntKind.u32.wrap ((y3 : Int) * 16777216)) = ((y0 + 256 * y1 + 65536 * y2 + 16777216 * y3 : Nat) : Int) := by
  have w1 : IntKind.u32.wrap ((y1 : Int) * 256) = ((y1 * 2 ^ 8 : Nat) : Int) := by rw [IntKind.wrap_u32]; omega
  have w2 : IntKind.u32.wrap ((y2 : Int) * 65536) = ((y2 * 2 ^ 16 : Nat) : Int) := by rw [IntKind.wrap_u32]; omega
  have w3 : IntKind.u32.wrap ((y3 : Int) * 16777216) = ((y3 * 2 ^ 24 : Nat) : Int) := by rw [IntKind.wrap_u32]; omega
  rw [w1, w2, w3, u32_or_nat _ _ (by omega) (by omega), or_add l0, u32_or_nat _ _ (by omega) (by omega), or_add (k := 16) (by omega), u32_or_nat _ _ (by omega) (by omega), or_add (k := 24) (by omega)]
  congr 1
  omega
set_option maxRecDepth 100000 in
set_option maxHeartbeats 1600000 in
theorem fget_at (B : Nat) (A : Option Addr) (n cap : Nat) (l : List UInt8) (w : World) (hBw : B ≤ w.heap.size) (hn : n ≤ 9223372036854775807) (hcn : n ≤ cap) (hcap : cap ≤ 9223372036854775807) (hb : Bs w B A n l) :
    Calls Try.prog 23 #[.slice A n cap] w fun e w' => GotF w' B e (getF l) ∧ Below w.heap.size w w' := by
  have hHb0 := Lib.hid hb; clear hb
  have hHb := Lib.hid (hHb0.out.more hBw)
  go_enter Try.func23, Try.ntmps23
  go_wp2_with fail
  refine (getU_any A n cap l _ hn hcn hcap hHb.out).mono ?_
  rintro e w1 ⟨rfl, hb1⟩
  cases hg : getU l with
  | error c =>
    have hE := Lib.hid (show getF l = .error c by unfold getF; rw [hg])
    simp only [gotU]
    have hc : ((c : Int) == 0) = false := by
      have : c ≠ 0 := getU_err hg
      exact beq_false_of_ne (by omega)
    clear hg
    go_wp2
    refine bodyPost_ret (v := .tuple #[.slice none 0 0, .slice none 0 0, .int .i64 (c : Int)]) (by simp [results, Try.results23, go_sem]) rfl ⟨?_, ?_⟩
    · rw [hE.out]; rfl
    · exact hb1
  | ok mr =>
    obtain ⟨m, r⟩ := mr
    obtain ⟨hl, hm60⟩ := getU_ok hg
    simp only [gotU]
    have hHg := Lib.hid hg; clear hg
    by_cases h1 : 65536 < m
    · have hE := Lib.hid (show getF l = .error 4 by unfold getF; rw [hHg.out]; simp only; rw [if_pos h1])
      clear hl
      go_wp2
      refine bodyPost_ret (v := .tuple #[.slice none 0 0, .slice none 0 0, .int .i64 4]) (by simp [results, Try.results23, go_sem]) rfl ⟨?_, ?_⟩
      · rw [hE.out]; rfl
      · exact hb1
    have d1 : decide (65536 < m) = false := decide_eq_false h1
    have hkl : r.length + (encU m).length = n := by have := congrArg List.length hl; rw [List.length_append, hHb.out.len] at this; omega
    by_cases h2 : r.length < m + 4
    · have hE := Lib.hid (show getF l = .error 3 by unfold getF; rw [hHg.out]; simp only; rw [if_neg h1, if_pos h2])
      clear hl
      go_wp2
      refine bodyPost_ret (v := .tuple #[.slice none 0 0, .slice none 0 0, .int .i64 3]) (by simp [results, Try.results23, go_sem]) rfl ⟨?_, ?_⟩
      · rw [hE.out]; rfl
      · exact hb1
    have d2 : decide (r.length < m + 4) = false := decide_eq_false h2
    have hr1 : Bs w1 B (cutAt A cap (n - r.length) 1) r.length r := by
      have := (hHb0.out.below (hb1.mono hBw)).lo (k := n - r.length) (cap := cap) (by omega) hcn
      have e1 : l.drop (n - r.length) = r := by rw [show n - r.length = (encU m).length by omega, hl, List.drop_left]
      have e2 : n - (n - r.length) = r.length := by omega
      rw [e1, e2] at this
      exact this
    have hrcap : r.length ≤ cap - (n - r.length) := by omega
    have hrc2 : cap - (n - r.length) ≤ 9223372036854775807 := by omega
    have HR := Lib.hid hr1; clear hr1 hl
    generalize cutAt A cap (n - r.length) 1 = A3 at HR ⊢
    generalize cap - (n - r.length) = c3 at hrcap hrc2 ⊢
    generalize hrl : r.length = k at *
    have HRL := Lib.hid hrl; clear hrl
    have hkm : m + 4 ≤ k := by omega
    have s1 : ∀ w, (Instr.slice 22 (.slice A3 k c3) none (some (.int .i64 (m : Int))) (some (.int .i64 (m : Int)))).run Try.prog w = .ok (.slice A3 m m) w := run_cut3_hi Try.underlying22 1 sizeU8 A3 k c3 m (by omega)
    have s2 : ∀ w, (Instr.slice 22 (.slice A3 k c3) (some (.int .i64 (m : Int))) (some (.int .i64 ((m : Int) + 4))) none).run Try.prog w = .ok (.slice (cutAt A3 c3 m 1) 4 (c3 - m)) w := by
      have := run_cut_lh (P := Try.prog) Try.underlying22 1 sizeU8 A3 k c3 m (m + 4) (by omega) (by omega)
      rw [show m + 4 - m = 4 by omega] at this
      exact this
    have s3 : ∀ w, (Instr.slice 22 (.slice A3 k c3) (some (.int .i64 ((m : Int) + 4))) none none).run Try.prog w = .ok (.slice (cutAt A3 c3 (m + 4) 1) (k - (m + 4)) (c3 - (m + 4))) w := run_cut_lo Try.underlying22 1 sizeU8 A3 k c3 (m + 4) (by omega)
    have hwm : IntKind.i64.wrap ((m : Int) + 4) = (m : Int) + 4 := by rw [IntKind.wrap_i64]; omega
    have HP := Lib.hid (HR.out.hi (show m ≤ k by omega))
    have HT := Lib.hid (HR.out.lo (show m + 4 ≤ k by omega) hrcap)
    have hq4 := HR.out.lo (show m ≤ k by omega) hrcap
    obtain ⟨b1, o1, e1, hb1B, x0⟩ := hq4.at_ (show 0 < k - m by omega)
    obtain ⟨b', o', e', -, x1⟩ := hq4.at_ (show 1 < k - m by omega)
    rw [e1] at e'; cases e'
    obtain ⟨b', o', e', -, x2⟩ := hq4.at_ (show 2 < k - m by omega)
    rw [e1] at e'; cases e'
    obtain ⟨b', o', e', -, x3⟩ := hq4.at_ (show 3 < k - m by omega)
    rw [e1] at e'; cases e'
    rw [e1] at s2
    have HV := Lib.hid (show val4 (r.drop m) = ((r.drop m).getD 0 0).toNat + 256 * ((r.drop m).getD 1 0).toNat + 65536 * ((r.drop m).getD 2 0).toNat + 16777216 * ((r.drop m).getD 3 0).toNat from rfl)
    have l0 := ((r.drop m).getD 0 0).toNat_lt
    have l1 := ((r.drop m).getD 1 0).toNat_lt
    have l2 := ((r.drop m).getD 2 0).toNat_lt
    have l3 := ((r.drop m).getD 3 0).toNat_lt
    generalize ((r.drop m).getD 0 0).toNat = y0 at x0 l0 HV
    generalize ((r.drop m).getD 1 0).toNat = y1 at x1 l1 HV
    generalize ((r.drop m).getD 2 0).toNat = y2 at x2 l2 HV
    generalize ((r.drop m).getD 3 0).toNat = y3 at x3 l3 HV
    clear hq4 e1
    generalize cutAt A3 c3 (m + 4) 1 = A5 at s3 HT
    have hmc : m ≤ 9223372036854775807 := by omega
    go_wp2_with fail
    refine wp_region_bel (by kernel_rfl) (by kernel_rfl) ?_
    repeat (
      refine WQ.step (fun KK hKK => ?_)
      go_simp
      refine hKK _ ?_; clear hKK KK)
    refine WQ.nil_ ?_
    rintro wq1 ⟨⟨wq, hq⟩, hwq⟩
    obtain rfl : wq = wq1 := hwq.symm
    clear hwq
    have hB1 := hb1.trans (hq.mono hb1.size)
    have z0 : ∀ p : Bel wq, p.now.cell? ⟨b1, o1, none⟩ = some (.int .u8 (y0 : Int)) := fun p => (p.bel.cell (p := ⟨b1, o1, none⟩) (by have := hB1.size; show b1 < _; omega)).trans ((hq.cell (p := ⟨b1, o1, none⟩) (by have := hb1.size; show b1 < _; omega)).trans x0)
    have z1 : ∀ p : Bel wq, p.now.cell? ⟨b1, o1 + 1, none⟩ = some (.int .u8 (y1 : Int)) := fun p => (p.bel.cell (p := ⟨b1, o1 + 1, none⟩) (by have := hB1.size; show b1 < _; omega)).trans ((hq.cell (p := ⟨b1, o1 + 1, none⟩) (by have := hb1.size; show b1 < _; omega)).trans x1)
    have z2 : ∀ p : Bel wq, p.now.cell? ⟨b1, o1 + 2, none⟩ = some (.int .u8 (y2 : Int)) := fun p => (p.bel.cell (p := ⟨b1, o1 + 2, none⟩) (by have := hB1.size; show b1 < _; omega)).trans ((hq.cell (p := ⟨b1, o1 + 2, none⟩) (by have := hb1.size; show b1 < _; omega)).trans x2)
    have z3 : ∀ p : Bel wq, p.now.cell? ⟨b1, o1 + 3, none⟩ = some (.int .u8 (y3 : Int)) := fun p => (p.bel.cell (p := ⟨b1, o1 + 3, none⟩) (by have := hB1.size; show b1 < _; omega)).trans ((hq.cell (p := ⟨b1, o1 + 3, none⟩) (by have := hb1.size; show b1 < _; omega)).trans x3)
    clear s1 s2 s3 hwm x0 x1 x2 x3
    have SC := Lib.hid (show ∀ p : Bel wq, Calls Try.prog 58 #[.slice A3 m m] p.now fun e w'' => e = .returned (.int .u32 (sum (nats (r.take m)) : Nat)) ∧ ∃ q : Bel wq, w'' = q.now from fun p => Calls.bel_of (sum_any A3 m m (r.take m) p.now hmc (((HP.out.below (hq.mono (by have := hb1.size; omega))).below (p.bel.mono (by have := hB1.size; omega))).more (by have := p.bel.size; have := hB1.size; omega))))
    have hsl := sum_lt (nats_lt (r.take m))
    generalize hsv : sum (nats (r.take m)) = sv at SC hsl
    have HSV := Lib.hid hsv; clear hsv
    have wr32 : ∀ y : Nat, y < 2 ^ 8 → IntKind.u32.wrap (y : Int) = (y : Int) := fun y h => by rw [IntKind.wrap_u32]; omega
    have v0 := wr32 y0 l0
    have v1 := wr32 y1 l1
    have v2 := wr32 y2 l2
    have v3 := wr32 y3 l3
    clear wr32
    have hor := or4 l0 l1 l2 l3
    generalize y0 + 256 * y1 + 65536 * y2 + 16777216 * y3 = V at hor HV
    clear l0 l1 l2 l3
    have hgf : getF l = if sv = V then .ok (r.take m, r.drop (m + 4)) else .error 5 := by
      unfold getF; rw [hHg.out]; simp only; rw [if_neg h1, if_neg (by rw [HRL.out]; exact h2), HSV.out, HV.out]
    have HGF := Lib.hid hgf; clear hgf
    by_cases hsV : sv = V
    · have hne : ((sv : Int) != (V : Int)) = false := by rw [hsV]; simp
      have HE := Lib.hid (show getF l = .ok (r.take m, r.drop (m + 4)) by rw [HGF.out, if_pos hsV])
      have HSS := Lib.hid hsV; clear hsV
      go_wp2_with fail
      have hB9 := hB1
      have hqA := hq
      clear hB1 hq
      refine wp_region_bel (by kernel_rfl) (by kernel_rfl) ?_
      repeat (
        refine WQ.step (fun KK hKK => ?_)
        go_simp
        first
          | (refine hKK _ ?_; clear hKK KK)
          | (apply Exists.intro; refine ⟨fun _ => ?_, hKK _ ?_⟩; ((go_at_call 58; exact SC.out _)); clear hKK KK))
      refine WQ.nil_ ?_
      rintro wq1 ⟨⟨wq, hq⟩, hwq⟩
      obtain rfl : wq = wq1 := hwq.symm
      clear hwq
      go_wp2
      refine bodyPost_ret (v := .tuple #[.slice A3 m m, .slice A5 (k - (m + 4)) (c3 - (m + 4)), .int .i64 0]) (by simp [results, Try.results23, go_sem]) rfl ⟨?_, ?_⟩
      · rw [HE.out]
        have hBB := (hqA.mono (show B ≤ w1.heap.size by have := hb1.size; omega)).trans (hq.mono (by have := hB9.size; omega))
        exact ⟨A3, m, m, A5, _, _, rfl, HP.out.below hBB, by have := HT.out.below hBB; exact this, Nat.le_refl _, hmc, by omega, by omega⟩
      · exact hB9.trans (hq.mono hB9.size)
    have hne : ((sv : Int) != (V : Int)) = true := bne_iff_ne.2 (by omega)
    have HE := Lib.hid (show getF l = .error 5 by rw [HGF.out, if_neg hsV])
    have HSS := Lib.hid hsV; clear hsV
    go_wp2_with fail
    have hB9 := hB1
    have hqA := hq
    clear hB1 hq
    refine wp_region_bel (by kernel_rfl) (by kernel_rfl) ?_
    repeat (
      refine WQ.step (fun KK hKK => ?_)
      go_simp
      first
        | (refine hKK _ ?_; clear hKK KK)
        | (apply Exists.intro; refine ⟨fun _ => ?_, hKK _ ?_⟩; ((go_at_call 58; exact SC.out _)); clear hKK KK))
    refine WQ.nil_ ?_
    rintro wq1 ⟨⟨wq, hq⟩, hwq⟩
    obtain rfl : wq = wq1 := hwq.symm
    clear hwq
    go_wp2
    refine bodyPost_ret (v := .tuple #[.slice none 0 0, .slice none 0 0, .int .i64 5]) (by simp [results, Try.results23, go_sem]) rfl ⟨?_, ?_⟩
    · rw [HE.out]; rfl
    · exact hB9.trans (hq.mono hB9.size)
theorem fget_any (A : Option Addr) (n cap : Nat) (l : List UInt8) (w : World) (hn : n ≤ 9223372036854775807) (hcn : n ≤ cap) (hcap : cap ≤ 9223372036854775807) (hb : Bs w w.heap.size A n l) :
    Calls Try.prog 23 #[.slice A n cap] w fun e w' => GotF w' w.heap.size e (getF l) ∧ Below w.heap.size w w' := fget_at w.heap.size A n cap l w (Nat.le_refl _) hn hcn hcap hb
end Go.Proofs.Ytkkbncgnobaliaa
