/-
  THE REFERENCE's At (package watchtowerref16).
-/
import Derived.Test.YtcmhceilbampiaaPastF1
namespace Go.Proofs.Ytcmhceilbampiaa
open Go.RowKit
open HoldP
open PastP
set_option linter.unusedVariables false
theorem noLong {T : Nat → Int} {C : Nat → Bool} {w : Int} {a b : Nat} (h : ∀ j, a ≤ j → j ≤ b → C j = true ∧ T b - T j < w) (he : a = 0 ∨ C (a - 1) = false) (hab : a ≤ b + 1) : ¬ long T C w b := by
  rintro ⟨hc, hw⟩
  have hle := beg_le C b
  by_cases h1 : a ≤ beg C b
  · have := (h _ h1 hle).2; omega
  · rcases he with he | he
    · omega
    · rcases Nat.lt_or_ge (a - 1) b with h2 | h2
      · rw [beg_all C b (a - 1) (by omega) h2] at he; cases he
      · rw [show a - 1 = b by omega, hc] at he; cases he
theorem noH_succ {T : Nat → Int} {C : Nat → Bool} {w k : Int} {I b : Nat} (h : NoH T C w k I 0 b) (hn : ¬ HitB T C w k I b) : NoH T C w k I 0 (b + 1) := fun j h1 h2 => by
  rcases Nat.lt_or_ge j b with h3 | h3
  · exact h j h1 h3
  · rw [show j = b by omega]; exact hn
set_option maxRecDepth 100000 in
set_option maxHeartbeats 3200000 in
theorem rat_p (A : Option Addr) (n cap : Nat) (T : Nat → Int) (C : Nat → Bool) (wt k i : Int) (w : World) (hn : n ≤ 9223372036854775807) (hc : n ≤ cap) (hcap : cap ≤ 9223372036854775807) (B : Nat) (hBw : B ≤ w.heap.size) (hb : Ps w B A n T C) :
    Calls Try.prog 32 #[.slice A n cap, .int .i64 wt, .int .i64 k, .int .i64 i] w fun e w' => e = .returned (.int .i64 (atV n T C wt k i)) ∧ Below w.heap.size w w' := by
  have hHb := Lib.hid hb; clear hb
  have hSN := sane_cntN n T
  go_enter Try.func32, Try.ntmps32
  go_wp2_with fail
  refine (ras_p A n cap T C _ hn hc hcap B hBw hHb.out).mono ?_
  rintro e w1 ⟨⟨A', cap', rfl, hps, hc', hcap''⟩, hb1⟩
  have h200 : cntN n T ≤ 200 := hSN.1
  by_cases hi : 0 ≤ i ∧ i < (cntN n T : Nat)
  · obtain ⟨I, rfl⟩ := Int.eq_ofNat_of_zero_le hi.1
    have hI : I < cntN n T := by omega
    have HV := Lib.hid (atV_at (n := n) (T := T) (C := C) (w := wt) (k := k) hI)
    clear hi
    generalize cntN n T = N at hps hc' h200 hI hSN ⊢
    have hps' := Lib.hid (hps.more (show B ≤ w1.heap.size by have := hb1.size; omega)); clear hps
    have hSN' := Lib.hid hSN; clear hSN
    go_wp2_with fail
    refine (rbring_any wt _).mono ?_
    rintro e w' ⟨rfl, rfl⟩
    have hwc := cl_bd wt
    generalize clT wt = wc at HV hwc ⊢
    go_wp2_with fail
    refine (rbring_any k _).mono ?_
    rintro e w' ⟨rfl, rfl⟩
    generalize clT k = kc at HV ⊢
    go_wp2
    go_loopw [12] (fun x wr => ∃ b : Nat, b ≤ I + 1 ∧ x = .int .i64 b ∧ Hid (NoH T C wc kc I 0 b) ∧ Below w1.heap.size w1 wr) (fun x _ => I + 1 - (intOf x).toNat)
    case atStart => exact ⟨0, by omega, rfl, Lib.hid (fun j h1 h2 => by omega), Below.refl _ _⟩
    case round =>
      obtain ⟨b, hbI1, rfl, hnh, hB⟩ := hrel
      by_cases hbI : b ≤ I
      · obtain ⟨b0, off, rfl, hcell⟩ := Ps.one' hps'.out hB (by omega)
        obtain ⟨vb, -⟩ := hcell b (by omega)
        obtain ⟨vI, -⟩ := hcell I hI
        clear hcell
        have hTb := hSN'.out.bd (i := b) (by omega)
        have hTI := hSN'.out.bd (i := I) hI
        have hbN : b < N := by omega
        have hw2 : IntKind.i64.wrap (T I - T b) = T I - T b := wr64 _ (by omega)
        have hTb' := Lib.hid hTb; clear hTb
        have hTI' := Lib.hid hTI; clear hTI
        by_cases hbe : b = I
        · have hcand := Lib.hid (show b = I ∨ 0 < kc ∧ T I - T b < kc from .inl hbe)
          have hbe2 : ((b : Int) != (I : Int)) = false := by rw [hbe]; simp
          have HBE := Lib.hid hbe; clear hbe
          go_wp2_with fail
          refine wp_region_bel (by kernel_rfl) (by kernel_rfl) ?_
          repeat (
            refine WQ.step (fun KK hKK => ?_)
            go_simp
            refine hKK _ ?_; clear hKK KK)
          refine WQ.nil_ ?_
          rintro wq1 ⟨⟨wq, hq⟩, hwq⟩
          obtain rfl : wq = wq1 := hwq.symm
          clear hwq
          clear hbe2
          clear vb vI hw2
          have hBq := hB.trans (hq.mono hB.size)
          clear hB hq
          go_wp2
          go_loopw [13] (fun x wr => ∃ a : Nat, a ≤ b + 1 ∧ x = .int .i64 ((a : Int) - 1) ∧ Hid (∀ j, a ≤ j → j ≤ b → C j = true ∧ T b - T j < wc) ∧ Below w1.heap.size w1 wr) (fun x _ => (intOf x + 1).toNat)
          case atStart => exact ⟨b + 1, Nat.le_refl _, by rw [show ((b + 1 : Nat) : Int) - 1 = (b : Int) by omega], Lib.hid (fun j h1 h2 => by omega), hBq⟩
          case round =>
            obtain ⟨a, ha, hx, hal, hBr⟩ := hrel
            cases a with
            | zero =>
              obtain rfl := hx
              have HN := Lib.hid (noH_succ hnh.out (fun h => noLong hal.out (.inl rfl) (by omega) h.1))
              have e0 : decide ((0 : Int) ≤ ((0 : Nat) : Int) - 1) = false := rfl
              go_wp2
              go_roundw
              case rel => exact ⟨b + 1, by omega, by go_num, HN, hBr⟩
              case measure => simp [intOf]; omega
            | succ a =>
              rw [show ((a + 1 : Nat) : Int) - 1 = (a : Int) by omega] at hx
              obtain rfl := hx
              obtain ⟨b1, off1, e1, hcell⟩ := Ps.one' hps'.out hBr (by omega)
              cases e1
              obtain ⟨ua, uc, -, xc⟩ := hcell a (by omega)
              obtain ⟨ub, -⟩ := hcell b (by omega)
              clear hcell
              have haN : a < N := by omega
              have hab : a ≤ b := by omega
              cases hca : C a
              · have HN := Lib.hid (noH_succ hnh.out (fun h => noLong hal.out (.inr hca) ha h.1))
                rw [hca] at xc
                clear ua uc ub hca
                go_wp2
                go_roundw
                case rel => exact ⟨b + 1, by omega, by go_num, HN, hBr⟩
                case measure => simp [intOf]; omega
              · have hTa := hSN'.out.bd haN
                have hw3 : IntKind.i64.wrap (T b - T a) = T b - T a := wr64 _ (by have := hTb'.out; omega)
                have hTa' := Lib.hid hTa; clear hTa
                rw [hca] at xc
                have HCA := Lib.hid hca; clear hca uc
                by_cases hl : wc ≤ T b - T a
                · have HE := Lib.hid (show atP T C wc kc I = 2 from atP_yes ⟨b, hbI, long_of hSN'.out hab hbN (fun j h1 h2 => by
                    rcases Nat.lt_or_ge a j with h3 | h3
                    · exact (hal.out j h3 h2).1
                    · rw [show j = a by omega]; exact HCA.out) hl, hcand.out⟩)
                  go_wp2_with fail
                  refine wp_region_bel (by kernel_rfl) (by kernel_rfl) ?_
                  repeat (
                    refine WQ.step (fun KK hKK => ?_)
                    go_simp
                    refine hKK _ ?_; clear hKK KK)
                  refine WQ.nil_ ?_
                  rintro wq1 ⟨⟨wq, hq⟩, hwq⟩
                  obtain rfl : wq = wq1 := hwq.symm
                  clear hwq
                  go_wp2
                  go_ret
                  exact ⟨ri (by rw [HV.out, HE.out]), hb1.trans ((hBr.trans (hq.mono hBr.size)).mono hb1.size)⟩
                · have hl2 : decide (wc ≤ T b - T a) = false := decide_eq_false hl
                  have HA := Lib.hid (show ∀ j, a ≤ j → j ≤ b → C j = true ∧ T b - T j < wc from fun j h1 h2 => by
                    rcases Nat.lt_or_ge a j with h3 | h3
                    · exact hal.out j h3 h2
                    · rw [show j = a by omega]; exact ⟨HCA.out, by omega⟩)
                  go_wp2_with fail
                  refine wp_region_bel (by kernel_rfl) (by kernel_rfl) ?_
                  repeat (
                    refine WQ.step (fun KK hKK => ?_)
                    go_simp
                    refine hKK _ ?_; clear hKK KK)
                  refine WQ.nil_ ?_
                  rintro wq1 ⟨⟨wq, hq⟩, hwq⟩
                  obtain rfl : wq = wq1 := hwq.symm
                  clear hwq
                  go_wp2
                  go_roundw
                  case rel => exact ⟨a, by omega, rfl, HA, hBr.trans (hq.mono hBr.size)⟩
                  case measure => simp [intOf]
        · have hbe2 : ((b : Int) != (I : Int)) = true := bne_iff_ne.2 (by omega)
          have hbe3 : decide (b = I) = false := decide_eq_false hbe
          by_cases hk0 : kc ≤ 0
          · have HN := Lib.hid (noH_succ hnh.out (fun h => by rcases h.2 with h | h <;> omega))
            go_wp2_with fail
            refine wp_region_bel (by kernel_rfl) (by kernel_rfl) ?_
            repeat (
              refine WQ.step (fun KK hKK => ?_)
              go_simp
              refine hKK _ ?_; clear hKK KK)
            refine WQ.nil_ ?_
            rintro wq1 ⟨⟨wq, hq⟩, hwq⟩
            obtain rfl : wq = wq1 := hwq.symm
            clear hwq
            go_wp2
            go_roundw
            case rel => exact ⟨b + 1, by omega, by go_num, HN, hB.trans (hq.mono hB.size)⟩
            case measure => simp [intOf]; omega
          · have hk2 : decide (kc ≤ 0) = false := decide_eq_false hk0
            by_cases hk1 : kc ≤ T I - T b
            · have HN := Lib.hid (noH_succ hnh.out (fun h => by rcases h.2 with h | h <;> omega))
              go_wp2_with fail
              refine wp_region_bel (by kernel_rfl) (by kernel_rfl) ?_
              repeat (
                refine WQ.step (fun KK hKK => ?_)
                go_simp
                refine hKK _ ?_; clear hKK KK)
              refine WQ.nil_ ?_
              rintro wq1 ⟨⟨wq, hq⟩, hwq⟩
              obtain rfl : wq = wq1 := hwq.symm
              clear hwq
              go_wp2
              go_roundw
              case rel => exact ⟨b + 1, by omega, by go_num, HN, hB.trans (hq.mono hB.size)⟩
              case measure => simp [intOf]; omega
            · have hk3 : decide (kc ≤ T I - T b) = false := decide_eq_false hk1
              have hcand := Lib.hid (show b = I ∨ 0 < kc ∧ T I - T b < kc from .inr ⟨by omega, by omega⟩)
              have HBE := Lib.hid hbe
              have HK0 := Lib.hid hk0
              have HK1 := Lib.hid hk1
              clear hbe hk0 hk1
              go_wp2_with fail
              refine wp_region_bel (by kernel_rfl) (by kernel_rfl) ?_
              repeat (
                refine WQ.step (fun KK hKK => ?_)
                go_simp
                refine hKK _ ?_; clear hKK KK)
              refine WQ.nil_ ?_
              rintro wq1 ⟨⟨wq, hq⟩, hwq⟩
              obtain rfl : wq = wq1 := hwq.symm
              clear hwq
              clear hbe2 hbe3 hk2 hk3
              clear vb vI hw2
              have hBq := hB.trans (hq.mono hB.size)
              clear hB hq
              go_wp2
              go_loopw [13] (fun x wr => ∃ a : Nat, a ≤ b + 1 ∧ x = .int .i64 ((a : Int) - 1) ∧ Hid (∀ j, a ≤ j → j ≤ b → C j = true ∧ T b - T j < wc) ∧ Below w1.heap.size w1 wr) (fun x _ => (intOf x + 1).toNat)
              case atStart => exact ⟨b + 1, Nat.le_refl _, by rw [show ((b + 1 : Nat) : Int) - 1 = (b : Int) by omega], Lib.hid (fun j h1 h2 => by omega), hBq⟩
              case round =>
                obtain ⟨a, ha, hx, hal, hBr⟩ := hrel
                cases a with
                | zero =>
                  obtain rfl := hx
                  have HN := Lib.hid (noH_succ hnh.out (fun h => noLong hal.out (.inl rfl) (by omega) h.1))
                  have e0 : decide ((0 : Int) ≤ ((0 : Nat) : Int) - 1) = false := rfl
                  go_wp2
                  go_roundw
                  case rel => exact ⟨b + 1, by omega, by go_num, HN, hBr⟩
                  case measure => simp [intOf]; omega
                | succ a =>
                  rw [show ((a + 1 : Nat) : Int) - 1 = (a : Int) by omega] at hx
                  obtain rfl := hx
                  obtain ⟨b1, off1, e1, hcell⟩ := Ps.one' hps'.out hBr (by omega)
                  cases e1
                  obtain ⟨ua, uc, -, xc⟩ := hcell a (by omega)
                  obtain ⟨ub, -⟩ := hcell b (by omega)
                  clear hcell
                  have haN : a < N := by omega
                  have hab : a ≤ b := by omega
                  cases hca : C a
                  · have HN := Lib.hid (noH_succ hnh.out (fun h => noLong hal.out (.inr hca) ha h.1))
                    rw [hca] at xc
                    clear ua uc ub hca
                    go_wp2
                    go_roundw
                    case rel => exact ⟨b + 1, by omega, by go_num, HN, hBr⟩
                    case measure => simp [intOf]; omega
                  · have hTa := hSN'.out.bd haN
                    have hw3 : IntKind.i64.wrap (T b - T a) = T b - T a := wr64 _ (by have := hTb'.out; omega)
                    have hTa' := Lib.hid hTa; clear hTa
                    rw [hca] at xc
                    have HCA := Lib.hid hca; clear hca uc
                    by_cases hl : wc ≤ T b - T a
                    · have HE := Lib.hid (show atP T C wc kc I = 2 from atP_yes ⟨b, hbI, long_of hSN'.out hab hbN (fun j h1 h2 => by
                        rcases Nat.lt_or_ge a j with h3 | h3
                        · exact (hal.out j h3 h2).1
                        · rw [show j = a by omega]; exact HCA.out) hl, hcand.out⟩)
                      go_wp2_with fail
                      refine wp_region_bel (by kernel_rfl) (by kernel_rfl) ?_
                      repeat (
                        refine WQ.step (fun KK hKK => ?_)
                        go_simp
                        refine hKK _ ?_; clear hKK KK)
                      refine WQ.nil_ ?_
                      rintro wq1 ⟨⟨wq, hq⟩, hwq⟩
                      obtain rfl : wq = wq1 := hwq.symm
                      clear hwq
                      go_wp2
                      go_ret
                      exact ⟨ri (by rw [HV.out, HE.out]), hb1.trans ((hBr.trans (hq.mono hBr.size)).mono hb1.size)⟩
                    · have hl2 : decide (wc ≤ T b - T a) = false := decide_eq_false hl
                      have HA := Lib.hid (show ∀ j, a ≤ j → j ≤ b → C j = true ∧ T b - T j < wc from fun j h1 h2 => by
                        rcases Nat.lt_or_ge a j with h3 | h3
                        · exact hal.out j h3 h2
                        · rw [show j = a by omega]; exact ⟨HCA.out, by omega⟩)
                      go_wp2_with fail
                      refine wp_region_bel (by kernel_rfl) (by kernel_rfl) ?_
                      repeat (
                        refine WQ.step (fun KK hKK => ?_)
                        go_simp
                        refine hKK _ ?_; clear hKK KK)
                      refine WQ.nil_ ?_
                      rintro wq1 ⟨⟨wq, hq⟩, hwq⟩
                      obtain rfl : wq = wq1 := hwq.symm
                      clear hwq
                      go_wp2
                      go_roundw
                      case rel => exact ⟨a, by omega, rfl, HA, hBr.trans (hq.mono hBr.size)⟩
                      case measure => simp [intOf]
      · obtain rfl : b = I + 1 := by omega
        have HF := Lib.hid (show ¬ Fires T C wc kc I from fun ⟨b, h1, h2⟩ => hnh.out b (by omega) (by omega) h2)
        obtain ⟨b0, off, rfl, hcell⟩ := Ps.one' hps'.out hB (by omega)
        obtain ⟨-, -, -, vI⟩ := hcell I hI
        clear hcell
        cases hCI : C I
        · have HE := Lib.hid (atP_0 HF.out hCI)
          rw [hCI] at vI
          clear hCI
          go_wp2
          go_ret
          exact ⟨ri (by rw [HV.out, HE.out]), hb1.trans (hB.mono hb1.size)⟩
        · have HE := Lib.hid (atP_1 HF.out hCI)
          rw [hCI] at vI
          clear hCI
          go_wp2
          go_ret
          exact ⟨ri (by rw [HV.out, HE.out]), hb1.trans (hB.mono hb1.size)⟩
  · have HV := Lib.hid (atV_no (C := C) (w := wt) (k := k) hi)
    generalize cntN n T = N at hps hc' h200 hi ⊢
    by_cases h0 : 0 ≤ i
    · have h1 : (N : Int) ≤ i := by omega
      go_wp2
      go_ret
      exact ⟨ri HV.out.symm, hb1⟩
    · go_wp2
      go_ret
      exact ⟨ri HV.out.symm, hb1⟩
end Go.Proofs.Ytcmhceilbampiaa
