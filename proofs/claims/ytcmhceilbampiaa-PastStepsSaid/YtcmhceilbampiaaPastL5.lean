/-
  PastSteps' walk.
-/
import Derived.Test.YtcmhceilbampiaaPastL2
import Derived.Test.YtcmhceilbampiaaPastSt
import Derived.Test.YtcmhceilbampiaaHoldStep
namespace Go.Proofs.Ytcmhceilbampiaa
open Go.RowKit
open HoldP
open PastP
set_option linter.unusedVariables false
theorem pf1 {α : Type} {w w' : World} {A : Option Addr} {n : Nat} {f : α → Value} {l : List α} (h : R1 w A n f l) (hb : Below w.heap.size w w') {i : Nat} {y : α} (hy : l[i]? = some y) :
    ∃ b off, A = some ⟨b, off, none⟩ ∧ w.cell? ⟨b, off + i, none⟩ = some (f y) ∧ b < w.heap.size := by
  obtain ⟨b, off, e, h1, h2⟩ := h.at_ i y hy
  exact ⟨b, off, e, h2, h1⟩
set_option maxRecDepth 100000 in
set_option maxHeartbeats 3200000 in
theorem pastSteps_walk (w : World) (v : Value) (hv' : IsPoints w v) (wt : Int) (hw1 : -9223372036854775808 ≤ wt) (hw2 : wt ≤ 9223372036854775807) (k : Int) (hk1 : -9223372036854775808 ≤ k) (hk2 : k ≤ 9223372036854775807) :
    Calls Try.prog 15 #[v, .int .i64 wt, .int .i64 k] w fun e w' => e = .returned (.bool true) ∧ Below w.heap.size w w' := by
  obtain ⟨A, n, cap, T, C, rfl, hps, hcn, hcap⟩ := hv'
  by_cases hn : n ≤ 60
  · have hP0 := Lib.hid hps; clear hps
    go_enter Try.func15, Try.ntmps15
    go_wp2_with fail
    refine (pawake_any _).mono ?_
    rintro e w1 ⟨rfl, hb1⟩
    have hP1 := Lib.hid (Q2.now hP0.out hb1)
    clear hP0
    go_wp2_with fail
    refine (psane_any A n cap T C _ (by omega) hP1.out).mono ?_
    rintro e w2 ⟨rfl, hb2⟩
    have hP2 := Lib.hid (Q2.now hP1.out hb2)
    have hB2 := hb1.trans (hb2.mono hb1.size)
    clear hP1 hb1 hb2
    cases hs : saneB n T
    · clear hs
      go_wp2
      go_ret
      exact ⟨rfl, hB2⟩
    have hS := Lib.hid (saneB_iff.1 hs)
    clear hs
    have hN := Lib.hid (cntN_of hS.out)
    go_wp2_with fail
    refine (pall_any A n cap T C wt k _ (by omega) hcn hcap hP2.out).mono ?_
    rintro e w4 ⟨⟨v, rfl, hown⟩, hb4⟩
    rw [hN.out] at hown
    obtain ⟨A4, n4, c4, rfl, hc4, hd4, hr4⟩ := hown.r1
    obtain rfl : n = n4 := by rw [hr4.len, allL_len]
    have hR4 := Lib.hid hr4
    have hP4 := Lib.hid (Q2.now hP2.out hb4)
    have hB4 := hB2.trans (hb4.mono hB2.size)
    clear hown hr4 hb4 hP2 hB2
    have hK0 := Blk.new w4 23 #[.bool false, .int .i64 0, .bool false, .int .i64 0]
    go_wp2
    go_loopw [10] (fun i wr => ∃ m : Nat, m ≤ n ∧ i = .int .i64 m ∧ Blk wr w4.heap.size 23 (hv (stk T C wt m)) ∧ Below w4.heap.size w4 wr ∧ w4.heap.size < wr.heap.size) (fun i _ => n - (intOf i).toNat)
    case atStart => exact ⟨0, by omega, rfl, hK0, (Below.refl _ _).alloc (Nat.le_refl _) _, by simp⟩
    case round =>
      obtain ⟨m, hm, rfl, hK, hB, hz⟩ := hrel
      by_cases hlt : m < n
      · obtain ⟨b4, o4, rfl, f4, hb4'⟩ := pf1 hR4.out hB (allL_get T C (clT wt) (clT k) n m hlt)
        obtain ⟨b0, off, rfl, g0, hc⟩ := hP4.out.below hB (by omega)
        have c0 : wr.cell? ⟨b0, off + m * 2, none⟩ = some (.int .i64 (T m)) := (hc m hlt).1
        have c1 : wr.cell? ⟨b0, off + m * 2 + 1, none⟩ = some (.bool (C m)) := (hc m hlt).2
        have hP4' := Lib.hid hP4; clear hP4
        clear hc
        have hsz := hB.size
        have hb4B : b4 < w4.heap.size := hb4'
        have HT := Lib.hid (now_stk hS.out C wt k hlt)
        have hSS : stk T C wt (m + 1) = stepH (stk T C wt m) (C m) (T m) wt := rfl
        have hST0 := Lib.hid hSS; clear hSS
        have hAV := Lib.hid (atV_at (n := n) (T := T) (C := C) (w := wt) (k := k) (I := m) (by rw [hN.out]; exact hlt))
        generalize stk T C wt m = h at hK hST0
        obtain ⟨o, s, i, f⟩ := h
        simp only [hv] at hK
        generalize hh' : stk T C wt (m + 1) = h' at HT hST0
        have hST := Lib.hid hh'; clear hh'
        obtain ⟨o', s', i', f'⟩ := h'
        generalize T m = tm at c0 HT hST0
        generalize C m = cm at c1 HT hST0
        generalize hz4 : atP T C (clT wt) (clT k) m = z at f4 HT hAV
        have F4 := Lib.hid f4; clear f4 hz4
        have SC := Lib.hid (show ∀ W', Calls Try.prog 17 #[.agg #[.bool o, .int .i64 s, .bool i, .int .i64 f], .bool cm, .int .i64 tm, .int .i64 wt, .int .i64 k] W' fun e w' =>
            e = .returned (.tuple #[.agg #[.bool o', .int .i64 s', .bool i', .int .i64 f'], .int .i64 z]) ∧ Below W'.heap.size W' w' from fun W' => by
          have := step_any o s i f cm tm wt k W'
          rw [← hST0.out, HT.out] at this
          exact this)
        clear hST0
        have k0 : ∀ W', Below wr.heap.size wr W' → W'.cell? ⟨w4.heap.size, 0, none⟩ = some (.bool o) := fun W' hW => (hW.cell (p := ⟨w4.heap.size, 0, none⟩) hz).trans (hK.cell 0)
        have k1 : ∀ W', Below wr.heap.size wr W' → W'.cell? ⟨w4.heap.size, 1, none⟩ = some (.int .i64 s) := fun W' hW => (hW.cell (p := ⟨w4.heap.size, 1, none⟩) hz).trans (hK.cell 1)
        have k2 : ∀ W', Below wr.heap.size wr W' → W'.cell? ⟨w4.heap.size, 2, none⟩ = some (.bool i) := fun W' hW => (hW.cell (p := ⟨w4.heap.size, 2, none⟩) hz).trans (hK.cell 2)
        have k3 : ∀ W', Below wr.heap.size wr W' → W'.cell? ⟨w4.heap.size, 3, none⟩ = some (.int .i64 f) := fun W' hW => (hW.cell (p := ⟨w4.heap.size, 3, none⟩) hz).trans (hK.cell 3)
        have c0' : ∀ W', Below wr.heap.size wr W' → W'.cell? ⟨b0, off + m * 2, none⟩ = some (.int .i64 tm) := fun W' hW => (hW.cell (p := ⟨b0, off + m * 2, none⟩) (by show b0 < _; omega)).trans c0
        have c1' : ∀ W', Below wr.heap.size wr W' → W'.cell? ⟨b0, off + m * 2 + 1, none⟩ = some (.bool cm) := fun W' hW => (hW.cell (p := ⟨b0, off + m * 2 + 1, none⟩) (by show b0 < _; omega)).trans c1
        clear c0 c1
        have hKH := Lib.hid hK; clear hK
        have L0 := Blk.new wr 23 #[.bool false, .int .i64 0, .bool false, .int .i64 0]
        have r0 : (wr.alloc (.cells #[.bool false, .int .i64 0, .bool false, .int .i64 0] 23)).cell? ⟨wr.heap.size, 0, none⟩ = some (.bool false) := L0.cell 0
        have r1 : (wr.alloc (.cells #[.bool false, .int .i64 0, .bool false, .int .i64 0] 23)).cell? ⟨wr.heap.size, 1, none⟩ = some (.int .i64 0) := L0.cell 1
        have r2 : (wr.alloc (.cells #[.bool false, .int .i64 0, .bool false, .int .i64 0] 23)).cell? ⟨wr.heap.size, 2, none⟩ = some (.bool false) := L0.cell 2
        have r3 : (wr.alloc (.cells #[.bool false, .int .i64 0, .bool false, .int .i64 0] 23)).cell? ⟨wr.heap.size, 3, none⟩ = some (.int .i64 0) := L0.cell 3
        have y0 := L0.frozen 0
        have y1 := L0.frozen 1
        have y2 := L0.frozen 2
        have y3 := L0.frozen 3
        have HL0 := Lib.hid L0; clear L0
        have im0 : (0 : Int) ≤ (m : Int) := by omega
        have im1 : (m : Int) < (n : Int) := by omega
        go_wp2_with fail
        go_region_held3 (fun w' => Below wr.heap.size wr w')
          (first
            | exact (Below.refl _ _).drew
            | exact ((Below.refl _ _).alloc (Nat.le_refl _) _).drew
            | assumption
            | (refine Below.trans ?_ (Below.mono hb' ?_); assumption; apply Below.size; assumption)
            | (refine Below.alloc ?_ ?_ _; assumption; apply Below.size; assumption)
            | (refine Below.alloc (Below.trans (Below.drew (Below.refl _ _)) (Below.mono hb' ?_)) ?_ _ <;> first | exact Nat.le_refl _ | exact hb'.size)
            | (refine Below.setCell (Below.setCell (Below.setCell (Below.setCell ?_ ?_ _) ?_ _) ?_ _) ?_ _; assumption; exact Nat.le_refl _; exact Nat.le_refl _; exact Nat.le_refl _; exact Nat.le_refl _))
          ((go_at_call 17; refine (SC.out _).mono ?_; rintro e w' ⟨rfl, hb'⟩; obtain ⟨hcN, hfN⟩ := bcell hb'; try (have s0 : w'.cell? ⟨wr.heap.size, 0, none⟩ = some (.bool false) := (hcN _ _ (by simp <;> omega)).trans r0; have s1 : w'.cell? ⟨wr.heap.size, 1, none⟩ = some (.int .i64 0) := (hcN _ _ (by simp <;> omega)).trans r1; have s2 : w'.cell? ⟨wr.heap.size, 2, none⟩ = some (.bool false) := (hcN _ _ (by simp <;> omega)).trans r2; have s3 : w'.cell? ⟨wr.heap.size, 3, none⟩ = some (.int .i64 0) := (hcN _ _ (by simp <;> omega)).trans r3; have v0 := (hfN _ _ (by simp <;> omega)).trans y0; have v1 := (hfN _ _ (by simp <;> omega)).trans y1; have v2 := (hfN _ _ (by simp <;> omega)).trans y2; have v3 := (hfN _ _ (by simp <;> omega)).trans y3)))
        · have hb2 : Below wr.heap.size wr w' := (Below.refl _ _).drew.trans hb'
          have BV := (hB.trans (hb2.mono hB.size)).alloc (hB.trans (hb2.mono hB.size)).size (.cells #[.bool o', .int .i64 s', .bool i', .int .i64 f'] 23)
          have K9 := (hKH.out.below hb2 hz).alloc (.cells #[.bool o', .int .i64 s', .bool i', .int .i64 f'] 23)
          have L11 := Blk.new w' 23 #[.bool o', .int .i64 s', .bool i', .int .i64 f']
          clear k0 k1 k2 k3 r0 r1 r2 r3 y0 y1 y2 y3 hcN hfN c0' c1' hb' hb2
          try clear hHeld
          generalize (w'.alloc (.cells #[.bool o', .int .i64 s', .bool i', .int .i64 f'] 23)) = V at BV K9 L11 ⊢
          have hVz := K9.lt
          have p0 : V.cell? ⟨w'.heap.size, 0, none⟩ = some (.bool o') := L11.cell 0
          have p1 : V.cell? ⟨w'.heap.size, 1, none⟩ = some (.int .i64 s') := L11.cell 1
          have p2 : V.cell? ⟨w'.heap.size, 2, none⟩ = some (.bool i') := L11.cell 2
          have p3 : V.cell? ⟨w'.heap.size, 3, none⟩ = some (.int .i64 f') := L11.cell 3
          have f0 := K9.frozen 0
          have f1 := K9.frozen 1
          have f2 := K9.frozen 2
          have f3 := K9.frozen 3
          have k0 : V.cell? ⟨w4.heap.size, 0, none⟩ = some (.bool o) := K9.cell 0
          have k1 : V.cell? ⟨w4.heap.size, 1, none⟩ = some (.int .i64 s) := K9.cell 1
          have k2 : V.cell? ⟨w4.heap.size, 2, none⟩ = some (.bool i) := K9.cell 2
          have k3 : V.cell? ⟨w4.heap.size, 3, none⟩ = some (.int .i64 f) := K9.cell 3
          have KX := Lib.hid ((((K9.put 0 (.bool o')).put 1 (.int .i64 s')).put 2 (.bool i')).put 3 (.int .i64 f'))
          have BX := Lib.hid ((((BV.setCell (p := ⟨w4.heap.size, 0, none⟩) (Nat.le_refl _) (.bool o')).setCell (p := ⟨w4.heap.size, 1, none⟩) (Nat.le_refl _) (.int .i64 s')).setCell (p := ⟨w4.heap.size, 2, none⟩) (Nat.le_refl _) (.bool i')).setCell (p := ⟨w4.heap.size, 3, none⟩) (Nat.le_refl _) (.int .i64 f'))
          have c4 : ((((V.setCell ⟨w4.heap.size, 0, none⟩ (.bool o')).setCell ⟨w4.heap.size, 1, none⟩ (.int .i64 s')).setCell ⟨w4.heap.size, 2, none⟩ (.bool i')).setCell ⟨w4.heap.size, 3, none⟩ (.int .i64 f')).cell? ⟨b4, o4 + m, none⟩ = some (.int .i64 z) := (BX.out.cell (p := ⟨b4, o4 + m, none⟩) hb4B).trans F4.out
          clear K9 L11 BV
          go_wp2_with fail
          refine (pat_any _ n cap T C wt k _ _ (by omega) hcn hcap w4.heap.size BX.out.size (hP4'.out.below BX.out)).mono ?_
          rintro e w6 ⟨rfl, hb6⟩
          rw [hAV.out]
          have hB6 := BX.out.trans (hb6.mono BX.out.size)
          have hK6 := KX.out.below hb6 (by simp; exact hVz)
          clear p0 p1 p2 p3 f0 f1 f2 f3 k0 k1 k2 k3 c4
          go_wp2
          go_roundw
          case rel => exact ⟨m + 1, by omega, by go_num, by rw [hST.out]; exact hK6, hB6, Nat.lt_of_lt_of_le (by simp; exact hVz) hb6.size⟩
          case measure => simp [intOf]; omega
        · have hb2 : Below wr.heap.size wr w' := ((Below.refl _ _).alloc (Nat.le_refl _) _).drew.trans (hb'.mono (by simp))
          have BV0 := hB.trans (hb2.mono hB.size)
          have BV := (((BV0.setCell (p := ⟨wr.heap.size, 0, none⟩) hB.size (.bool o')).setCell (p := ⟨wr.heap.size, 1, none⟩) hB.size (.int .i64 s')).setCell (p := ⟨wr.heap.size, 2, none⟩) hB.size (.bool i')).setCell (p := ⟨wr.heap.size, 3, none⟩) hB.size (.int .i64 f')
          have K9 := ((((hKH.out.below hb2 hz).away (p := ⟨wr.heap.size, 0, none⟩) (by simp; omega) (.bool o')).away (p := ⟨wr.heap.size, 1, none⟩) (by simp; omega) (.int .i64 s')).away (p := ⟨wr.heap.size, 2, none⟩) (by simp; omega) (.bool i')).away (p := ⟨wr.heap.size, 3, none⟩) (by simp; omega) (.int .i64 f')
          have L11 := (((((HL0.out.drew).below hb' (by simp)).put 0 (.bool o')).put 1 (.int .i64 s')).put 2 (.bool i')).put 3 (.int .i64 f')
          clear k0 k1 k2 k3 r0 r1 r2 r3 y0 y1 y2 y3 hcN hfN c0' c1' hb' hb2 BV0
          try clear s0 s1 s2 s3 v0 v1 v2 v3
          generalize ((((w'.setCell ⟨wr.heap.size, 0, none⟩ (.bool o')).setCell ⟨wr.heap.size, 1, none⟩ (.int .i64 s')).setCell ⟨wr.heap.size, 2, none⟩ (.bool i')).setCell ⟨wr.heap.size, 3, none⟩ (.int .i64 f')) = V at BV K9 L11 ⊢
          have hVz := K9.lt
          have p0 : V.cell? ⟨wr.heap.size, 0, none⟩ = some (.bool o') := L11.cell 0
          have p1 : V.cell? ⟨wr.heap.size, 1, none⟩ = some (.int .i64 s') := L11.cell 1
          have p2 : V.cell? ⟨wr.heap.size, 2, none⟩ = some (.bool i') := L11.cell 2
          have p3 : V.cell? ⟨wr.heap.size, 3, none⟩ = some (.int .i64 f') := L11.cell 3
          have f0 := K9.frozen 0
          have f1 := K9.frozen 1
          have f2 := K9.frozen 2
          have f3 := K9.frozen 3
          have k0 : V.cell? ⟨w4.heap.size, 0, none⟩ = some (.bool o) := K9.cell 0
          have k1 : V.cell? ⟨w4.heap.size, 1, none⟩ = some (.int .i64 s) := K9.cell 1
          have k2 : V.cell? ⟨w4.heap.size, 2, none⟩ = some (.bool i) := K9.cell 2
          have k3 : V.cell? ⟨w4.heap.size, 3, none⟩ = some (.int .i64 f) := K9.cell 3
          have KX := Lib.hid ((((K9.put 0 (.bool o')).put 1 (.int .i64 s')).put 2 (.bool i')).put 3 (.int .i64 f'))
          have BX := Lib.hid ((((BV.setCell (p := ⟨w4.heap.size, 0, none⟩) (Nat.le_refl _) (.bool o')).setCell (p := ⟨w4.heap.size, 1, none⟩) (Nat.le_refl _) (.int .i64 s')).setCell (p := ⟨w4.heap.size, 2, none⟩) (Nat.le_refl _) (.bool i')).setCell (p := ⟨w4.heap.size, 3, none⟩) (Nat.le_refl _) (.int .i64 f'))
          have c4 : ((((V.setCell ⟨w4.heap.size, 0, none⟩ (.bool o')).setCell ⟨w4.heap.size, 1, none⟩ (.int .i64 s')).setCell ⟨w4.heap.size, 2, none⟩ (.bool i')).setCell ⟨w4.heap.size, 3, none⟩ (.int .i64 f')).cell? ⟨b4, o4 + m, none⟩ = some (.int .i64 z) := (BX.out.cell (p := ⟨b4, o4 + m, none⟩) hb4B).trans F4.out
          clear K9 L11 BV
          go_wp2_with fail
          refine (pat_any _ n cap T C wt k _ _ (by omega) hcn hcap w4.heap.size BX.out.size (hP4'.out.below BX.out)).mono ?_
          rintro e w6 ⟨rfl, hb6⟩
          rw [hAV.out]
          have hB6 := BX.out.trans (hb6.mono BX.out.size)
          have hK6 := KX.out.below hb6 (by simp; exact hVz)
          clear p0 p1 p2 p3 f0 f1 f2 f3 k0 k1 k2 k3 c4
          go_wp2
          go_roundw
          case rel => exact ⟨m + 1, by omega, by go_num, by rw [hST.out]; exact hK6, hB6, Nat.lt_of_lt_of_le (by simp; exact hVz) hb6.size⟩
          case measure => simp [intOf]; omega
      · obtain rfl : m = n := by omega
        go_wp2
        go_ret
        exact ⟨rfl, hB4.trans (hB.mono hB4.size)⟩
  · go_enter Try.func15, Try.ntmps15
    go_wp2_with fail
    refine (pawake_any _).mono ?_
    rintro e w1 ⟨rfl, hb1⟩
    go_wp2
    go_ret
    exact ⟨rfl, hb1⟩
end Go.Proofs.Ytcmhceilbampiaa
