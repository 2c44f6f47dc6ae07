/-
  PastPlain's walk.
-/
import Derived.Test.YtcmhceilbampiaaPastL2
namespace Go.Proofs.Ytcmhceilbampiaa
open Go.RowKit
open HoldP
open PastP
set_option linter.unusedVariables false
theorem R1.one {α : Type} {w w' : World} {A : Option Addr} {n : Nat} {f : α → Value} {l : List α} (h : R1 w A n f l) (hb : Below w.heap.size w w') {i : Nat} {y : α} (hy : l[i]? = some y) :
    ∃ b off, A = some ⟨b, off, none⟩ ∧ (∀ p : Bel w', p.now.cell? ⟨b, off + i, none⟩ = some (f y)) ∧ w'.cell? ⟨b, off + i, none⟩ = some (f y) := by
  obtain ⟨b, off, e, h1, h2⟩ := h.at_ i y hy
  have h3 := (hb.cell (p := ⟨b, off + i, none⟩) h1).trans h2
  exact ⟨b, off, e, fun p => (p.bel.cell (p := ⟨b, off + i, none⟩) (by have := hb.size; show b < _; omega)).trans h3, h3⟩
theorem Ps.one {w w' : World} {A : Option Addr} {n : Nat} {T : Nat → Int} {C : Nat → Bool} (h : Ps w w.heap.size A n T C) (hb : Below w.heap.size w w') (hn : 0 < n) :
    ∃ b off, A = some ⟨b, off, none⟩ ∧ ∀ i, i < n → (∀ p : Bel w', p.now.cell? ⟨b, off + i * 2, none⟩ = some (.int .i64 (T i))) ∧ (∀ p : Bel w', p.now.cell? ⟨b, off + i * 2 + 1, none⟩ = some (.bool (C i))) ∧ w'.cell? ⟨b, off + i * 2, none⟩ = some (.int .i64 (T i)) ∧ w'.cell? ⟨b, off + i * 2 + 1, none⟩ = some (.bool (C i)) := by
  obtain ⟨b, off, e, h1, hc⟩ := h hn
  refine ⟨b, off, e, fun i hi => ?_⟩
  have h3 := (hb.cell (p := ⟨b, off + i * 2, none⟩) h1).trans (hc i hi).1
  have h4 := (hb.cell (p := ⟨b, off + i * 2 + 1, none⟩) h1).trans (hc i hi).2
  exact ⟨fun p => (p.bel.cell (p := ⟨b, off + i * 2, none⟩) (by have := hb.size; show b < _; omega)).trans h3, fun p => (p.bel.cell (p := ⟨b, off + i * 2 + 1, none⟩) (by have := hb.size; show b < _; omega)).trans h4, h3, h4⟩
set_option maxRecDepth 100000 in
set_option maxHeartbeats 3200000 in
theorem pastPlain_walk (w : World) (v : Value) (hv' : IsPoints w v) (wt : Int) (hw1 : -9223372036854775808 ≤ wt) (hw2 : wt ≤ 9223372036854775807) :
    Calls Try.prog 14 #[v, .int .i64 wt] w fun e w' => e = .returned (.bool true) ∧ Below w.heap.size w w' := by
  obtain ⟨A, n, cap, T, C, rfl, hps, hcn, hcap⟩ := hv'
  by_cases hn : n ≤ 60
  · have hP0 := Lib.hid hps; clear hps
    go_enter Try.func14, Try.ntmps14
    go_wp2_with fail
    refine (pawake_any _).mono ?_
    rintro e w1 ⟨rfl, hb1⟩
    have hP1 := Lib.hid (Q2.now hP0.out hb1)
    clear hP0
    go_wp2_with fail
    refine (psane_any A n cap T C _ (by omega) hP1.out).mono ?_
    rintro e w2 ⟨rfl, hb2⟩
    have hP2 := Lib.hid (Q2.now hP1.out hb2)
    have hB2 := hb1.trans (hb2.mono hb1.size)
    clear hP1 hb1 hb2
    cases hs : saneB n T
    · clear hs
      go_wp2
      go_ret
      exact ⟨rfl, hB2⟩
    have hS := Lib.hid (saneB_iff.1 hs)
    clear hs
    have hN := Lib.hid (cntN_of hS.out)
    go_wp2_with fail
    refine (pall_any A n cap T C 0 0 _ (by omega) hcn hcap hP2.out).mono ?_
    rintro e w4 ⟨⟨v, rfl, hown⟩, hb4⟩
    rw [hN.out] at hown
    obtain ⟨A4, n4, c4, rfl, hc4, hd4, hr4⟩ := hown.r1
    obtain rfl : n = n4 := by rw [hr4.len, allL_len]
    have hR4 := Lib.hid hr4
    have hP4 := Lib.hid (Q2.now hP2.out hb4)
    have hB4 := hB2.trans (hb4.mono hB2.size)
    clear hown hr4 hb4 hP2 hB2
    go_wp2_with fail
    refine (pall_any A n cap T C wt 0 _ (by omega) hcn hcap hP4.out).mono ?_
    rintro e w5 ⟨⟨v, rfl, hown⟩, hb5⟩
    rw [hN.out] at hown
    obtain ⟨A5, n5, c5, rfl, hc5, hd5, hr5⟩ := hown.r1
    obtain rfl : n = n5 := by rw [hr5.len, allL_len]
    have hR5 := Lib.hid hr5
    have hP5 := Lib.hid (Q2.now hP4.out hb5)
    have hR6 := Lib.hid (hR4.out.below hb5)
    have hB5 := hB4.trans (hb5.mono hB4.size)
    clear hown hr5 hb5 hP4 hB4 hR4
    go_wp2
    go_loopw [8, 9] (fun q i wr => ∃ m : Nat, m ≤ n ∧ i = .int .i64 m ∧ q = .int .i64 (begins C m : Nat) ∧ Below w5.heap.size w5 wr) (fun _ i _ => n - (intOf i).toNat)
    case atStart => exact ⟨0, by omega, rfl, rfl, Below.refl _ _⟩
    case round =>
      obtain ⟨m, hm, rfl, rfl, hB⟩ := hrel
      by_cases hlt : m < n
      · have hbl := begins_le C m
        have hA := Lib.hid (allL_get T C (clT 0) (clT 0) n m hlt)
        have hA2 := Lib.hid (allL_get T C (clT wt) (clT 0) n m hlt)
        have hz := Lib.hid (show clT 0 = 0 by decide)
        rw [hz.out] at hA hA2
        obtain ⟨b4, o4, rfl, f4, -⟩ := R1.one hR6.out hB (by have := hA.out; rw [hz.out]; exact this)
        obtain ⟨b5, o5, rfl, f5, -⟩ := R1.one hR5.out hB (by have := hA2.out; rw [hz.out]; exact this)
        obtain ⟨b0, off, rfl, hc⟩ := Ps.one hP5.out hB (by omega)
        obtain ⟨-, u1, -, x1⟩ := hc m hlt
        have y1 : m ≠ 0 → wr.cell? ⟨b0, off + (m - 1) * 2 + 1, none⟩ = some (.bool (C (m - 1))) := fun _ => (hc (m - 1) (by omega)).2.2.2
        have Y1 := Lib.hid y1; clear y1 hc
        have HB := Lib.hid (show begins C (m + 1) = begins C m + (if C m = true ∧ (m = 0 ∨ C (m - 1) = false) then 1 else 0) from rfl)
        generalize begins C m = q at hbl HB ⊢
        have g4 : ∀ z, z = atP T C 0 0 m → (z == 2) = C m := fun z hz => by
          subst hz
          cases hc : C m
          · rw [atP_0 (fun h => by rw [fires_plain hS.out hlt, hc] at h; cases h) hc]; rfl
          · rw [atP_yes ((fires_plain hS.out hlt).2 hc)]; rfl
        have G4 := Lib.hid (g4 _ rfl); clear g4
        have G5 := Lib.hid (show (atP T C (clT wt) 0 m == 0) = !C m by
          cases hc : C m
          · rw [atP_0 (fun h => by have := fires_nokeep h; rw [hc] at this; cases this) hc]; rfl
          · have : atP T C (clT wt) 0 m ≠ 0 := fun h => by have := atP_ne0 h; rw [hc] at this; cases this
            simp [this])
        generalize atP T C 0 0 m = z4 at f4 G4
        generalize atP T C (clT wt) 0 m = z5 at f5 G5
        have h4 := G4.out
        have h5 := G5.out
        generalize hC : C m = cm at *
        clear hA hA2
        have dl : decide (n ≤ m) = false := decide_eq_false (by omega)
        cases cm
        · have HQ := Lib.hid (show begins C (m + 1) = q by rw [HB.out, if_neg (by simp)]; rfl)
          clear hC
          obtain rfl : z5 = 0 := by simpa using h5
          clear h5
          go_wp2_with fail
          refine wp_region_bel (by kernel_rfl) (by kernel_rfl) ?_
          repeat (
            refine WQ.step (fun KK hKK => ?_)
            go_simp
            refine hKK _ ?_; clear hKK KK)
          refine WQ.nil_ ?_
          rintro wq1 ⟨⟨wq, hq⟩, hwq⟩
          obtain rfl : wq = wq1 := hwq.symm
          clear hwq
          go_wp2
          go_roundw
          case rel => exact ⟨m + 1, by omega, by go_num, by rw [HQ.out], hB.trans (hq.mono hB.size)⟩
          case measure => simp [intOf]; omega
        · by_cases hm0 : m = 0
          · have HQ := Lib.hid (show begins C (m + 1) = q + 1 by rw [HB.out, if_pos ⟨rfl, .inl hm0⟩])
            have hm1 : ((m : Int) == 0) = true := by rw [hm0]; rfl
            have HM := Lib.hid hm0
            clear hC hm0
            go_wp2_with fail
            refine wp_region_bel (by kernel_rfl) (by kernel_rfl) ?_
            repeat (
              refine WQ.step (fun KK hKK => ?_)
              go_simp
              refine hKK _ ?_; clear hKK KK)
            refine WQ.nil_ ?_
            rintro wq1 ⟨⟨wq, hq⟩, hwq⟩
            obtain rfl : wq = wq1 := hwq.symm
            clear hwq
            go_wp2
            go_roundw
            case rel => exact ⟨m + 1, by omega, by go_num, by rw [HQ.out]; go_num, hB.trans (hq.mono hB.size)⟩
            case measure => simp [intOf]; omega
          · obtain ⟨j, hj⟩ : ∃ j, m - 1 = j := ⟨_, rfl⟩
            have y1 := Y1.out hm0
            have hjn : j < n := by omega
            have hmj : (m : Int) - 1 = (j : Int) := by omega
            have hm1 : ((m : Int) == 0) = false := beq_false_of_ne (by omega)
            have HM := Lib.hid hm0
            clear hm0
            rw [hj] at y1 HB
            have HJ := Lib.hid hj; clear hj
            generalize hCj : C j = cj at y1 HB
            have HCJ := Lib.hid hCj; clear hCj
            cases cj
            · have HQ := Lib.hid (show begins C (m + 1) = q + 1 by rw [HB.out, if_pos ⟨rfl, .inr rfl⟩])
              clear hC
              go_wp2_with fail
              refine wp_region_bel (by kernel_rfl) (by kernel_rfl) ?_
              repeat (
                refine WQ.step (fun KK hKK => ?_)
                go_simp
                refine hKK _ ?_; clear hKK KK)
              refine WQ.nil_ ?_
              rintro wq1 ⟨⟨wq, hq⟩, hwq⟩
              obtain rfl : wq = wq1 := hwq.symm
              clear hwq
              go_wp2
              go_roundw
              case rel => exact ⟨m + 1, by omega, by go_num, by rw [HQ.out]; go_num, hB.trans (hq.mono hB.size)⟩
              case measure => simp [intOf]; omega
            · have HQ := Lib.hid (show begins C (m + 1) = q by rw [HB.out, if_neg (by rintro ⟨-, h | h⟩; exact HM.out h; cases h)]; rfl)
              clear hC
              go_wp2_with fail
              refine wp_region_bel (by kernel_rfl) (by kernel_rfl) ?_
              repeat (
                refine WQ.step (fun KK hKK => ?_)
                go_simp
                refine hKK _ ?_; clear hKK KK)
              refine WQ.nil_ ?_
              rintro wq1 ⟨⟨wq, hq⟩, hwq⟩
              obtain rfl : wq = wq1 := hwq.symm
              clear hwq
              go_wp2
              go_roundw
              case rel => exact ⟨m + 1, by omega, by go_num, by rw [HQ.out], hB.trans (hq.mono hB.size)⟩
              case measure => simp [intOf]; omega
      · obtain rfl : m = n := by omega
        have hP6 := Lib.hid (Q2.now hP5.out hB)
        have hB6 := hB5.trans (hB.mono hB5.size)
        have HRB := Lib.hid (runs_begins C m)
        go_wp2_with fail
        refine (pruns_any A m cap T C _ (by omega) hcn hcap hP6.out).mono ?_
        rintro e w6 ⟨⟨v, rfl, hown⟩, hb6⟩
        rw [hN.out] at hown
        obtain ⟨A7, n7, c7, rfl, hc7, hd7, hr7⟩ := hown.r2
        obtain rfl : begins C m = n7 := by rw [hr7.len]; exact HRB.out.symm
        clear hown hr7
        generalize begins C m = q
        go_wp2
        go_ret
        exact ⟨rfl, hB6.trans (hb6.mono hB6.size)⟩
  · go_enter Try.func14, Try.ntmps14
    go_wp2_with fail
    refine (pawake_any _).mono ?_
    rintro e w1 ⟨rfl, hb1⟩
    go_wp2
    go_ret
    exact ⟨rfl, hb1⟩
end Go.Proofs.Ytcmhceilbampiaa
