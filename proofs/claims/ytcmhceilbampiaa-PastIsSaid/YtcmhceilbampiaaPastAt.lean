/-
  THE PAST's WALKS: At.
-/
import Derived.Test.YtcmhceilbampiaaPastR
import Derived.Test.YtcmhceilbampiaaHold2
namespace Go.Proofs.Ytcmhceilbampiaa
open Go.RowKit
open HoldP
open PastP
set_option linter.unusedVariables false
/-- b is a look for which place I fires. -/
def HitB (T : Nat → Int) (C : Nat → Bool) (w k : Int) (I b : Nat) : Prop := long T C w b ∧ (b = I ∨ 0 < k ∧ T I - T b < k)
theorem fires_iff {T : Nat → Int} {C : Nat → Bool} {w k : Int} {I : Nat} : Fires T C w k I ↔ ∃ b, b ≤ I ∧ HitB T C w k I b := Iff.rfl
def NoH (T : Nat → Int) (C : Nat → Bool) (w k : Int) (I f b : Nat) : Prop := ∀ j, f ≤ j → j < b → ¬ HitB T C w k I j
def NoO (T : Nat → Int) (C : Nat → Bool) (w k : Int) (I : Nat) (l : List (Nat × Nat)) (m : Nat) : Prop := ∀ j, j < m → ∀ p, l[j]? = some p → ∀ b, p.1 ≤ b → b ≤ p.2 → b ≤ I → ¬ HitB T C w k I b
theorem atV_no {n : Nat} {T : Nat → Int} {C : Nat → Bool} {w k i : Int} (h : ¬ (0 ≤ i ∧ i < (cntN n T : Nat))) : atV n T C w k i = -1 := by
  unfold atV
  rw [if_neg]
  rintro ⟨h1, h2, h3⟩
  exact h ⟨h2, by rw [cntN_of (saneB_iff.1 h1)]; exact h3⟩
theorem atV_at {n : Nat} {T : Nat → Int} {C : Nat → Bool} {w k : Int} {I : Nat} (h : I < cntN n T) : atV n T C w k (I : Int) = atP T C (clT w) (clT k) I := by
  unfold atV
  cases hs : saneB n T
  · rw [cntN_no hs] at h; omega
  · rw [cntN_of (saneB_iff.1 hs)] at h
    rw [if_pos ⟨rfl, by omega, by omega⟩]; rfl
theorem min_runs (a b : Nat) : ∃ m : Nat, (∀ (ts : Array TypeId) (t : TypeId) (W : World), (Builtin.min_ ts t #[.int .i64 (a : Int), .int .i64 (b : Int)]).run Try.prog W = .ok (.int .i64 (m : Int)) W) ∧ m = min a b := by
  refine ⟨min a b, fun ts t W => ?_, rfl⟩
  simp [Builtin.min_, Builtin.min2]; split <;> omega
theorem Own2.ats {α : Type} {w : World} {base e : Nat} {f : α → Value × Value} {v : Value} {l : List α} (h : Own2 w base e f v l) : ∃ A n cap, v = .slice A n cap ∧ n = l.length ∧ n ≤ cap ∧ cap ≤ maxLen ∧
    ∀ (i : Nat) (p : α), l[i]? = some p → ∃ b off, A = some ⟨b, off, none⟩ ∧ b < w.heap.size ∧ w.cell? ⟨b, off + i * 2, none⟩ = some (f p).1 ∧ w.cell? ⟨b, off + i * 2 + 1, none⟩ = some (f p).2 := by
  obtain ⟨A, n, cap, rfl, rfl, hq, h1, h2⟩ := h.q2
  refine ⟨A, _, cap, rfl, rfl, h1, h2, fun i p hp => ?_⟩
  have hi : i < l.length := (List.getElem?_eq_some_iff.1 hp).1
  obtain ⟨b, off, e, hb, hc⟩ := hq (by omega)
  have := hc i hi
  simp only [hp, Option.map_some, Option.getD_some] at this
  exact ⟨b, off, e, hb, this.1, this.2⟩
theorem maxLen_eq : maxLen = 9223372036854775807 := rfl
set_option maxRecDepth 100000 in
set_option maxHeartbeats 1600000 in
theorem pat_any (A : Option Addr) (n cap : Nat) (T : Nat → Int) (C : Nat → Bool) (wt k i : Int) (w : World) (hn : n ≤ 9223372036854775807) (hc : n ≤ cap) (hcap : cap ≤ 9223372036854775807) (B : Nat) (hBw : B ≤ w.heap.size) (hb : Ps w B A n T C) :
    Calls Try.prog 31 #[.slice A n cap, .int .i64 wt, .int .i64 k, .int .i64 i] w fun e w' => e = .returned (.int .i64 (atV n T C wt k i)) ∧ Below w.heap.size w w' := by
  have hHb := Lib.hid hb; clear hb
  obtain ⟨m1, wc, hmax, hmin, hm⟩ := clamp_runs wt
  obtain ⟨m2, kc, hmax2, hmin2, hm2⟩ := clamp_runs k
  have HM := Lib.hid hm; clear hm
  have HM2 := Lib.hid hm2; clear hm2
  have hSN := sane_cntN n T
  go_enter Try.func31, Try.ntmps31
  go_wp2_with fail
  refine (pcnt_any A n cap T C _ hn hc hcap B hBw hHb.out).mono ?_
  rintro e w1 ⟨⟨A', cap', rfl, hps, hc', hcap''⟩, hb1⟩
  have h200 : cntN n T ≤ 200 := hSN.1
  by_cases hi : 0 ≤ i ∧ i < (cntN n T : Nat)
  · obtain ⟨I, rfl⟩ := Int.eq_ofNat_of_zero_le hi.1
    have hI : I < cntN n T := by omega
    have HV := Lib.hid (atV_at (n := n) (T := T) (C := C) (w := wt) (k := k) hI)
    rw [HM.out.symm, HM2.out.symm] at HV
    have hwc : 0 ≤ wc := by have := cl_bd wt; rw [HM.out]; omega
    clear hi
    have hru := Lib.hid (runsOf C (cntN n T))
    have hidem : cntN (cntN n T) T = cntN n T := cntN_of hSN
    generalize cntN n T = N at hps hc' h200 hI hSN hru hidem ⊢
    obtain ⟨b0, off, rfl, hbB, hcl⟩ := hps (by omega)
    have hps' := Lib.hid hps; clear hps
    have hHc := Lib.hid hcl; clear hcl
    have hSN' := Lib.hid hSN; clear hSN
    go_wp2_with fail
    refine (pruns_any (some ⟨b0, off, none⟩) N cap' T C _ (by omega) hc' hcap'' ((hps'.out).more (by have := hb1.size; omega))).mono ?_
    rintro e w2 ⟨⟨v, rfl, hown⟩, hb2⟩
    rw [hidem] at hown
    obtain ⟨A2, n2, cap2, rfl, hn2, hc2, hcap2, hat⟩ := hown.ats
    rw [maxLen_eq] at hcap2
    have hB2 : Below w.heap.size w w2 := hb1.trans (hb2.mono hb1.size)
    have hAt := Lib.hid hat; clear hat hown
    have FT : ∀ W', Below w2.heap.size w2 W' → ∀ j, j < N → W'.cell? ⟨b0, off + j * 2, none⟩ = some (.int .i64 (T j)) := fun W' hW j hj =>
      (hW.cell (p := ⟨b0, off + j * 2, none⟩) (by have := hB2.size; show b0 < _; omega)).trans ((hb2.cell (p := ⟨b0, off + j * 2, none⟩) (by have := hb1.size; show b0 < _; omega)).trans (hHc.out j hj).1)
    have FC : ∀ W', Below w2.heap.size w2 W' → ∀ j, j < N → W'.cell? ⟨b0, off + j * 2 + 1, none⟩ = some (.bool (C j)) := fun W' hW j hj =>
      (hW.cell (p := ⟨b0, off + j * 2 + 1, none⟩) (by have := hB2.size; show b0 < _; omega)).trans ((hb2.cell (p := ⟨b0, off + j * 2 + 1, none⟩) (by have := hb1.size; show b0 < _; omega)).trans (hHc.out j hj).2)
    have HFT := Lib.hid FT; clear FT
    have HFC := Lib.hid FC; clear FC
    clear hps' hHc hb1 hb2 hHb hmax hmin hmax2 hmin2
    have hlen : n2 ≤ 201 := by have := runs_len C N; omega
    have HN2 := Lib.hid hn2; clear hn2
    clear hidem HM HM2
    go_wp2
    go_loopw [34] (fun q wr => ∃ m : Nat, m ≤ n2 ∧ q = .int .i64 m ∧ Hid (NoO T C wc kc I (runs C N) m) ∧ Below w2.heap.size w2 wr) (fun q _ => n2 - (intOf q).toNat)
    case atStart => exact ⟨0, by omega, rfl, Lib.hid (fun j hj => absurd hj (by omega)), Below.refl _ _⟩
    case round =>
      obtain ⟨m, hm, rfl, hno, hB⟩ := hrel
      by_cases hlt : m < n2
      · obtain ⟨⟨f, g⟩, hp⟩ : ∃ p, (runs C N)[m]? = some p := ⟨_, List.getElem?_eq_getElem (by rw [← HN2.out]; exact hlt)⟩
        have HP := Lib.hid hp
        have hmem : (f, g) ∈ runs C N := List.mem_of_getElem? hp
        obtain ⟨hfg, hgN, -, -⟩ := hru.out.mem _ hmem
        simp only at hfg hgN
        have HBG := Lib.hid (fun j (h1 : f ≤ j) (h2 : j ≤ g) => hru.out.beg hmem (j := j) h1 h2)
        obtain ⟨b2, off2, rfl, hb2B, hc0, hc1⟩ := hAt.out m (f, g) hp
        clear hp hmem
        have hx0 : wr.cell? ⟨b2, off2 + m * 2, none⟩ = some (.int .i64 (f : Int)) := (hB.cell (p := ⟨b2, off2 + m * 2, none⟩) hb2B).trans hc0
        have hx1 : wr.cell? ⟨b2, off2 + m * 2 + 1, none⟩ = some (.int .i64 (g : Int)) := (hB.cell (p := ⟨b2, off2 + m * 2 + 1, none⟩) hb2B).trans hc1
        clear hc0 hc1
        have hBB := hB.alloc hB.size (.cells #[.int .i64 (f : Int), .int .i64 (g : Int)] 44)
        have u0 : ∀ p : Bel (wr.alloc (.cells #[.int .i64 (f : Int), .int .i64 (g : Int)] 44)), p.now.cell? ⟨wr.heap.size, 0, none⟩ = some (.int .i64 (f : Int)) := Bel.cells (Blk.new wr _ _) 0
        have u1 : ∀ p : Bel (wr.alloc (.cells #[.int .i64 (f : Int), .int .i64 (g : Int)] 44)), p.now.cell? ⟨wr.heap.size, 1, none⟩ = some (.int .i64 (g : Int)) := Bel.cells (Blk.new wr _ _) 1
        obtain ⟨L, hmn, hL⟩ := min_runs g I
        go_wp2_with fail
        refine wp_region_bel (by kernel_rfl) (by kernel_rfl) ?_
        repeat (
          refine WQ.step (fun KK hKK => ?_)
          go_simp
          refine hKK _ ?_; clear hKK KK)
        refine WQ.nil_ ?_
        rintro wq1 ⟨⟨wq, hq⟩, hwq⟩
        obtain rfl : wq = wq1 := hwq.symm
        clear hwq
        clear u0 u1 hx0 hx1 hmn
        have hBq := hBB.trans (hq.mono hBB.size)
        clear hBB hq hB
        go_wp2
        go_loopw [13] (fun x wr => ∃ b : Nat, f ≤ b ∧ x = .int .i64 b ∧ Hid (NoH T C wc kc I f b) ∧ Below w2.heap.size w2 wr) (fun x _ => L + 1 - (intOf x).toNat)
        case atStart => exact ⟨f, Nat.le_refl _, rfl, Lib.hid (fun j h1 h2 => by omega), hBq⟩
        case round =>
          obtain ⟨b, hfb, rfl, hnh, hBi⟩ := hrel
          by_cases hbL : b ≤ L
          · have hbg : b ≤ g := by omega
            have hbI : b ≤ I := by omega
            obtain ⟨hbeg, hCb⟩ := HBG.out b hfb hbg
            have hTb := hSN'.out.bd (i := b) (by omega)
            have hTf := hSN'.out.bd (i := f) (by omega)
            have hTI := hSN'.out.bd (i := I) hI
            have hLong := Lib.hid (show long T C wc b ↔ wc ≤ T b - T f from ⟨fun h => by have := h.2; rw [hbeg] at this; exact this, fun h => ⟨hCb, by rw [hbeg]; exact h⟩⟩)
            clear hbeg hCb
            have vb : ∀ p : Bel wr, p.now.cell? ⟨b0, off + b * 2, none⟩ = some (.int .i64 (T b)) := fun p => HFT.out _ (hBi.trans (p.bel.mono hBi.size)) b (by omega)
            have vf : ∀ p : Bel wr, p.now.cell? ⟨b0, off + f * 2, none⟩ = some (.int .i64 (T f)) := fun p => HFT.out _ (hBi.trans (p.bel.mono hBi.size)) f (by omega)
            have hbN : b < N := by omega
            have hfN : f < N := by omega
            have hw1 : IntKind.i64.wrap (T b - T f) = T b - T f := wr64 _ (by omega)
            have hw2 : IntKind.i64.wrap (T I - T b) = T I - T b := wr64 _ (by omega)
            go_wp2_with fail
            refine wp_region_bel (by kernel_rfl) (by kernel_rfl) ?_
            repeat (
              refine WQ.step (fun KK hKK => ?_)
              go_simp
              refine hKK _ ?_; clear hKK KK)
            refine WQ.nil_ ?_
            rintro wq1 ⟨⟨wq, hq⟩, hwq⟩
            obtain rfl : wq = wq1 := hwq.symm
            clear hwq
            have hBj := hBi.trans (hq.mono hBi.size)
            have vb' : ∀ p : Bel wq, p.now.cell? ⟨b0, off + b * 2, none⟩ = some (.int .i64 (T b)) := fun p => HFT.out _ (hBj.trans (p.bel.mono hBj.size)) b (by omega)
            have vI' : ∀ p : Bel wq, p.now.cell? ⟨b0, off + I * 2, none⟩ = some (.int .i64 (T I)) := fun p => HFT.out _ (hBj.trans (p.bel.mono hBj.size)) I hI
            clear vb vf hq
            have hTb' := Lib.hid hTb; clear hTb
            have hTf' := Lib.hid hTf; clear hTf
            have hTI' := Lib.hid hTI; clear hTI
            by_cases hl : wc ≤ T b - T f
            · by_cases hbe : b = I
              · have HE := Lib.hid (show atP T C wc kc I = 2 from atP_yes ⟨b, hbI, hLong.out.2 hl, .inl hbe⟩)
                have hbe' := Lib.hid hbe; clear hbe
                have hbe2 : (b : Int) = (I : Int) := by rw [hbe'.out]
                go_wp2_with fail
                refine wp_region_bel (by kernel_rfl) (by kernel_rfl) ?_
                repeat (
                  refine WQ.step (fun KK hKK => ?_)
                  go_simp
                  refine hKK _ ?_; clear hKK KK)
                refine WQ.nil_ ?_
                rintro wq1 ⟨⟨wq, hq⟩, hwq⟩
                obtain rfl : wq = wq1 := hwq.symm
                clear hwq
                go_wp2
                go_ret
                exact ⟨ri (by rw [HV.out, HE.out]), hB2.trans ((hBj.trans (hq.mono hBj.size)).mono hB2.size)⟩
              have hbe1 : decide (b = I) = false := decide_eq_false hbe
              have hbe2 : ((b : Int) == (I : Int)) = false := beq_false_of_ne (by omega)
              by_cases hk0 : 0 < kc
              · by_cases hk1 : T I - T b < kc
                · have HE := Lib.hid (show atP T C wc kc I = 2 from atP_yes ⟨b, hbI, hLong.out.2 hl, .inr ⟨hk0, hk1⟩⟩)
                  go_wp2_with fail
                  refine wp_region_bel (by kernel_rfl) (by kernel_rfl) ?_
                  repeat (
                    refine WQ.step (fun KK hKK => ?_)
                    go_simp
                    refine hKK _ ?_; clear hKK KK)
                  refine WQ.nil_ ?_
                  rintro wq1 ⟨⟨wq, hq⟩, hwq⟩
                  obtain rfl : wq = wq1 := hwq.symm
                  clear hwq
                  go_wp2
                  go_ret
                  exact ⟨ri (by rw [HV.out, HE.out]), hB2.trans ((hBj.trans (hq.mono hBj.size)).mono hB2.size)⟩
                · have HN := Lib.hid (show NoH T C wc kc I f (b + 1) from fun j h1 h2 => by
                    rcases Nat.lt_or_ge j b with h3 | h3
                    · exact hnh.out j h1 h3
                    · obtain rfl : j = b := by omega
                      rintro ⟨_, h4 | ⟨_, h4⟩⟩ <;> omega)
                  have hk2 : decide (T I - T b < kc) = false := decide_eq_false hk1
                  go_wp2_with fail
                  refine wp_region_bel (by kernel_rfl) (by kernel_rfl) ?_
                  repeat (
                    refine WQ.step (fun KK hKK => ?_)
                    go_simp
                    refine hKK _ ?_; clear hKK KK)
                  refine WQ.nil_ ?_
                  rintro wq1 ⟨⟨wq, hq⟩, hwq⟩
                  obtain rfl : wq = wq1 := hwq.symm
                  clear hwq
                  go_wp2
                  go_roundw
                  case rel => exact ⟨b + 1, by omega, by go_num, HN, hBj.trans (hq.mono hBj.size)⟩
                  case measure => simp [intOf]; omega
              · have HN := Lib.hid (show NoH T C wc kc I f (b + 1) from fun j h1 h2 => by
                  rcases Nat.lt_or_ge j b with h3 | h3
                  · exact hnh.out j h1 h3
                  · obtain rfl : j = b := by omega
                    rintro ⟨_, h4 | ⟨h4, _⟩⟩ <;> omega)
                have hk2 : decide (0 < kc) = false := decide_eq_false hk0
                go_wp2_with fail
                refine wp_region_bel (by kernel_rfl) (by kernel_rfl) ?_
                repeat (
                  refine WQ.step (fun KK hKK => ?_)
                  go_simp
                  refine hKK _ ?_; clear hKK KK)
                refine WQ.nil_ ?_
                rintro wq1 ⟨⟨wq, hq⟩, hwq⟩
                obtain rfl : wq = wq1 := hwq.symm
                clear hwq
                go_wp2
                go_roundw
                case rel => exact ⟨b + 1, by omega, by go_num, HN, hBj.trans (hq.mono hBj.size)⟩
                case measure => simp [intOf]; omega
            · have HN := Lib.hid (show NoH T C wc kc I f (b + 1) from fun j h1 h2 => by
                rcases Nat.lt_or_ge j b with h3 | h3
                · exact hnh.out j h1 h3
                · obtain rfl : j = b := by omega
                  rintro ⟨h4, _⟩
                  exact hl (hLong.out.1 h4))
              have hl2 : decide (wc ≤ T b - T f) = false := decide_eq_false hl
              go_wp2_with fail
              refine wp_region_bel (by kernel_rfl) (by kernel_rfl) ?_
              repeat (
                refine WQ.step (fun KK hKK => ?_)
                go_simp
                refine hKK _ ?_; clear hKK KK)
              refine WQ.nil_ ?_
              rintro wq1 ⟨⟨wq, hq⟩, hwq⟩
              obtain rfl : wq = wq1 := hwq.symm
              clear hwq
              go_wp2
              go_roundw
              case rel => exact ⟨b + 1, by omega, by go_num, HN, hBj.trans (hq.mono hBj.size)⟩
              case measure => simp [intOf]; omega
          · have HN := Lib.hid (show NoO T C wc kc I (runs C N) (m + 1) from fun j hj p hp b' h1 h2 h3 => by
              rcases Nat.lt_or_ge j m with h4 | h4
              · exact hno.out j h4 p hp b' h1 h2 h3
              · obtain rfl : j = m := by omega
                rw [HP.out] at hp
                cases hp
                exact hnh.out b' h1 (by simp only at h2; omega))
            go_wp2
            go_roundw
            case rel => exact ⟨m + 1, by omega, by go_num, HN, hBi⟩
            case measure => simp [intOf]; omega
      · obtain rfl : m = n2 := by omega
        have HF := Lib.hid (show ¬ Fires T C wc kc I from fun ⟨b, h1, h2⟩ => by
          obtain ⟨p, hp, h3, h4⟩ := hru.out.cov b (by omega) h2.1.1
          obtain ⟨j, hj⟩ := List.getElem?_of_mem hp
          have hjl : j < (runs C N).length := (List.getElem?_eq_some_iff.1 hj).1
          exact hno.out j (by rw [HN2.out]; exact hjl) p hj b h3 h4 h1 h2)
        have vI : wr.cell? ⟨b0, off + I * 2 + 1, none⟩ = some (.bool (C I)) := HFC.out _ hB I hI
        cases hCI : C I
        · have HE := Lib.hid (atP_0 HF.out hCI)
          rw [hCI] at vI
          clear hCI
          go_wp2
          go_ret
          exact ⟨ri (by rw [HV.out, HE.out]), hB2.trans (hB.mono hB2.size)⟩
        · have HE := Lib.hid (atP_1 HF.out hCI)
          rw [hCI] at vI
          clear hCI
          go_wp2
          go_ret
          exact ⟨ri (by rw [HV.out, HE.out]), hB2.trans (hB.mono hB2.size)⟩
  · have HV := Lib.hid (atV_no (C := C) (w := wt) (k := k) hi)
    generalize cntN n T = N at hps hc' h200 hi ⊢
    by_cases h0 : 0 ≤ i
    · have h1 : (N : Int) ≤ i := by omega
      go_wp2
      go_ret
      exact ⟨ri HV.out.symm, hb1⟩
    · go_wp2
      go_ret
      exact ⟨ri HV.out.symm, hb1⟩
end Go.Proofs.Ytcmhceilbampiaa
