/-
  PastAll's walk.
-/
import Derived.Test.YtcmhceilbampiaaPastL3
namespace Go.Proofs.Ytcmhceilbampiaa
open Go.RowKit
open HoldP
open PastP
set_option linter.unusedVariables false
def aside2 (a b : Value) : Prop := ∀ g, a.ownBlock = some g → b.ownBlock ≠ some g
theorem aside2.ne {a b : Value} (h : aside2 a b) : b.ownBlock = none ∨ b.ownBlock ≠ a.ownBlock := by
  cases hb : b.ownBlock with
  | none => exact .inl rfl
  | some g => exact .inr (fun e => h g e.symm hb)
theorem aside2.symm {a b : Value} (h : aside2 a b) : aside2 b a := fun g hb ha => h g ha hb
theorem aside2.grow {a a' b : Value} {w : World} (h : aside2 a b) (ha : a'.ownBlock = a.ownBlock ∨ a'.ownBlock = some w.heap.size) (hb : ∀ k, b.ownBlock = some k → k < w.heap.size) : aside2 a' b := fun g e hb' => by
  rcases ha with ha | ha
  · exact h g (ha ▸ e) hb'
  · rw [ha] at e
    cases e
    have := hb _ hb'
    omega
set_option maxRecDepth 100000 in
set_option maxHeartbeats 3200000 in
theorem pastAll_walk (w : World) (v : Value) (hv' : IsPoints w v) (wt : Int) (hw1 : -9223372036854775808 ≤ wt) (hw2 : wt ≤ 9223372036854775807) (k : Int) (hk1 : -9223372036854775808 ≤ k) (hk2 : k ≤ 9223372036854775807) :
    Calls Try.prog 13 #[v, .int .i64 wt, .int .i64 k] w fun e w' => e = .returned (.bool true) ∧ Below w.heap.size w w' := by
  obtain ⟨A, n, cap, T, C, rfl, hps, hcn, hcap⟩ := hv'
  by_cases hn : n ≤ 60
  · have hP0 := Lib.hid hps; clear hps
    go_enter Try.func13, Try.ntmps13
    go_wp2_with fail
    refine (pawake_any _).mono ?_
    rintro e w1 ⟨rfl, hb1⟩
    have hP1 := Lib.hid (Q2.now hP0.out hb1)
    clear hP0
    go_wp2_with fail
    refine (psane_any A n cap T C _ (by omega) hP1.out).mono ?_
    rintro e w2 ⟨rfl, hb2⟩
    have hP2 := Lib.hid (Q2.now hP1.out hb2)
    have hB2 := hb1.trans (hb2.mono hb1.size)
    clear hP1 hb1 hb2
    cases hs : saneB n T
    · clear hs
      go_wp2
      go_ret
      exact ⟨rfl, hB2⟩
    have hS := Lib.hid (saneB_iff.1 hs)
    clear hs
    by_cases hby : wt < 0
    · go_wp2
      go_ret
      exact ⟨rfl, hB2⟩
    by_cases hby2 : 9007199254740992 < wt
    · go_wp2
      go_ret
      exact ⟨rfl, hB2⟩
    have hN := Lib.hid (cntN_of hS.out)
    have d1 : decide (wt < 0) = false := decide_eq_false hby
    have d2 : decide (9007199254740992 < wt) = false := decide_eq_false hby2
    have hcl := Lib.hid (show clT wt = wt by unfold clT; omega)
    go_wp2
    clear d1 d2
    go_loopw [8, 9, 10] (fun vy vn i wr => ∃ m : Nat, m ≤ n ∧ i = .int .i64 m ∧ Own2 wr w2.heap.size 46 pf vy (ptL T (fun _ => true) m) ∧ Own2 wr w2.heap.size 46 pf vn (ptL T (fun _ => false) m) ∧ aside2 vy vn ∧ Below w2.heap.size w2 wr) (fun _ _ i _ => n - (intOf i).toNat)
    case atStart => exact ⟨0, by omega, rfl, Own2.nil_ _ _ _ _, Own2.nil_ _ _ _ _, (show aside2 _ _ from fun g e => by cases e), Below.refl _ _⟩
    case round =>
      obtain ⟨m, hm, rfl, howny, hownn, has, hB⟩ := hrel
      by_cases hlt : m < n
      · obtain ⟨b0, off, rfl, g0, hc⟩ := (hP2.out.below hB) (by omega)
        have c0 : wr.cell? ⟨b0, off + m * 2, none⟩ = some (.int .i64 (T m)) := (hc m hlt).1
        clear hc
        have HSy := Lib.hid (ptL_succ T (fun _ => true) m)
        have HSn := Lib.hid (ptL_succ T (fun _ => false) m)
        have HLy := Lib.hid (ptL_len T (fun _ => true) m)
        have HLn := Lib.hid (ptL_len T (fun _ => false) m)
        have hP2' := Lib.hid hP2; clear hP2
        generalize T m = tm at c0 HSy HSn
        have hsz := hB.size
        obtain ⟨A8, n8, c8, rfl, -, -, -⟩ := howny.r2
        obtain ⟨A9, n9, c9, rfl, -, -, -⟩ := hownn.r2
        have HOy := Lib.hid howny; clear howny
        have HOn := Lib.hid hownn; clear hownn
        have HAs := Lib.hid has; clear has
        have HN1 := Lib.hid (Blk.new wr 46 #[.int .i64 tm, .bool true])
        have HO2 := Lib.hid (HOy.out.alloc (.cells #[.int .i64 tm, .bool true] 46))
        have HO3 := Lib.hid (HOn.out.alloc (.cells #[.int .i64 tm, .bool true] 46))
        have c1 := Lib.hid ((World.cell?_alloc_lt wr (.cells #[.int .i64 tm, .bool true] 46) ⟨b0, off + m * 2, none⟩ (by show b0 < _; omega)).trans c0)
        go_wp2_with (first
          | (refine wpList_append_2 (by rfl) (.tmp 38) (.tmp 45) 34 (by rfl) w2.heap.size 46 (.agg #[.int .i64 0, .bool false]) 16 Try.underlying34 infoPt rfl pf (.slice A8 n8 c8) (ptL T (fun _ => true) m) (by rfl) HO2.out (tm, true) ⟨rfl, rfl⟩ wr.heap.size 1 46 (by rfl) HN1.out (by rw [HLy.out]; omega) (by rw [HLy.out]; omega) (by simp; omega) ?_; intro v' w' hown' hgr hat; have c2 := (cells2_grown hgr (fun g hg => HOy.out.base_le g hg) (by simp; omega) g0 c1.out c1.out).1; have HOw := Lib.hid hown'; clear hown'; have HN2 := Lib.hid (Blk.new w' 46 #[.int .i64 tm, .bool false]); have HO4 := Lib.hid ((HO3.out.kept hgr (HAs.out.ne)).alloc (.cells #[.int .i64 tm, .bool false] 46)); have hws := hgr.size)
          | (refine wpList_append_2 (by rfl) (.tmp 47) (.tmp 54) 34 (by rfl) w2.heap.size 46 (.agg #[.int .i64 0, .bool false]) 16 Try.underlying34 infoPt rfl pf (.slice A9 n9 c9) (ptL T (fun _ => false) m) (by rfl) HO4.out (tm, false) ⟨rfl, rfl⟩ w'.heap.size 1 46 (by rfl) HN2.out (by rw [HLn.out]; omega) (by rw [HLn.out]; omega) (by simp at hws ⊢; omega) ?_; intro v'' w'' hown'' hgr' hat'))
        have hAs2 : aside2 v' (.slice A9 n9 c9) := HAs.out.grow hat (fun k e => by have := HOn.out.lt k e; simp; omega)
        have hAs3 : aside2 v' v'' := (hAs2.symm.grow hat' (fun k e => by have := HOw.out.lt k e; simp; omega)).symm
        have hB3 : Below w2.heap.size w2 w' := ((hB.alloc hB.size _)).grown hgr (by simp; omega) (fun g hg => HOy.out.base_le g hg)
        have hB4 : Below w2.heap.size w2 w'' := ((hB3.alloc hB3.size _)).grown hgr' (by simp at hws ⊢; omega) (fun g hg => HOn.out.base_le g hg)
        go_roundw
        case rel => exact ⟨m + 1, by omega, by go_num, by rw [HSy.out]; exact (HOw.out.alloc _).kept hgr' hAs2.symm.ne, by rw [HSn.out]; exact hown'', hAs3, hB4⟩
        case measure => simp [intOf]; omega
      · obtain rfl : m = n := by omega
        obtain ⟨A8, n8, c8, rfl, hc8, hd8, hr8⟩ := howny.r2
        obtain rfl : m = n8 := by rw [hr8.len, ptL_len]
        obtain ⟨A9, n9, c9, rfl, hc9, hd9, hr9⟩ := hownn.r2
        obtain rfl : m = n9 := by rw [hr9.len, ptL_len]
        have hR8 := Lib.hid (R2.ps hr8)
        have hR9 := Lib.hid (R2.ps hr9)
        have hP3 := Lib.hid (Q2.now hP2.out hB)
        have hB3 := hB2.trans (hB.mono hB2.size)
        clear howny hownn hr9 hr8 hP2 has
        go_wp2_with fail
        refine (pall_any A8 m c8 T (fun _ => true) wt k _ (by omega) hc8 hd8 hR8.out).mono ?_
        rintro e w4 ⟨⟨v, rfl, hown⟩, hb4⟩
        rw [hN.out, hcl.out] at hown
        obtain ⟨A4, n4, c4, rfl, hc4, hd4, hr4⟩ := hown.r1
        obtain rfl : m = n4 := by rw [hr4.len, allL_len]
        have hR4 := Lib.hid hr4
        have hR10 := Lib.hid (Q2.now hR9.out hb4)
        have hP4 := Lib.hid (Q2.now hP3.out hb4)
        have hB4 := hB3.trans (hb4.mono hB3.size)
        clear hown hr4 hb4 hR9 hP3 hB3
        go_wp2_with fail
        refine (pall_any A9 m c9 T (fun _ => false) wt k _ (by omega) hc9 hd9 hR10.out).mono ?_
        rintro e w5 ⟨⟨v, rfl, hown⟩, hb5⟩
        rw [hN.out, hcl.out] at hown
        obtain ⟨A5, n5, c5, rfl, hc5, hd5, hr5⟩ := hown.r1
        obtain rfl : m = n5 := by rw [hr5.len, allL_len]
        have hR5 := Lib.hid hr5
        have hR6 := Lib.hid (hR4.out.below hb5)
        have hP5 := Lib.hid (Q2.now hP4.out hb5)
        have hB5 := hB4.trans (hb5.mono hB4.size)
        clear hown hr5 hb5 hP4 hB4 hR4 hR10 hR8
        go_wp2
        go_loopw [13] (fun i wr => ∃ q : Nat, q ≤ m ∧ i = .int .i64 q ∧ Below w5.heap.size w5 wr) (fun i _ => m - (intOf i).toNat)
        case atStart => exact ⟨0, by omega, rfl, Below.refl _ _⟩
        case round =>
          obtain ⟨q, hqm, rfl, hB⟩ := hrel
          by_cases hlt : q < m
          · obtain ⟨b4, o4, rfl, f4, -⟩ := R1.one hR6.out hB (allL_get T (fun _ => true) wt (clT k) m q hlt)
            obtain ⟨b5, o5, rfl, f5, -⟩ := R1.one hR5.out hB (allL_get T (fun _ => false) wt (clT k) m q hlt)
            obtain ⟨b0, off, rfl, hc⟩ := Ps.one hP5.out hB (by omega)
            obtain ⟨u0, -, -, -⟩ := hc q hlt
            have x0 : ∀ p : Bel wr, p.now.cell? ⟨b0, off, none⟩ = some (.int .i64 (T 0)) := by have := (hc 0 (by omega)).1; simpa using this
            have h1 := hS.out.bd hlt
            have h2 := hS.out.bd (show 0 < m by omega)
            have hwr : IntKind.i64.wrap (T q - T 0) = T q - T 0 := wr64 _ (by omega)
            have e5 : atP T (fun _ => false) wt (clT k) q = 0 := atP_0 (fires_false T wt (clT k) q) rfl
            rw [e5] at f5
            have m0 : 0 < m := by omega
            clear e5 hc
            by_cases hF : wt ≤ T q - T 0
            · have e4 : atP T (fun _ => true) wt (clT k) q = 2 := atP_yes ((fires_true hS.out wt (clT k) hlt).2 hF)
              rw [e4] at f4
              clear e4
              generalize T q = tq at *
              generalize T 0 = t0 at *
              have H1 := Lib.hid h1; clear h1
              have H2 := Lib.hid h2; clear h2
              go_wp2_with fail
              refine wp_region_bel (by kernel_rfl) (by kernel_rfl) ?_
              repeat (
                refine WQ.step (fun KK hKK => ?_)
                go_simp
                refine hKK _ ?_; clear hKK KK)
              refine WQ.nil_ ?_
              rintro wq1 ⟨⟨wq, hq⟩, hwq⟩
              obtain rfl : wq = wq1 := hwq.symm
              clear hwq
              go_wp2
              go_roundw
              case rel => exact ⟨q + 1, by omega, by go_num, hB.trans (hq.mono hB.size)⟩
              case measure => simp [intOf]; omega
            · have e4 : atP T (fun _ => true) wt (clT k) q = 1 := atP_1 (fun h => hF ((fires_true hS.out wt (clT k) hlt).1 h)) rfl
              rw [e4] at f4
              clear e4
              generalize T q = tq at *
              generalize T 0 = t0 at *
              have H1 := Lib.hid h1; clear h1
              have H2 := Lib.hid h2; clear h2
              have hF2 : decide (wt ≤ tq - t0) = false := decide_eq_false hF
              go_wp2_with fail
              refine wp_region_bel (by kernel_rfl) (by kernel_rfl) ?_
              repeat (
                refine WQ.step (fun KK hKK => ?_)
                go_simp
                refine hKK _ ?_; clear hKK KK)
              refine WQ.nil_ ?_
              rintro wq1 ⟨⟨wq, hq⟩, hwq⟩
              obtain rfl : wq = wq1 := hwq.symm
              clear hwq
              go_wp2
              go_roundw
              case rel => exact ⟨q + 1, by omega, by go_num, hB.trans (hq.mono hB.size)⟩
              case measure => simp [intOf]; omega
          · obtain rfl : q = m := by omega
            go_wp2
            go_ret
            exact ⟨rfl, hB5.trans (hB.mono hB5.size)⟩
  · go_enter Try.func13, Try.ntmps13
    go_wp2_with fail
    refine (pawake_any _).mono ?_
    rintro e w1 ⟨rfl, hb1⟩
    go_wp2
    go_ret
    exact ⟨rfl, hb1⟩
end Go.Proofs.Ytcmhceilbampiaa
