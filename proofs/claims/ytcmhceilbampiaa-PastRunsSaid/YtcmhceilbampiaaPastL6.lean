/-
  PastRuns' walk.
-/
import Derived.Test.YtcmhceilbampiaaPastL3
namespace Go.Proofs.Ytcmhceilbampiaa
open Go.RowKit
open HoldP
open PastP
set_option linter.unusedVariables false
/-- Where the gap behind the first m runs begins. -/
def nx (l : List (Nat × Nat)) : Nat → Nat
  | 0 => 0
  | m + 1 => ((l[m]?).map (·.2)).getD 0 + 1
theorem nx_succ {l : List (Nat × Nat)} {m : Nat} {f g : Nat} (h : l[m]? = some (f, g)) : nx l (m + 1) = g + 1 := by simp [nx, h]
theorem pw_get {l : List (Nat × Nat)} (h : l.Pairwise fun p q => p.2 + 2 ≤ q.1) {i j : Nat} {p q : Nat × Nat} (hij : i < j) (hi : l[i]? = some p) (hj : l[j]? = some q) : p.2 + 2 ≤ q.1 := by
  obtain ⟨h1, rfl⟩ := List.getElem?_eq_some_iff.1 hi
  obtain ⟨h2, rfl⟩ := List.getElem?_eq_some_iff.1 hj
  exact (List.pairwise_iff_getElem.1 h) i j h1 h2 hij
theorem nx_le {C : Nat → Bool} {n : Nat} {l : List (Nat × Nat)} (h : RunsOf C n l) {m f g : Nat} (hm : l[m]? = some (f, g)) : nx l m ≤ f := by
  cases m with
  | zero => exact Nat.zero_le _
  | succ m =>
    obtain ⟨p, hp⟩ : ∃ p, l[m]? = some p := ⟨_, List.getElem?_eq_getElem (by have := (List.getElem?_eq_some_iff.1 hm).1; omega)⟩
    have := pw_get h.pw (Nat.lt_succ_self m) hp hm
    simp only [nx, hp, Option.map_some, Option.getD_some] at *
    omega
theorem gap {C : Nat → Bool} {n : Nat} {l : List (Nat × Nat)} (h : RunsOf C n l) {m q : Nat} (hml : m ≤ l.length) (hn : q < n) (h1 : nx l m ≤ q) (h2 : ∀ p, l[m]? = some p → q < p.1) : C q = false := by
  cases hc : C q with
  | false => rfl
  | true =>
    exfalso
    obtain ⟨p, hp, h3, h4⟩ := h.cov q hn hc
    obtain ⟨j, hj⟩ := List.getElem?_of_mem hp
    rcases Nat.lt_or_ge j m with hjm | hjm
    · obtain ⟨m', rfl⟩ : ∃ m', m = m' + 1 := ⟨m - 1, by omega⟩
      by_cases e : j = m'
      · subst e
        rw [nx_succ (f := p.1) (g := p.2) hj] at h1
        omega
      · cases hl : l[m']? with
        | none =>
          have hlen := List.getElem?_eq_none_iff.1 hl
          omega
        | some r =>
          have e1 := pw_get h.pw (show j < m' by omega) hj hl
          have e2 := (h.mem r (List.mem_of_getElem? hl)).1
          rw [nx_succ (f := r.1) (g := r.2) hl] at h1
          omega
    · obtain ⟨r, hr⟩ : ∃ r, l[m]? = some r := ⟨_, List.getElem?_eq_getElem (by have := (List.getElem?_eq_some_iff.1 hj).1; omega)⟩
      have e0 := h2 r hr
      by_cases e : j = m
      · subst e; rw [hr] at hj; cases hj; omega
      · have e1 := pw_get h.pw (show m < j by omega) hr hj
        have e2 := (h.mem r (List.mem_of_getElem? hr)).1
        omega
theorem R2.one {α : Type} {w w' : World} {A : Option Addr} {n : Nat} {f : α → Value × Value} {l : List α} (h : R2 w A n f l) (hb : Below w.heap.size w w') (hn : 0 < n) :
    ∃ b off, A = some ⟨b, off, none⟩ ∧ ∀ i y, l[i]? = some y → (∀ p : Bel w', p.now.cell? ⟨b, off + i * 2, none⟩ = some (f y).1) ∧ (∀ p : Bel w', p.now.cell? ⟨b, off + i * 2 + 1, none⟩ = some (f y).2) ∧ w'.cell? ⟨b, off + i * 2, none⟩ = some (f y).1 ∧ w'.cell? ⟨b, off + i * 2 + 1, none⟩ = some (f y).2 := by
  obtain ⟨y0, h0⟩ : ∃ y, l[0]? = some y := ⟨_, List.getElem?_eq_getElem (by rw [← h.len]; exact hn)⟩
  obtain ⟨b, off, e, -, -, -⟩ := h.at_ 0 y0 h0
  refine ⟨b, off, e, fun i y hy => ?_⟩
  obtain ⟨b', off', e', h1, h2, h3⟩ := h.at_ i y hy
  rw [e] at e'
  cases e'
  have g2 := (hb.cell (p := ⟨b, off + i * 2, none⟩) h1).trans h2
  have g3 := (hb.cell (p := ⟨b, off + i * 2 + 1, none⟩) h1).trans h3
  exact ⟨fun p => (p.bel.cell (p := ⟨b, off + i * 2, none⟩) (by have := hb.size; show b < _; omega)).trans g2, fun p => (p.bel.cell (p := ⟨b, off + i * 2 + 1, none⟩) (by have := hb.size; show b < _; omega)).trans g3, g2, g3⟩
set_option maxRecDepth 100000 in
set_option maxHeartbeats 3200000 in
theorem pastRuns_walk (w : World) (v : Value) (hv' : IsPoints w v) :
    Calls Try.prog 10 #[v] w fun e w' => e = .returned (.bool true) ∧ Below w.heap.size w w' := by
  obtain ⟨A, n, cap, T, C, rfl, hps, hcn, hcap⟩ := hv'
  by_cases hn : n ≤ 200
  · have hP0 := Lib.hid hps; clear hps
    go_enter Try.func10, Try.ntmps10
    go_wp2_with fail
    refine (pawake_any _).mono ?_
    rintro e w1 ⟨rfl, hb1⟩
    have hP1 := Lib.hid (Q2.now hP0.out hb1)
    clear hP0
    go_wp2_with fail
    refine (psane_any A n cap T C _ (by omega) hP1.out).mono ?_
    rintro e w2 ⟨rfl, hb2⟩
    have hP2 := Lib.hid (Q2.now hP1.out hb2)
    have hB2 := hb1.trans (hb2.mono hb1.size)
    clear hP1 hb1 hb2
    cases hs : saneB n T
    · clear hs
      go_wp2
      go_ret
      exact ⟨rfl, hB2⟩
    have hS := Lib.hid (saneB_iff.1 hs)
    clear hs
    have hN := Lib.hid (cntN_of hS.out)
    go_wp2_with fail
    refine (pruns_any A n cap T C _ (by omega) hcn hcap hP2.out).mono ?_
    rintro e w4 ⟨⟨v, rfl, hown⟩, hb4⟩
    rw [hN.out] at hown
    obtain ⟨A4, n4, c4, rfl, hc4, hd4, hr4⟩ := hown.r2
    have hlen := Lib.hid hr4.len
    have hn4 : n4 ≤ 201 := by have := runs_len C n; rw [hlen.out]; omega
    have hR4 := Lib.hid hr4
    have hP4 := Lib.hid (Q2.now hP2.out hb4)
    have hB4 := hB2.trans (hb4.mono hB2.size)
    have hru := Lib.hid (runsOf C n)
    clear hown hr4 hb4 hP2 hB2
    generalize runs C n = l at hR4 hru hlen
    go_wp2
    go_loopw [5, 6] (fun x i wr => ∃ m : Nat, m ≤ n4 ∧ i = .int .i64 m ∧ x = .int .i64 (nx l m : Nat) ∧ nx l m ≤ n ∧ Below w4.heap.size w4 wr) (fun _ i _ => n4 - (intOf i).toNat)
    case atStart => exact ⟨0, by omega, rfl, rfl, Nat.zero_le _, Below.refl _ _⟩
    case round =>
      obtain ⟨m, hm, rfl, rfl, hnn, hB⟩ := hrel
      by_cases hlt : m < n4
      · obtain ⟨⟨f, g⟩, hp⟩ : ∃ p, l[m]? = some p := ⟨_, List.getElem?_eq_getElem (by rw [← hlen.out]; exact hlt)⟩
        have HP := Lib.hid hp
        obtain ⟨hfg, hgn, hall, -⟩ := hru.out.mem _ (List.mem_of_getElem? hp)
        simp only at hfg hgn
        have HAll := Lib.hid hall; clear hall
        have hxf := nx_le hru.out hp
        obtain ⟨b4, o4, rfl, hcell⟩ := R2.one hR4.out hB (by omega)
        obtain ⟨u0, u1, -, -⟩ := hcell m (f, g) hp
        have HX := Lib.hid (show ∀ W', Below w4.heap.size w4 W' → W'.cell? ⟨b4, o4 + m * 2, none⟩ = some (.int .i64 (f : Int)) ∧ W'.cell? ⟨b4, o4 + m * 2 + 1, none⟩ = some (.int .i64 (g : Int)) from fun W' hW => by
          obtain ⟨b', o', e', hc'⟩ := R2.one hR4.out hW (by omega)
          cases e'
          obtain ⟨-, -, x2, x3⟩ := hc' m (f, g) hp
          exact ⟨x2, x3⟩)
        have HSx := Lib.hid (nx_succ hp)
        have HGp := Lib.hid (show ∀ q, q < f → nx l m ≤ q → C q = false from fun q h1 h2 => gap hru.out (by rw [← hlen.out]; omega) (by omega) h2 (fun p hp' => by rw [hp] at hp'; cases hp'; exact h1))
        simp only [pr] at u0 u1
        have a1 : decide (f < nx l m) = false := decide_eq_false (by omega)
        have a2 : decide (g < f) = false := decide_eq_false (by omega)
        have a3 : decide (n ≤ g) = false := decide_eq_false (by omega)
        by_cases hm0 : m = 0
        · have a4 : decide (0 < m) = false := decide_eq_false (by omega)
          have HM := Lib.hid hm0; clear hm0 hp
          go_wp2_with fail
          refine wp_region_bel (by kernel_rfl) (by kernel_rfl) ?_
          repeat (
            refine WQ.step (fun KK hKK => ?_)
            go_simp
            refine hKK _ ?_; clear hKK KK)
          refine WQ.nil_ ?_
          rintro wq1 ⟨⟨wq, hq⟩, hwq⟩
          obtain rfl : wq = wq1 := hwq.symm
          clear hwq
          clear u0 u1 a1 a2 a3
          have hBq := hB.trans (hq.mono hB.size)
          generalize nx l m = X at hxf HGp hnn ⊢
          clear hB hq hcell
          go_wp2
          go_loopw [7] (fun x wr => ∃ q : Nat, X ≤ q ∧ q ≤ f ∧ x = .int .i64 q ∧ Below w4.heap.size w4 wr) (fun x _ => f - (intOf x).toNat)
          case atStart => exact ⟨X, Nat.le_refl _, hxf, rfl, hBq⟩
          case round =>
            obtain ⟨q, hq1, hq2, rfl, hBr⟩ := hrel
            obtain ⟨x0, x1⟩ := HX.out _ hBr
            by_cases hqf : q < f
            · have hCq := HGp.out q hqf hq1
              obtain ⟨b0, off, rfl, hc⟩ := Ps.one hP4.out hBr (by omega)
              have z0 : wr.cell? ⟨b0, off + q * 2 + 1, none⟩ = some (.bool (C q)) := (hc q (by omega)).2.2.2
              rw [hCq] at z0
              have hqn : q < n := by omega
              clear hc hCq
              go_wp2
              go_roundw
              case rel => exact ⟨q + 1, by omega, by omega, by go_num, hBr⟩
              case measure => simp [intOf]; omega
            · obtain rfl : q = f := by omega
              go_wp2
              go_loopw [8] (fun x wr => ∃ q' : Nat, q ≤ q' ∧ q' ≤ g + 1 ∧ x = .int .i64 q' ∧ Below w4.heap.size w4 wr) (fun x _ => g + 1 - (intOf x).toNat)
              case atStart => exact ⟨q, Nat.le_refl _, by omega, rfl, hBr⟩
              case round =>
                obtain ⟨q', hq3, hq4, rfl, hBs⟩ := hrel
                obtain ⟨x2, x3⟩ := HX.out _ hBs
                by_cases hqg : q' ≤ g
                · have hCq := HAll.out q' hq3 hqg
                  obtain ⟨b0, off, rfl, hc⟩ := Ps.one hP4.out hBs (by omega)
                  have z0 : wr.cell? ⟨b0, off + q' * 2 + 1, none⟩ = some (.bool (C q')) := (hc q' (by omega)).2.2.2
                  rw [hCq] at z0
                  have hqn : q' < n := by omega
                  clear hc hCq
                  go_wp2
                  go_roundw
                  case rel => exact ⟨q' + 1, by omega, by omega, by go_num, hBs⟩
                  case measure => simp [intOf]; omega
                · obtain rfl : q' = g + 1 := by omega
                  go_wp2
                  go_roundw
                  case rel => exact ⟨m + 1, by omega, by go_num, by rw [HSx.out]; go_num, by rw [HSx.out]; omega, hBs⟩
                  case measure => simp [intOf]; omega
        · obtain ⟨j, hj⟩ : ∃ j, m - 1 = j := ⟨_, rfl⟩
          obtain ⟨⟨f1, g1⟩, hp1⟩ : ∃ p, l[j]? = some p := ⟨_, List.getElem?_eq_getElem (by rw [← hlen.out]; omega)⟩
          obtain ⟨-, u2, -, -⟩ := hcell j (f1, g1) hp1
          simp only [pr] at u2
          have hpw := pw_get hru.out.pw (show j < m by omega) hp1 hp
          simp only at hpw
          have hm1 : 0 < m := by omega
          have hmj : (m : Int) - 1 = (j : Int) := by omega
          have hmw : IntKind.i64.wrap (j : Int) = (j : Int) := wr64 _ (by omega)
          have hgw : IntKind.i64.wrap ((g1 : Int) + 2) = (g1 : Int) + 2 := wr64 _ (by omega)
          have hjn : j < n4 := by omega
          have a5 : decide ((f : Int) < (g1 : Int) + 2) = false := decide_eq_false (by omega)
          have HJ := Lib.hid hj
          clear hm0 hp hp1 hj
          go_wp2_with fail
          refine wp_region_bel (by kernel_rfl) (by kernel_rfl) ?_
          repeat (
            refine WQ.step (fun KK hKK => ?_)
            go_simp
            refine hKK _ ?_; clear hKK KK)
          refine WQ.nil_ ?_
          rintro wq1 ⟨⟨wq, hq⟩, hwq⟩
          obtain rfl : wq = wq1 := hwq.symm
          clear hwq
          clear u2 hmj hmw hgw a5
          clear u0 u1 a1 a2 a3
          have hBq := hB.trans (hq.mono hB.size)
          generalize nx l m = X at hxf HGp hnn ⊢
          clear hB hq hcell
          go_wp2
          go_loopw [7] (fun x wr => ∃ q : Nat, X ≤ q ∧ q ≤ f ∧ x = .int .i64 q ∧ Below w4.heap.size w4 wr) (fun x _ => f - (intOf x).toNat)
          case atStart => exact ⟨X, Nat.le_refl _, hxf, rfl, hBq⟩
          case round =>
            obtain ⟨q, hq1, hq2, rfl, hBr⟩ := hrel
            obtain ⟨x0, x1⟩ := HX.out _ hBr
            by_cases hqf : q < f
            · have hCq := HGp.out q hqf hq1
              obtain ⟨b0, off, rfl, hc⟩ := Ps.one hP4.out hBr (by omega)
              have z0 : wr.cell? ⟨b0, off + q * 2 + 1, none⟩ = some (.bool (C q)) := (hc q (by omega)).2.2.2
              rw [hCq] at z0
              have hqn : q < n := by omega
              clear hc hCq
              go_wp2
              go_roundw
              case rel => exact ⟨q + 1, by omega, by omega, by go_num, hBr⟩
              case measure => simp [intOf]; omega
            · obtain rfl : q = f := by omega
              go_wp2
              go_loopw [8] (fun x wr => ∃ q' : Nat, q ≤ q' ∧ q' ≤ g + 1 ∧ x = .int .i64 q' ∧ Below w4.heap.size w4 wr) (fun x _ => g + 1 - (intOf x).toNat)
              case atStart => exact ⟨q, Nat.le_refl _, by omega, rfl, hBr⟩
              case round =>
                obtain ⟨q', hq3, hq4, rfl, hBs⟩ := hrel
                obtain ⟨x2, x3⟩ := HX.out _ hBs
                by_cases hqg : q' ≤ g
                · have hCq := HAll.out q' hq3 hqg
                  obtain ⟨b0, off, rfl, hc⟩ := Ps.one hP4.out hBs (by omega)
                  have z0 : wr.cell? ⟨b0, off + q' * 2 + 1, none⟩ = some (.bool (C q')) := (hc q' (by omega)).2.2.2
                  rw [hCq] at z0
                  have hqn : q' < n := by omega
                  clear hc hCq
                  go_wp2
                  go_roundw
                  case rel => exact ⟨q' + 1, by omega, by omega, by go_num, hBs⟩
                  case measure => simp [intOf]; omega
                · obtain rfl : q' = g + 1 := by omega
                  go_wp2
                  go_roundw
                  case rel => exact ⟨m + 1, by omega, by go_num, by rw [HSx.out]; go_num, by rw [HSx.out]; omega, hBs⟩
                  case measure => simp [intOf]; omega
      · obtain rfl : m = n4 := by omega
        have HGp := Lib.hid (show ∀ q, q < n → nx l m ≤ q → C q = false from fun q h1 h2 => gap hru.out (by rw [← hlen.out]; omega) h1 h2 (fun p hp' => by
          have := (List.getElem?_eq_some_iff.1 hp').1
          rw [← hlen.out] at this; omega))
        generalize nx l m = X at hnn HGp ⊢
        go_wp2
        go_loopw [9] (fun x wr => ∃ q : Nat, X ≤ q ∧ q ≤ n ∧ x = .int .i64 q ∧ Below w4.heap.size w4 wr) (fun x _ => n - (intOf x).toNat)
        case atStart => exact ⟨X, Nat.le_refl _, hnn, rfl, hB⟩
        case round =>
          obtain ⟨q, hq1, hq2, rfl, hBr⟩ := hrel
          by_cases hqf : q < n
          · have hCq := HGp.out q hqf hq1
            obtain ⟨b0, off, rfl, hc⟩ := Ps.one hP4.out hBr (by omega)
            have z0 : wr.cell? ⟨b0, off + q * 2 + 1, none⟩ = some (.bool (C q)) := (hc q (by omega)).2.2.2
            rw [hCq] at z0
            clear hc hCq
            go_wp2
            go_roundw
            case rel => exact ⟨q + 1, by omega, by omega, by go_num, hBr⟩
            case measure => simp [intOf]; omega
          · obtain rfl : q = n := by omega
            go_wp2
            go_ret
            exact ⟨rfl, hB4.trans (hBr.mono hB4.size)⟩
  · go_enter Try.func10, Try.ntmps10
    go_wp2_with fail
    refine (pawake_any _).mono ?_
    rintro e w1 ⟨rfl, hb1⟩
    go_wp2
    go_ret
    exact ⟨rfl, hb1⟩
end Go.Proofs.Ytcmhceilbampiaa
