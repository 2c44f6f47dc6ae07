/-
  FrameCut's walk.
-/
import Derived.Test.YtkkbncgnobaliaaFrmL2
import Derived.Test.YtkkbncgnobaliaaFrmO
namespace Go.Proofs.Ytkkbncgnobaliaa
open Go.RowKit
open CodP
open CrcP
set_option linter.unusedVariables false
theorem sizeSl : (Try.prog.info? 22).map (·.size) = some 1 := by kernel_rfl
set_option maxRecDepth 100000 in
set_option maxHeartbeats 3200000 in
theorem frameCut_walk (w : World) (lv : Value) (ol : IsRows w lv) (cut : Int) (hc1 : -9223372036854775808 ≤ cut) (hc2 : cut ≤ 9223372036854775807) :
    Calls Try.prog 4 #[lv, .int .i64 cut] w fun e w' => e = .returned (.bool true) ∧ Below w.heap.size w w' := by
  obtain ⟨A, n, cap, ps, rfl, hrw, hcap, hm⟩ := ol
  have HW := Lib.hid hrw; clear hrw
  have HL := Lib.hid HW.out.len
  obtain ⟨m, hmask, hm'⟩ := and_mask cut 65535 (by omega)
  have hmask' : bits .and .i64 cut 65535 = (m : Int) := hmask
  clear hmask
  go_enter Try.func4, Try.ntmps4
  go_wp2_with fail
  refine (fawake_any _).mono ?_
  rintro e w1 ⟨rfl, hb1⟩
  go_wp2_with fail
  refine (small_any A n cap ps w1 hcap hm (HW.out.now hb1)).mono ?_
  rintro e w2 ⟨⟨b, rfl, hsm⟩, hb2⟩
  have hB2 := hb1.trans (hb2.mono hb1.size)
  clear hb2
  cases b with
  | false =>
    clear hsm
    go_wp2
    go_ret
    exact ⟨rfl, hB2⟩
  | true =>
    obtain ⟨hn20, h200⟩ := hsm rfl
    have H200 := Lib.hid h200
    have HB : Hid (∀ p ∈ ps, p.length ≤ 65536) := Lib.hid fun p hp => by have := h200 p hp; omega
    have hrl := recs_small ps h200
    rw [HL.out] at hrl
    clear h200 hsm
    have HW2 := Lib.hid (HW.out.now hB2)
    go_wp2_with fail
    refine (recs_any A n cap ps w2 (by omega) HW2.out).mono ?_
    rintro e w3 ⟨⟨v3, rfl, hown3⟩, hb3⟩
    have hB3 := hB2.trans (hb3.mono hB2.size)
    obtain ⟨A3, K, c3, rfl, hs3, hk3, hd3⟩ := hown3.bs
    rw [maxLen_eq'] at hd3
    have HK := Lib.hid hs3.len
    rw [hs3.len] at hrl
    have HS3 := Lib.hid hs3
    clear hs3 hown3 hb3
    have hmod : (m : Int) % ((K : Int) + 1) = ((m % (K + 1) : Nat) : Int) := by rw [Int.natCast_emod]; push_cast; rfl
    have hmt : m % (K + 1) < K + 1 := Nat.mod_lt _ (by omega)
    have hk1 : (K : Int) + 1 ≠ 0 := by omega
    generalize m % (K + 1) = t at hmod hmt
    have s1 : ∀ w, (Instr.slice 22 (.slice A3 K c3) none (some (.int .i64 (t : Int))) none).run Try.prog w = .ok (.slice A3 t c3) w := run_cut_hi Try.underlying22 1 sizeU8 A3 K c3 t (by omega)
    go_wp2_with fail
    refine (all_any A3 t c3 ((recs ps).take t) w3 (by omega) (by omega) hd3 (HS3.out.hi (by omega))).mono ?_
    rintro e w4 ⟨hGA, hb4⟩
    obtain ⟨x1, x2, x3, x4, x5⟩ := allF_cut ps t HB.out (by rw [HK.out]; omega)
    have XN := Lib.hid (fun h => wholeN_next ps t HB.out h)
    have XM := Lib.hid (recs_mono ps)
    generalize wholeN ps t = N at x1 x2 x3 x4 x5 XN
    generalize hx : allF ((recs ps).take t) = x at hGA x1 x2 x5
    obtain ⟨qs, q, c⟩ := x
    simp only at x1 x2 x5
    subst x1
    obtain ⟨v5, vs, rfl, hown5, hrows⟩ := hGA
    obtain ⟨A5, n5, c5, rfl, hR5, h51, h52, hn5⟩ := rws_of hown5 hrows hb4
    have HR5 := Lib.hid hR5
    have hB4 := hB3.trans (hb4.mono hB3.size)
    have HW4 := Lib.hid (HW.out.now hB4)
    have hN5 : n5 = N := by rw [hn5, List.length_take, HL.out]; rw [HL.out] at x4; omega
    subst hN5
    have hNn : n5 ≤ n := by rw [HL.out] at x4; exact x4
    have hE : t - q.length = (recs (ps.take n5)).length := by omega
    clear hown5 hrows hR5 hx hb4 s1 hn5 x2 x4
    simp only
    rw [hE, hmod]
    clear hE hmod hk1
    generalize hEE : (recs (ps.take n5)).length = E at x3 x5 ⊢
    have HE := Lib.hid hEE; clear hEE
    have HX5 := Lib.hid x5; clear x5
    go_wp2_with fail
    go_loopw [11, 12] (fun x y wr => ∃ k : Nat, k ≤ n5 ∧ x = .int .i64 k ∧ y = .int .i64 ((recs (ps.take k)).length : Nat) ∧ Below w4.heap.size w4 wr) (fun x _ _ => n5 - (intOf x).toNat)
    case atStart => exact ⟨0, by omega, rfl, rfl, Below.refl _ _⟩
    case round =>
      obtain ⟨k, hk, rfl, rfl, hB⟩ := hrel
      have HWr := Lib.hid (HW4.out.now hB)
      have HER := Lib.hid (show (recs (ps.take k)).length ≤ E by rw [← HE.out]; exact XM.out k n5 hk)
      generalize hEk : (recs (ps.take k)).length = Ek at HER
      have HEk := Lib.hid hEk; clear hEk
      by_cases hkn : k < n
      · have s2 : ∀ w, (Instr.slice 31 (.slice A n cap) none (some (.int .i64 ((k : Int) + 1))) none).run Try.prog w = .ok (.slice A (k + 1) cap) w := by
          have := run_cut_hi (P := Try.prog) Try.underlying31 1 sizeSl A n cap (k + 1) (by omega)
          simpa using this
        have hk20 : k + 1 ≤ 1000000 := by omega
        have HT := Lib.hid (HWr.out.take (k := k + 1) (by omega))
        have hki : (k : Int) < (n : Int) := by omega
        go_wp2_with fail
        refine (recs_any A (k + 1) cap (ps.take (k + 1)) wr hk20 HT.out).mono ?_
        rintro e w6 ⟨⟨v6, rfl, hown6⟩, hb6⟩
        obtain ⟨A6, K6, c6, rfl, hs6, -, -⟩ := hown6.bs
        have hK6 := hs6.len
        have hB6 := hB.trans (hb6.mono hB.size)
        have HWs := Lib.hid (HWr.out.now hb6)
        clear hown6 hs6 hb6
        by_cases hlt : k < n5
        · have hle : K6 ≤ t := by
            have h1 := XM.out (k + 1) n5 (by omega)
            rw [hK6, HE.out] at h1; omega
          have HK6 := Lib.hid hK6; clear hK6
          have dle : (K6 : Int) ≤ (t : Int) := by omega
          go_wp2_with fail
          have HT2 := Lib.hid (HWs.out.take (k := k + 1) (by omega))
          refine (recs_any A (k + 1) cap (ps.take (k + 1)) w6 hk20 HT2.out).mono ?_
          rintro e w7 ⟨⟨v7, rfl, hown7⟩, hb7⟩
          obtain ⟨A7, K7, c7, rfl, hs7, -, -⟩ := hown7.bs
          have HK7 := Lib.hid hs7.len
          have hB7 := hB6.trans (hb7.mono hB6.size)
          clear hown7 hs7 hb7 s2
          go_wp2
          go_roundw
          case rel => exact ⟨k + 1, by omega, by go_num, by rw [HK7.out], hB7⟩
          case measure => simp [intOf]; omega
        · obtain rfl : n5 = k := by omega
          have hgt : t < K6 := by
            have := XN.out (by rw [HL.out]; exact hkn)
            rw [hK6] at this; exact this
          have HK6 := Lib.hid hK6; clear hK6
          have dgt : decide ((K6 : Int) ≤ (t : Int)) = false := decide_eq_false (by omega)
          have dgt2 : decide (K6 ≤ t) = false := decide_eq_false (by omega)
          have hEk2 : Ek = E := by rw [← HEk.out, HE.out]
          have hW6 := HWs.out
          have hB8 := hB6
          generalize w6 = wz at hW6 hB8 ⊢
          clear HWs hB6
          subst hEk2
          have s3 : ∀ w, (Instr.slice 31 (.slice A n cap) none (some (.int .i64 (n5 : Int))) none).run Try.prog w = .ok (.slice A n5 cap) w := run_cut_hi Try.underlying31 1 sizeSl A n cap n5 (by omega)
          have HSa := Lib.hid (HR5.out.now hB8)
          have HSb := Lib.hid (hW6.take (k := n5) (by omega))
          have hBf := hB4.trans (hB8.mono hB4.size)
          clear hW6 hB8
          go_wp2_with fail
          refine (same_any A5 n5 c5 A cap (ps.take n5) wz h51 h52 HSa.out HSb.out).mono ?_
          rintro e w8 ⟨rfl, hb8⟩
          have hB9 := hBf.trans (hb8.mono hBf.size)
          clear s3 hb8
          by_cases hEt : Ek = t
          · have hc0 : c = 0 := by rw [HX5.out, if_pos hEt]
            subst hc0 hEt
            go_wp2
            go_ret
            exact ⟨rfl, hB9⟩
          · have hc3 : c = 3 := by rw [HX5.out, if_neg hEt]
            subst hc3
            have dEt : ((Ek : Int) == (t : Int)) = false := beq_false_of_ne (by omega)
            have lEt : (Ek : Int) < (t : Int) := by have := HER.out; omega
            go_wp2
            go_ret
            exact ⟨rfl, hB9⟩
      · obtain rfl : n5 = k := by omega
        have hEk2 : Ek = E := by rw [← HEk.out, HE.out]
        have dkn : decide ((n5 : Int) < (n : Int)) = false := decide_eq_false (by omega)
        have hW6 := HWr.out
        have hB8 := hB
        generalize wr = wz at hW6 hB8 ⊢
        clear HWr hB
        subst hEk2
        have s3 : ∀ w, (Instr.slice 31 (.slice A n cap) none (some (.int .i64 (n5 : Int))) none).run Try.prog w = .ok (.slice A n5 cap) w := run_cut_hi Try.underlying31 1 sizeSl A n cap n5 (by omega)
        have HSa := Lib.hid (HR5.out.now hB8)
        have HSb := Lib.hid (hW6.take (k := n5) (by omega))
        have hBf := hB4.trans (hB8.mono hB4.size)
        clear hW6 hB8
        go_wp2_with fail
        refine (same_any A5 n5 c5 A cap (ps.take n5) wz h51 h52 HSa.out HSb.out).mono ?_
        rintro e w8 ⟨rfl, hb8⟩
        have hB9 := hBf.trans (hb8.mono hBf.size)
        clear s3 hb8
        by_cases hEt : Ek = t
        · have hc0 : c = 0 := by rw [HX5.out, if_pos hEt]
          subst hc0 hEt
          go_wp2
          go_ret
          exact ⟨rfl, hB9⟩
        · have hc3 : c = 3 := by rw [HX5.out, if_neg hEt]
          subst hc3
          have dEt : ((Ek : Int) == (t : Int)) = false := beq_false_of_ne (by omega)
          have lEt : (Ek : Int) < (t : Int) := by have := HER.out; omega
          go_wp2
          go_ret
          exact ⟨rfl, hB9⟩
end Go.Proofs.Ytkkbncgnobaliaa
