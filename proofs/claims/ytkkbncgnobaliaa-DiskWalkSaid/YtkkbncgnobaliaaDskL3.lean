/-
  DiskWalk's walk.
-/
import Derived.Test.YtkkbncgnobaliaaDskA
import Derived.Test.YtkkbncgnobaliaaDskF
import Derived.StillTailTactics
namespace Go.Proofs.Ytkkbncgnobaliaa
open Go.RowKit
open CodP
open CrcP
set_option linter.unusedVariables false
/-- What has been written whole last: how many were, and what. -/
def seenW (wh : Nat) (last : List UInt8) : Option (Nat × List UInt8) := if wh = 0 then none else some (wh - 1, last)
theorem genD_seen {s0 s1 : List UInt8} {wh : Nat} {last : List UInt8} (h : readD s0 s1 = seenW wh last) : genD s0 s1 = wh := by
  unfold genD
  rw [h]
  unfold seenW
  by_cases h0 : wh = 0
  · rw [if_pos h0]; exact h0.symm
  · rw [if_neg h0]; simp only; omega
set_option maxRecDepth 100000 in
set_option maxHeartbeats 3200000 in
theorem diskWalk_walk (w : World) (lv : Value) (ol : IsSteps w lv) :
    Calls Try.prog 13 #[lv] w fun e w' => e = .returned (.bool true) ∧ Below w.heap.size w w' := by
  obtain ⟨A, n, cap, V, L, N, rfl, hq2, hoc, hcn, hcm⟩ := ol
  have HQ := Lib.hid hq2
  have HO := Lib.hid hoc
  clear hq2 hoc
  go_enter Try.func13, Try.ntmps13
  go_wp2_with fail
  refine (dawake_any _).mono ?_
  rintro e w1 ⟨rfl, hb1⟩
  by_cases hn : 60 < n
  · go_wp2
    go_ret
    exact ⟨rfl, hb1⟩
  have dn : decide (60 < n) = false := decide_eq_false hn
  go_wp2_with fail
  have hZ : Below w1.heap.size w1 (w1.alloc (.cells #[.slice none 0 0, .slice none 0 0] 58)) := (Below.refl _ _).alloc (Nat.le_refl _) _
  have LW := Blk.new w1 58 #[.slice none 0 0, .slice none 0 0]
  have hB0 := hb1.trans (hZ.mono hb1.size)
  have hD := hb1.size
  clear hZ dn
  generalize (w1.alloc (.cells #[.slice none 0 0, .slice none 0 0] 58)) = w2 at LW hB0 ⊢
  generalize w1.heap.size = D at LW hD ⊢
  go_loopw [5, 6, 7] (fun x y i wr => ∃ (k wh : Nat) (last s0 s1 : List UInt8) (A0 A1 : Option Addr) (n0 c0 n1 c1 : Nat), k ≤ n ∧ wh ≤ k ∧ i = .int .i64 k ∧ x = .int .i64 wh ∧ Oc w y last ∧ Blk wr D 58 #[.slice A0 n0 c0, .slice A1 n1 c1] ∧ DkFrom (D + 1) wr (.agg #[.slice A0 n0 c0, .slice A1 n1 c1]) s0 s1 ∧ readD s0 s1 = seenW wh last ∧ Below w.heap.size w wr) (fun _ _ i _ => n - (intOf i).toNat)
  case atStart => exact ⟨0, 0, [], [], [], none, none, 0, 0, 0, 0, by omega, by omega, rfl, rfl, ⟨none, 0, 0, rfl, Bs.nil_ _ _ _, by omega, by omega⟩, LW, DkFrom.empty _ _, rfl, hB0⟩
  case round =>
    obtain ⟨k, wh, last, s0, s1, A0, A1, n0, c0, n1, c1, hk, hwk, rfl, rfl, ocl, hK, hdk, hrd, hB⟩ := hrel
    by_cases hlt : k < n
    · obtain ⟨b, off, rfl, hbB, hc⟩ := HQ.out.below hB (by omega)
      obtain ⟨hov, hz1, hz2⟩ := HO.out k hlt
      obtain ⟨AP, np, cp, eV, hbP, hcp1, hcp2⟩ := hov.out
      have c0' : wr.cell? ⟨b, off + k * 2, none⟩ = some (.slice AP np cp) := by rw [← eV]; exact (hc k hlt).1
      have c1' : wr.cell? ⟨b, off + k * 2 + 1, none⟩ = some (.int .i64 (N k)) := (hc k hlt).2
      have HOV := Lib.hid hov
      have HBP := Lib.hid hbP
      have HEV := Lib.hid eV
      clear hc eV hbP hov
      generalize hNk : N k = z at c1' hz1 hz2
      have HNK := Lib.hid hNk; clear hNk
      have q0 : wr.cell? ⟨D, 0, none⟩ = some (.slice A0 n0 c0) := hK.cell 0
      have q1 : wr.cell? ⟨D, 1, none⟩ = some (.slice A1 n1 c1) := hK.cell 1
      have HK := Lib.hid hK
      have HDK := Lib.hid hdk
      have HRD := Lib.hid hrd
      obtain ⟨AL, nl, cl, rfl, hbl, hcl1, hcl2⟩ := ocl.out
      have HOL := Lib.hid ocl
      have HBL := Lib.hid hbl
      clear hK hdk hrd ocl hbl
      by_cases hnp : 200 < np
      · go_wp2
        go_ret
        exact ⟨rfl, hB⟩
      have dnp : decide (200 < np) = false := decide_eq_false hnp
      go_wp2_with fail
      refine (gen_dk _ s0 s1 wr HDK.out.dk).mono ?_
      rintro e w3 ⟨rfl, hb3⟩
      rw [genD_seen HRD.out]
      clear dnp q0 q1
      have hB3 := hB.trans (hb3.mono hB.size)
      have c03 : w3.cell? ⟨b, off + k * 2, none⟩ = some (.slice AP np cp) := (hb3.cell (p := ⟨b, off + k * 2, none⟩) (by have := hB.size; show b < _; omega)).trans c0'
      have c13 : w3.cell? ⟨b, off + k * 2 + 1, none⟩ = some (.int .i64 z) := (hb3.cell (p := ⟨b, off + k * 2 + 1, none⟩) (by have := hB.size; show b < _; omega)).trans c1'
      have HK3 := Lib.hid (HK.out.below hb3 HK.out.lt)
      have HDK3 := Lib.hid (HDK.out.now (Agr.below hb3))
      clear hb3 HK HDK c0' c1'
      have hok := Lib.hid (okD_small wh (L k) (by omega) (by rw [HBP.out.len]; omega))
      go_wp2_with fail
      refine (record_any wh AP np cp (L k) w3 (by omega) (HBP.out.now hB3)).mono ?_
      rintro e w4 ⟨⟨v4, rfl, hown4⟩, hb4⟩
      have hrs := recD_small hok.out
      obtain ⟨A4, K, c4, rfl, hs4, hc4, hd4⟩ := hown4.bs
      have hKR := Lib.hid hs4.len
      rw [hs4.len] at hrs
      clear hs4 hown4
      have hB4 := hB3.trans (hb4.mono hB3.size)
      have hb3s := hB3.size
      have hb4s := hB4.size
      have c04 : ∀ W', Below w4.heap.size w4 W' → W'.cell? ⟨b, off + k * 2, none⟩ = some (.slice AP np cp) := fun W' hW => (hW.cell (p := ⟨b, off + k * 2, none⟩) (by show b < _; omega)).trans ((hb4.cell (p := ⟨b, off + k * 2, none⟩) (by show b < _; omega)).trans c03)
      have c14 : ∀ W', Below w4.heap.size w4 W' → W'.cell? ⟨b, off + k * 2 + 1, none⟩ = some (.int .i64 z) := fun W' hW => (hW.cell (p := ⟨b, off + k * 2 + 1, none⟩) (by show b < _; omega)).trans ((hb4.cell (p := ⟨b, off + k * 2 + 1, none⟩) (by show b < _; omega)).trans c13)
      have HK4 := Lib.hid (HK3.out.below hb4 HK3.out.lt)
      have HDK4 := Lib.hid (HDK3.out.now (Agr.below hb4))
      clear hb4 HK3 HDK3 c03 c13
      have hDlt := HK4.out.lt
      have hdr : Below w4.heap.size w4 w4.drew := (Below.refl _ _).drew
      have c0x : w4.drew.cell? ⟨b, off + k * 2, none⟩ = some (.slice AP np cp) := c04 _ hdr
      have c1x : w4.drew.cell? ⟨b, off + k * 2 + 1, none⟩ = some (.int .i64 z) := c14 _ hdr
      have HK5 := Lib.hid (HK4.out.drew)
      have q0 : w4.drew.cell? ⟨D, 0, none⟩ = some (.slice A0 n0 c0) := HK5.out.cell 0
      have q1 : w4.drew.cell? ⟨D, 1, none⟩ = some (.slice A1 n1 c1) := HK5.out.cell 1
      have HDK5 := Lib.hid (HDK4.out.now (Agr.below hdr))
      have hB5 := hB4.trans (hdr.mono hB4.size)
      have hb5s := hB5.size
      have ik0 : (0 : Int) ≤ (k : Int) := by omega
      have ik1 : (k : Int) < (n : Int) := by omega
      clear c04 c14 HK4 HDK4
      go_wp2_with fail
      refine wp_region_still_tail 12 (by kernel_rfl) (by kernel_rfl) ?_
      change wpStill _ _ w4.drew (fun a' => wpList _ _ _ _ a' w4.drew) _ _
      generalize w4.drew = w5 at hdr c0x c1x HK5 q0 q1 HDK5 hB5 hb5s ⊢
      simp only [List.take_succ_cons, List.take_zero, List.drop_succ_cons, List.drop_zero]
      repeat still_step
      refine wpStill_nil ?_
      go_wp2_with fail
      refine (write_dk3 (D + 1) _ s0 s1 wh z AP np cp (L k) w5 HK5.out.lt HDK5.out (by omega) (HBP.out.now hB5) hok.out).mono ?_
      rintro e w6 ⟨⟨v6, rfl, hd6⟩, hb6⟩
      obtain ⟨C0, i0, d0, C1, i1, d1, rfl⟩ := hd6.shape
      have hB6 := hB5.trans (hb6.mono hB5.size)
      have L6 := HK5.out.below hb6 HK5.out.lt
      have f0 := L6.frozen 0
      have f1 := L6.frozen 1
      have g0 : w6.cell? ⟨D, 0, none⟩ = some (.slice A0 n0 c0) := L6.cell 0
      have g1 : w6.cell? ⟨D, 1, none⟩ = some (.slice A1 n1 c1) := L6.cell 1
      have BV : Below w.heap.size w ((w6.setCell ⟨D, 0, none⟩ (.slice C0 i0 d0)).setCell ⟨D, 1, none⟩ (.slice C1 i1 d1)) := (hB6.setCell (p := ⟨D, 0, none⟩) hD _).setCell (p := ⟨D, 1, none⟩) hD _
      have LV : Hid (Blk ((w6.setCell ⟨D, 0, none⟩ (.slice C0 i0 d0)).setCell ⟨D, 1, none⟩ (.slice C1 i1 d1)) D 58 #[.slice C0 i0 d0, .slice C1 i1 d1]) := Lib.hid ((L6.put 0 (.slice C0 i0 d0)).put 1 (.slice C1 i1 d1))
      have HDV := Lib.hid (hd6.now (((Agr.refl (D + 1) w6).setCell (p := ⟨D, 0, none⟩) (Nat.lt_succ_self D) (.slice C0 i0 d0)).setCell (p := ⟨D, 1, none⟩) (Nat.lt_succ_self D) (.slice C1 i1 d1)))
      have e0 : ((w6.setCell ⟨D, 0, none⟩ (.slice C0 i0 d0)).setCell ⟨D, 1, none⟩ (.slice C1 i1 d1)).cell? ⟨D, 0, none⟩ = some (.slice C0 i0 d0) := LV.out.cell 0
      have e1 : ((w6.setCell ⟨D, 0, none⟩ (.slice C0 i0 d0)).setCell ⟨D, 1, none⟩ (.slice C1 i1 d1)).cell? ⟨D, 1, none⟩ = some (.slice C1 i1 d1) := LV.out.cell 1
      obtain ⟨b', off', e', -, hc'⟩ := HQ.out.below BV (by omega)
      cases e'
      have c0V : ((w6.setCell ⟨D, 0, none⟩ (.slice C0 i0 d0)).setCell ⟨D, 1, none⟩ (.slice C1 i1 d1)).cell? ⟨b, off + k * 2, none⟩ = some (.slice AP np cp) := by rw [← HEV.out]; exact (hc' k hlt).1
      have c1V : ((w6.setCell ⟨D, 0, none⟩ (.slice C0 i0 d0)).setCell ⟨D, 1, none⟩ (.slice C1 i1 d1)).cell? ⟨b, off + k * 2 + 1, none⟩ = some (.int .i64 z) := by rw [← HNK.out]; exact (hc' k hlt).2
      clear hd6 hb6 hc' L6 hB6 q0 q1 c0x c1x HK5 HDK5 hdr
      by_cases hzK : (K : Int) ≤ z
      · go_wp2_with fail
        generalize ((w6.setCell ⟨D, 0, none⟩ (.slice C0 i0 d0)).setCell ⟨D, 1, none⟩ (.slice C1 i1 d1)) = U at BV LV HDV e0 e1 c0V c1V ⊢
        refine (read_dk _ _ _ U HDV.out.dk).mono ?_
        rintro e w7 ⟨hG7, hb7⟩
        rw [read_new_whole hok.out (genD_seen HRD.out) (n := z) (by rw [hKR.out]; omega)] at hG7
        obtain ⟨A7, n7, c7, rfl, hp7, -, -⟩ := hG7
        have hB7 := BV.trans (hb7.mono BV.size)
        have st1 : (convert 22 9 (.slice A7 n7 c7)).run Try.prog w7 = .ok (.string ⟨(L k).toArray⟩) w7 := run_str w7 c7 hp7
        have st2 : (convert 22 9 (.slice AP np cp)).run Try.prog w7 = .ok (.string ⟨(L k).toArray⟩) w7 := run_str w7 cp (HBP.out.now hB7)
        generalize (⟨(L k).toArray⟩ : ByteArray) = x at st1 st2
        have HL7 := Lib.hid (LV.out.below hb7 LV.out.lt)
        have HD7 := Lib.hid (HDV.out.now (Agr.below hb7))
        have HR7 := Lib.hid (read_new_whole hok.out (genD_seen HRD.out) (n := z) (by rw [hKR.out]; omega))
        clear hp7 hb7 LV HDV e0 e1 c0V c1V BV f0 f1 g0 g1
        go_wp2
        go_roundw
        case rel => exact ⟨k + 1, wh + 1, L k, _, _, C0, C1, i0, d0, i1, d1, by omega, by omega, by go_num, by go_num, by rw [← HEV.out]; exact HOV.out, HL7.out, HD7.out, by rw [HR7.out]; rfl, hB7⟩
        case measure => simp [intOf]; omega
      · have dzK : decide ((K : Int) ≤ z) = false := decide_eq_false hzK
        go_wp2_with fail
        generalize ((w6.setCell ⟨D, 0, none⟩ (.slice C0 i0 d0)).setCell ⟨D, 1, none⟩ (.slice C1 i1 d1)) = U at BV LV HDV e0 e1 c0V c1V ⊢
        refine (read_dk _ _ _ U HDV.out.dk).mono ?_
        rintro e w7 ⟨hG7, hb7⟩
        have HR7 := Lib.hid (read_new_torn hok.out (genD_seen HRD.out) (n := z) (by rw [hKR.out]; omega))
        rw [HR7.out, HRD.out] at hG7
        have hB7 := BV.trans (hb7.mono BV.size)
        have HL7 := Lib.hid (LV.out.below hb7 LV.out.lt)
        have HD7 := Lib.hid (HDV.out.now (Agr.below hb7))
        unfold seenW at hG7
        by_cases hw0 : wh = 0
        · rw [if_pos hw0] at hG7
          obtain rfl := hG7
          have st1 : (convert 22 9 (.slice none 0 0)).run Try.prog w7 = .ok (.string ⟨[].toArray⟩) w7 := run_str w7 0 (Bs.nil_ w7 0 none)
          have st2 : (convert 22 9 (.slice AL nl cl)).run Try.prog w7 = .ok (.string ⟨last.toArray⟩) w7 := run_str w7 cl (HBL.out.now hB7)
          subst hw0
          clear hb7 LV HDV e0 e1 c0V c1V BV f0 f1 g0 g1 dzK
          go_wp2
          go_roundw
          case rel => exact ⟨k + 1, 0, last, _, _, C0, C1, i0, d0, i1, d1, by omega, by omega, by go_num, by go_num, HOL.out, HL7.out, HD7.out, by rw [HR7.out, HRD.out], hB7⟩
          case measure => simp [intOf]; omega
        · rw [if_neg hw0] at hG7
          obtain ⟨A7, n7, c7, rfl, hp7, -, -⟩ := hG7
          have st1 : (convert 22 9 (.slice A7 n7 c7)).run Try.prog w7 = .ok (.string ⟨last.toArray⟩) w7 := run_str w7 c7 hp7
          have st2 : (convert 22 9 (.slice AL nl cl)).run Try.prog w7 = .ok (.string ⟨last.toArray⟩) w7 := run_str w7 cl (HBL.out.now hB7)
          generalize (⟨last.toArray⟩ : ByteArray) = x at st1 st2
          have hwp : 0 < wh := by omega
          have hwI : decide (0 < wh) = true := decide_eq_true hwp
          have hcast : ((wh - 1 : Nat) : Int) = (wh : Int) - 1 := by omega
          rw [hcast]
          clear hp7 hb7 LV HDV e0 e1 c0V c1V BV f0 f1 g0 g1 dzK
          go_wp2
          go_roundw
          case rel => exact ⟨k + 1, wh, last, _, _, C0, C1, i0, d0, i1, d1, by omega, by omega, by go_num, by go_num, HOL.out, HL7.out, HD7.out, by rw [HR7.out, HRD.out], hB7⟩
          case measure => simp [intOf]; omega
    · obtain rfl : k = n := by omega
      go_wp2
      go_ret
      exact ⟨rfl, hB⟩
end Go.Proofs.Ytkkbncgnobaliaa
