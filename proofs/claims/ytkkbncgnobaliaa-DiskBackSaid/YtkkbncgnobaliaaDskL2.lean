/-
  DiskBack's walk.
-/
import Derived.Test.YtkkbncgnobaliaaDskA
import Derived.Test.YtkkbncgnobaliaaDskO
import Derived.Deep.RegionHeld3
namespace Go.Proofs.Ytkkbncgnobaliaa
open Go.RowKit
open CodP
open CrcP
set_option linter.unusedVariables false
set_option maxRecDepth 100000 in
set_option maxHeartbeats 1600000 in
theorem few_any (A0 A1 : Option Addr) (n0 c0 n1 c1 : Nat) (w : World) (b : Bool) (h : decide (IntKind.i64.wrap ((n0 : Int) + (n1 : Int)) ≤ 8000) = b) :
    Calls Try.prog 41 #[.agg #[.slice A0 n0 c0, .slice A1 n1 c1]] w fun e w' => e = .returned (.bool b) ∧ Below w.heap.size w w' := by
  have K := Blk.new w 58 #[.slice A0 n0 c0, .slice A1 n1 c1]
  have k0 : (w.alloc (.cells #[.slice A0 n0 c0, .slice A1 n1 c1] 58)).cell? ⟨w.heap.size, 0, none⟩ = some (.slice A0 n0 c0) := K.cell 0
  have k1 : (w.alloc (.cells #[.slice A0 n0 c0, .slice A1 n1 c1] 58)).cell? ⟨w.heap.size, 1, none⟩ = some (.slice A1 n1 c1) := K.cell 1
  clear K
  generalize hs : IntKind.i64.wrap ((n0 : Int) + (n1 : Int)) = z at h
  have HH := Lib.hid h; clear h
  go_enter Try.func41, Try.ntmps41
  go_wp2
  go_ret
  exact ⟨by rw [← HH.out]; rfl, (Below.refl _ _).alloc (Nat.le_refl _) _⟩
theorem beq_self_int (z : Int) : (z == z) = true := beq_self_eq_true z
set_option maxRecDepth 100000 in
set_option maxHeartbeats 3200000 in
theorem diskBack_walk (w : World) (dv : Value) (od : ∃ s0 s1, Dk0 w dv s0 s1) (A : Option Addr) (n cap : Nat) (l : List UInt8) (hb : Bs w w.heap.size A n l) (hcap : n ≤ cap) (hm : cap ≤ 9223372036854775807) (cut : Int) (hc1 : -9223372036854775808 ≤ cut) (hc2 : cut ≤ 9223372036854775807) :
    Calls Try.prog 12 #[dv, .slice A n cap, .int .i64 cut] w fun e w' => e = .returned (.bool true) ∧ Below w.heap.size w w' := by
  obtain ⟨s0, s1, hd⟩ := od
  have hX : Below w.heap.size w (w.alloc (.cells #[] 58)) := (Below.refl _ _).alloc (Nat.le_refl _) _
  clear hX
  obtain ⟨A0, n0, c0, A1, n1, c1, rfl, hs0, hs1, r0, r1⟩ := hd.out
  have HD0 := Lib.hid (hd.dk (by rw [hs0.len]; omega) (by rw [hs1.len]; omega))
  clear hd hs0 hs1 r0 r1
  have hHb := Lib.hid hb; clear hb
  have hX : Below w.heap.size w (w.alloc (.cells #[.slice A0 n0 c0, .slice A1 n1 c1] 58)) := (Below.refl _ _).alloc (Nat.le_refl _) _
  have K0 := Lib.hid (Blk.new w 58 #[.slice A0 n0 c0, .slice A1 n1 c1])
  obtain ⟨m, hmask, hm'⟩ := and_mask cut 65535 (by omega)
  have hmask' : bits .and .i64 cut 65535 = (m : Int) := hmask
  clear hmask
  go_enter Try.func12, Try.ntmps12
  go_wp2_with fail
  generalize (w.alloc (.cells #[.slice A0 n0 c0, .slice A1 n1 c1] 58)) = wx at hX K0 ⊢
  refine (dawake_any _).mono ?_
  rintro e w1 ⟨rfl, hb1⟩
  have hB1 := hX.trans (hb1.mono hX.size)
  have K1 := Lib.hid (K0.out.below hb1 K0.out.lt)
  have HD1 := Lib.hid (HD0.out.now hB1)
  have HP1 := Lib.hid (hHb.out.now hB1)
  have hpl := Lib.hid hHb.out.len
  have q0 : w1.cell? ⟨w.heap.size, 0, none⟩ = some (.slice A0 n0 c0) := K1.out.cell 0
  have q1 : w1.cell? ⟨w.heap.size, 1, none⟩ = some (.slice A1 n1 c1) := K1.out.cell 1
  clear hb1 K0 hX HD0 hHb
  go_wp2_with fail
  rcases (Bool.eq_false_or_eq_true (decide (IntKind.i64.wrap ((n0 : Int) + (n1 : Int)) ≤ 8000))).symm with hfew | hfew
  · refine (few_any A0 A1 n0 c0 n1 c1 w1 false hfew).mono ?_
    rintro e w2 ⟨rfl, hb2⟩
    clear hfew
    go_wp2
    go_ret
    exact ⟨rfl, hB1.trans (hb2.mono hB1.size)⟩
  refine (few_any A0 A1 n0 c0 n1 c1 w1 true hfew).mono ?_
  rintro e w2 ⟨rfl, hb2⟩
  clear hfew q0 q1
  have hB2 := hB1.trans (hb2.mono hB1.size)
  have K2 := Lib.hid (K1.out.below hb2 K1.out.lt)
  have HD2 := Lib.hid (HD1.out.now hb2)
  have HP2 := Lib.hid (HP1.out.now hb2)
  have q0 : w2.cell? ⟨w.heap.size, 0, none⟩ = some (.slice A0 n0 c0) := K2.out.cell 0
  have q1 : w2.cell? ⟨w.heap.size, 1, none⟩ = some (.slice A1 n1 c1) := K2.out.cell 1
  clear hb2 HD1 HP1 K1 hB1
  by_cases hn : 2000 < n
  · go_wp2
    go_ret
    exact ⟨rfl, hB2⟩
  have dn : decide (2000 < n) = false := decide_eq_false hn
  go_wp2_with fail
  refine (gen_dk _ _ _ w2 HD2.out).mono ?_
  rintro e w3 ⟨rfl, hb3⟩
  generalize hg : genD s0 s1 = g
  have HG := Lib.hid hg; clear hg q0 q1
  have hB3 := hB2.trans (hb3.mono hB2.size)
  have K3 := Lib.hid (K2.out.below hb3 K2.out.lt)
  have HD3 := Lib.hid (HD2.out.now hb3)
  have HP3 := Lib.hid (HP2.out.now hb3)
  have q0 : w3.cell? ⟨w.heap.size, 0, none⟩ = some (.slice A0 n0 c0) := K3.out.cell 0
  have q1 : w3.cell? ⟨w.heap.size, 1, none⟩ = some (.slice A1 n1 c1) := K3.out.cell 1
  clear hb3 HD2 HP2 K2 hB2
  by_cases hgm : 9007199254740992 < g
  · clear dn
    go_wp2
    go_ret
    exact ⟨rfl, hB3⟩
  have dgm : decide (9007199254740992 < g) = false := decide_eq_false hgm
  have hok := Lib.hid (okD_small g l (by omega) (by rw [hpl.out]; omega))
  clear dn
  go_wp2_with fail
  clear q0 q1
  refine (record_any g A n cap l w3 (by omega) HP3.out).mono ?_
  rintro e w4 ⟨⟨v4, rfl, hown4⟩, hb4⟩
  have hrs := recD_small hok.out
  generalize hR : recD (g : Int) l = R at hown4 hrs
  have HR := Lib.hid hR; clear hR
  obtain ⟨A4, K, c4, rfl, hs4, hc4, hd4⟩ := hown4.bs
  have hKR := Lib.hid hs4.len
  rw [hs4.len] at hrs
  clear hs4 hown4
  have hB4 := hB3.trans (hb4.mono hB3.size)
  have K4 := Lib.hid (K3.out.below hb4 K3.out.lt)
  have HD4 := Lib.hid (HD3.out.now hb4)
  have HP4 := Lib.hid (HP3.out.now hb4)
  have q0 : w4.cell? ⟨w.heap.size, 0, none⟩ = some (.slice A0 n0 c0) := K4.out.cell 0
  have q1 : w4.cell? ⟨w.heap.size, 1, none⟩ = some (.slice A1 n1 c1) := K4.out.cell 1
  have hK0 : ((K : Int) == 0) = false := beq_false_of_ne (by omega)
  clear hb4 HD3 HP3 K3 hB3 dgm
  go_wp2_with fail
  clear q0 q1 hK0
  refine (write_dk _ s0 s1 g K A n cap l w4 HD4.out (by omega) HP4.out hok.out).mono ?_
  rintro e w5 ⟨⟨v5, rfl, hd5⟩, hb5⟩
  have HD5 := Lib.hid hd5
  obtain ⟨B0, j0, k0, B1, j1, k1, rfl, -, -, -, -⟩ := hd5.out
  clear hd5
  have hB5 := hB4.trans (hb5.mono hB4.size)
  have K5 := Lib.hid (K4.out.below hb5 K4.out.lt)
  have HDa := Lib.hid (HD4.out.now hb5)
  have HP5 := Lib.hid (HP4.out.now hb5)
  clear hb5 HD4 HP4 K4 hB4
  go_wp2_with fail
  refine (read_dk _ _ _ w5 HD5.out).mono ?_
  rintro e w6 ⟨hG6, hb6⟩
  rw [read_new_whole hok.out HG.out (by rw [HR.out, hKR.out]; omega)] at hG6
  obtain ⟨A6, n6, c6, rfl, hp6, -, -⟩ := hG6
  obtain rfl : n6 = n := by rw [← hp6.len, hpl.out]
  have HP6 := Lib.hid hp6; clear hp6
  have hB6 := hB5.trans (hb6.mono hB5.size)
  have K6 := Lib.hid (K5.out.below hb6 K5.out.lt)
  have HD6 := Lib.hid (HDa.out.now hb6)
  have HPa := Lib.hid (HP5.out.now hb6)
  have q0 : w6.cell? ⟨w.heap.size, 0, none⟩ = some (.slice A0 n0 c0) := K6.out.cell 0
  have q1 : w6.cell? ⟨w.heap.size, 1, none⟩ = some (.slice A1 n1 c1) := K6.out.cell 1
  clear hb6 HD5 HDa HP5 K5 hB5
  have hKne : K ≠ 0 := by omega
  have hmod : (m : Int).tmod (K : Int) = ((m % K : Nat) : Int) := rfl
  have hmlt : m % K < K := Nat.mod_lt _ (by omega)
  generalize m % K = k at hmod hmlt
  clear q0 q1
  have hz := K6.out.lt
  have q0 : ∀ W', Below w6.heap.size w6 W' → W'.cell? ⟨w.heap.size, 0, none⟩ = some (.slice A0 n0 c0) := fun W' hW => (hW.cell (p := ⟨w.heap.size, 0, none⟩) hz).trans (K6.out.cell 0)
  have q1 : ∀ W', Below w6.heap.size w6 W' → W'.cell? ⟨w.heap.size, 1, none⟩ = some (.slice A1 n1 c1) := fun W' hW => (hW.cell (p := ⟨w.heap.size, 1, none⟩) hz).trans (K6.out.cell 1)
  have SC := Lib.hid (show ∀ W', Below w6.heap.size w6 W' → Calls Try.prog 45 #[.agg #[.slice A0 n0 c0, .slice A1 n1 c1], .int .i64 (g : Int), .slice A n6 cap, .int .i64 (k : Int)] W' fun e w' => (∃ v', e = .returned v' ∧ (∃ A0 n0 c0 A1 n1 c1, v' = .agg #[.slice A0 n0 c0, .slice A1 n1 c1]) ∧
      ∀ V, Below w6.heap.size w6 V → (∀ G, W'.heap.size ≤ G → G < w'.heap.size → V.heap[G]? = w'.heap[G]?) → w'.heap.size ≤ V.heap.size → Dk V v' (new0 s0 g l k) (new1 s1 g l k)) ∧ Below W'.heap.size W' w' from
    fun W' hW => write_dk2 _ s0 s1 g k A n6 cap l w6 W' HD6.out hW (by omega) (HPa.out.now hW) hok.out)
  have r0 : (w6.alloc (.cells #[.slice none 0 0, .slice none 0 0] 58)).cell? ⟨w6.heap.size, 0, none⟩ = some (.slice none 0 0) := (Blk.new w6 58 #[.slice none 0 0, .slice none 0 0]).cell 0
  have r1 : (w6.alloc (.cells #[.slice none 0 0, .slice none 0 0] 58)).cell? ⟨w6.heap.size, 1, none⟩ = some (.slice none 0 0) := (Blk.new w6 58 #[.slice none 0 0, .slice none 0 0]).cell 1
  have y0 := (Blk.new w6 58 #[.slice none 0 0, .slice none 0 0]).frozen 0
  have y1 := (Blk.new w6 58 #[.slice none 0 0, .slice none 0 0]).frozen 1
  go_wp2_with fail
  go_region_held3 (fun w' => Below w6.heap.size w6 w')
    (first
      | exact (Below.refl _ _).drew
      | exact ((Below.refl _ _).alloc (Nat.le_refl _) _).drew
      | assumption
      | (refine Below.trans ?_ (Below.mono hb' ?_); assumption; apply Below.size; assumption)
      | (refine Below.alloc ?_ ?_ _; assumption; apply Below.size; assumption)
      | (refine Below.alloc (Below.trans (Below.drew (Below.refl _ _)) (Below.mono hb' ?_)) ?_ _ <;> first | exact Nat.le_refl _ | exact hb'.size)
      | (refine Below.setCell (Below.setCell ?_ ?_ _) ?_ _; assumption; exact Nat.le_refl _; exact Nat.le_refl _))
    ((go_at_call 45; refine (SC.out _ (by first | exact (Below.refl _ _).drew | exact ((Below.refl _ _).alloc (Nat.le_refl _) _).drew | assumption)).mono ?_; rintro e w' ⟨⟨v7, rfl, ⟨C0, i0, d0, C1, i1, d1, rfl⟩, hd7⟩, hb'⟩; have HD7 := Lib.hid hd7; clear hd7; try (have L7 := Lib.hid ((Blk.new w6 58 #[.slice none 0 0, .slice none 0 0]).drew.below hb' (by simp)); have s0 : w'.cell? ⟨w6.heap.size, 0, none⟩ = some (.slice none 0 0) := L7.out.cell 0; have s1 : w'.cell? ⟨w6.heap.size, 1, none⟩ = some (.slice none 0 0) := L7.out.cell 1; have v0 := L7.out.frozen 0; have v1 := L7.out.frozen 1)))
  · have hb2 : Below w6.heap.size w6 w' := (Below.refl _ _).drew.trans hb'
    have BV := hb2.alloc hb2.size (.cells #[.slice C0 i0 d0, .slice C1 i1 d1] 58)
    have LV := Lib.hid (Blk.new w' 58 #[.slice C0 i0 d0, .slice C1 i1 d1])
    have HDV := Lib.hid (HD7.out _ BV (fun G _ hG => Below.heap_alloc w' _ G hG) (by simp))
    clear q0 q1 r0 r1 y0 y1 hb' hb2 HD7 SC hmod hmask' hKne
    try clear hHeld
    generalize (w'.alloc (.cells #[.slice C0 i0 d0, .slice C1 i1 d1] 58)) = V at BV LV HDV ⊢
    generalize w'.heap.size = D at LV ⊢
    have hB7 := hB6.trans (BV.mono hB6.size)
    have K7 := Lib.hid (K6.out.below BV K6.out.lt)
    have HDb := Lib.hid (HD6.out.now BV)
    have HP7 := Lib.hid (HP6.out.now BV)
    have HPb := Lib.hid (HPa.out.now BV)
    have e0 : V.cell? ⟨D, 0, none⟩ = some (.slice C0 i0 d0) := LV.out.cell 0
    have e1 : V.cell? ⟨D, 1, none⟩ = some (.slice C1 i1 d1) := LV.out.cell 1
    clear BV HD6 HP6 K6 hB6 HPa
    go_wp2_with fail
    refine (read_dk _ _ _ V HDV.out).mono ?_
    rintro e w8 ⟨hG8, hb8⟩
    rw [read_new_torn hok.out HG.out (by rw [HR.out, hKR.out]; omega)] at hG8
    have hB8 := hB7.trans (hb8.mono hB7.size)
    have K8 := Lib.hid (K7.out.below hb8 K7.out.lt)
    have HD8 := Lib.hid (HDb.out.now hb8)
    have HP8 := Lib.hid (HP7.out.now hb8)
    have HPc := Lib.hid (HPb.out.now hb8)
    clear e0 e1
    have q0 : w8.cell? ⟨w.heap.size, 0, none⟩ = some (.slice A0 n0 c0) := K8.out.cell 0
    have q1 : w8.cell? ⟨w.heap.size, 1, none⟩ = some (.slice A1 n1 c1) := K8.out.cell 1
    clear hb8 HDV HP7 K7 hB7 HDb HPb LV
    cases hr : readD s0 s1 with
    | none =>
      rw [hr] at hG8
      obtain rfl := hG8
      go_wp2_with fail
      refine (read_dk _ _ _ w8 HD8.out).mono ?_
      rintro e w9 ⟨hG9, hb9⟩
      rw [hr] at hG9
      obtain rfl := hG9
      have st1 : (convert 22 9 (.slice A6 n6 c6)).run Try.prog w9 = .ok (.string ⟨l.toArray⟩) w9 := run_str w9 c6 (HP8.out.now hb9)
      have st2 : (convert 22 9 (.slice A n6 cap)).run Try.prog w9 = .ok (.string ⟨l.toArray⟩) w9 := run_str w9 cap (HPc.out.now hb9)
      have st3 : (convert 22 9 (.slice none 0 0)).run Try.prog w9 = .ok (.string ⟨[].toArray⟩) w9 := run_str w9 0 (Bs.nil_ w9 0 none)
      generalize (⟨l.toArray⟩ : ByteArray) = s at st1 st2
      clear hr q0 q1
      go_wp2
      go_ret
      exact ⟨rfl, hB8.trans (hb9.mono hB8.size)⟩
    | some gp =>
      obtain ⟨gg, p⟩ := gp
      rw [hr] at hG8
      obtain ⟨A8, n8, c8, rfl, hp8, -, -⟩ := hG8
      have HQ8 := Lib.hid hp8; clear hp8
      go_wp2_with fail
      refine (read_dk _ _ _ w8 HD8.out).mono ?_
      rintro e w9 ⟨hG9, hb9⟩
      rw [hr] at hG9
      obtain ⟨A9, n9, c9, rfl, hp9, -, -⟩ := hG9
      have st1 : (convert 22 9 (.slice A6 n6 c6)).run Try.prog w9 = .ok (.string ⟨l.toArray⟩) w9 := run_str w9 c6 (HP8.out.now hb9)
      have st2 : (convert 22 9 (.slice A n6 cap)).run Try.prog w9 = .ok (.string ⟨l.toArray⟩) w9 := run_str w9 cap (HPc.out.now hb9)
      have st3 : (convert 22 9 (.slice A8 n8 c8)).run Try.prog w9 = .ok (.string ⟨p.toArray⟩) w9 := run_str w9 c8 (HQ8.out.now hb9)
      have st4 : (convert 22 9 (.slice A9 n9 c9)).run Try.prog w9 = .ok (.string ⟨p.toArray⟩) w9 := run_str w9 c9 hp9
      generalize (⟨l.toArray⟩ : ByteArray) = s at st1 st2
      generalize (⟨p.toArray⟩ : ByteArray) = s2 at st3 st4
      clear hr q0 q1 hp9
      go_wp2
      go_ret
      exact ⟨rfl, hB8.trans (hb9.mono hB8.size)⟩
  · have hb2 : Below w6.heap.size w6 w' := ((Below.refl _ _).alloc (Nat.le_refl _) _).drew.trans (hb'.mono (by simp))
    have BV := (hb2.setCell (p := ⟨w6.heap.size, 0, none⟩) (Nat.le_refl _) (.slice C0 i0 d0)).setCell (p := ⟨w6.heap.size, 1, none⟩) (Nat.le_refl _) (.slice C1 i1 d1)
    have LV := Lib.hid ((L7.out.put 0 (.slice C0 i0 d0)).put 1 (.slice C1 i1 d1))
    have HDV := Lib.hid (HD7.out _ BV (fun G hG _ => by
      have hne : G ≠ w6.heap.size := by simp at hG; omega
      exact (Below.heap_setCell _ _ _ G hne).trans (Below.heap_setCell _ _ _ G hne)) (by simp [World.setCell]))
    clear q0 q1 r0 r1 y0 y1 hb' hb2 HD7 SC hmod hmask' hKne L7
    try clear s0 s1 v0 v1
    try clear hHeld
    generalize ((w'.setCell ⟨w6.heap.size, 0, none⟩ (.slice C0 i0 d0)).setCell ⟨w6.heap.size, 1, none⟩ (.slice C1 i1 d1)) = V at BV LV HDV ⊢
    generalize w6.heap.size = D at LV ⊢
    have hB7 := hB6.trans (BV.mono hB6.size)
    have K7 := Lib.hid (K6.out.below BV K6.out.lt)
    have HDb := Lib.hid (HD6.out.now BV)
    have HP7 := Lib.hid (HP6.out.now BV)
    have HPb := Lib.hid (HPa.out.now BV)
    have e0 : V.cell? ⟨D, 0, none⟩ = some (.slice C0 i0 d0) := LV.out.cell 0
    have e1 : V.cell? ⟨D, 1, none⟩ = some (.slice C1 i1 d1) := LV.out.cell 1
    clear BV HD6 HP6 K6 hB6 HPa
    go_wp2_with fail
    refine (read_dk _ _ _ V HDV.out).mono ?_
    rintro e w8 ⟨hG8, hb8⟩
    rw [read_new_torn hok.out HG.out (by rw [HR.out, hKR.out]; omega)] at hG8
    have hB8 := hB7.trans (hb8.mono hB7.size)
    have K8 := Lib.hid (K7.out.below hb8 K7.out.lt)
    have HD8 := Lib.hid (HDb.out.now hb8)
    have HP8 := Lib.hid (HP7.out.now hb8)
    have HPc := Lib.hid (HPb.out.now hb8)
    clear e0 e1
    have q0 : w8.cell? ⟨w.heap.size, 0, none⟩ = some (.slice A0 n0 c0) := K8.out.cell 0
    have q1 : w8.cell? ⟨w.heap.size, 1, none⟩ = some (.slice A1 n1 c1) := K8.out.cell 1
    clear hb8 HDV HP7 K7 hB7 HDb HPb LV
    cases hr : readD s0 s1 with
    | none =>
      rw [hr] at hG8
      obtain rfl := hG8
      go_wp2_with fail
      refine (read_dk _ _ _ w8 HD8.out).mono ?_
      rintro e w9 ⟨hG9, hb9⟩
      rw [hr] at hG9
      obtain rfl := hG9
      have st1 : (convert 22 9 (.slice A6 n6 c6)).run Try.prog w9 = .ok (.string ⟨l.toArray⟩) w9 := run_str w9 c6 (HP8.out.now hb9)
      have st2 : (convert 22 9 (.slice A n6 cap)).run Try.prog w9 = .ok (.string ⟨l.toArray⟩) w9 := run_str w9 cap (HPc.out.now hb9)
      have st3 : (convert 22 9 (.slice none 0 0)).run Try.prog w9 = .ok (.string ⟨[].toArray⟩) w9 := run_str w9 0 (Bs.nil_ w9 0 none)
      generalize (⟨l.toArray⟩ : ByteArray) = s at st1 st2
      clear hr q0 q1
      go_wp2
      go_ret
      exact ⟨rfl, hB8.trans (hb9.mono hB8.size)⟩
    | some gp =>
      obtain ⟨gg, p⟩ := gp
      rw [hr] at hG8
      obtain ⟨A8, n8, c8, rfl, hp8, -, -⟩ := hG8
      have HQ8 := Lib.hid hp8; clear hp8
      go_wp2_with fail
      refine (read_dk _ _ _ w8 HD8.out).mono ?_
      rintro e w9 ⟨hG9, hb9⟩
      rw [hr] at hG9
      obtain ⟨A9, n9, c9, rfl, hp9, -, -⟩ := hG9
      have st1 : (convert 22 9 (.slice A6 n6 c6)).run Try.prog w9 = .ok (.string ⟨l.toArray⟩) w9 := run_str w9 c6 (HP8.out.now hb9)
      have st2 : (convert 22 9 (.slice A n6 cap)).run Try.prog w9 = .ok (.string ⟨l.toArray⟩) w9 := run_str w9 cap (HPc.out.now hb9)
      have st3 : (convert 22 9 (.slice A8 n8 c8)).run Try.prog w9 = .ok (.string ⟨p.toArray⟩) w9 := run_str w9 c8 (HQ8.out.now hb9)
      have st4 : (convert 22 9 (.slice A9 n9 c9)).run Try.prog w9 = .ok (.string ⟨p.toArray⟩) w9 := run_str w9 c9 hp9
      generalize (⟨l.toArray⟩ : ByteArray) = s at st1 st2
      generalize (⟨p.toArray⟩ : ByteArray) = s2 at st3 st4
      clear hr q0 q1 hp9
      go_wp2
      go_ret
      exact ⟨rfl, hB8.trans (hb9.mono hB8.size)⟩
end Go.Proofs.Ytkkbncgnobaliaa
