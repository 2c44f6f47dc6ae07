/-
  The law CodecOnly: where a number stands first.
-/
import Derived.Test.YtkkbncgnobaliaaCodL5
namespace Go.Proofs.Ytkkbncgnobaliaa
open Go.RowKit
open CodP
set_option linter.unusedVariables false
theorem bs_len {w : World} {B n : Nat} {A : Option Addr} {l : List UInt8} (h : Bs w B A n l) : n = l.length := h.len.symm
set_option maxRecDepth 100000 in
set_option maxHeartbeats 25600000 in
theorem codecOnly_ok (u : Nat) (r : List UInt8) (w : World) (A : Option Addr) (n cap : Nat) (l : List UInt8) (hb : Bs w w.heap.size A n l) (hcap : n ≤ cap) (hm : cap ≤ 9223372036854775807) (hu : getU l = .ok (u, r)) :
    Calls Try.prog 8 #[.slice A n cap] w fun e w' => e = .returned (.bool true) ∧ Below w.heap.size w w' := by
  have HU := Lib.hid hu
  have hu60 := (getU_ok hu).2
  have HI := Lib.hid (show getI l = .ok (decI u, r) by unfold getI; rw [hu])
  have HW := Lib.hid (getU_was hu)
  clear hu
  have HB := Lib.hid hb; clear hb
  have hHl := Lib.hid HB.out.len
  have hn63 : n ≤ 9223372036854775807 := by omega
  go_enter Try.func8, Try.ntmps8
  go_wp2_with fail
  refine (cawake_any _).mono ?_
  rintro e w1 ⟨rfl, hb1⟩
  by_cases hn : 1000 < n
  · go_wp2
    go_ret
    exact ⟨rfl, hb1⟩
  have dn : decide (1000 < n) = false := decide_eq_false hn
  have HL1 := Lib.hid (show l.length ≤ 1000 by rw [hHl.out]; omega)
  go_wp2_with fail
  refine (getU_at _ A n cap l _ (Nat.le_refl _) hn63 hcap hm (HB.out.now hb1)).mono ?_
  rintro e w2 ⟨hg2, hb2⟩
  have hB2 := hb1.trans (hb2.mono hb1.size)
  rw [HU.out] at hg2
  obtain ⟨A2, n2, c2, rfl, hs2, -, -⟩ := hg2
  have hs2 := Lib.hid (hs2.more hb2.size)
  clear hb2
  go_wp2_with fail
  refine (getI_at _ A n cap l _ (Nat.le_refl _) hn63 hcap hm (HB.out.now hB2)).mono ?_
  rintro e w3 ⟨hg3, hb3⟩
  rw [HI.out] at hg3
  obtain ⟨A3, n3, c3, rfl, hs3, -, -⟩ := hg3
  have hs3 := Lib.hid (hs3.more hb3.size)
  have hs2 := Lib.hid (hs2.out.now hb3)
  have hB3 := hB2.trans (hb3.mono hB2.size)
  clear hb3
  go_wp2_with fail
  refine (getT_at _ A n cap l _ (Nat.le_refl _) hn63 hcap hm (HB.out.now hB3)).mono ?_
  rintro e w4 ⟨hg4, hb4⟩
  have hB4 := hB3.trans (hb4.mono hB3.size)
  have hs2 := Lib.hid (hs2.out.now hb4)
  have hs3 := Lib.hid (hs3.out.now hb4)
  -- the text's answer, told by letters
  obtain ⟨sv, A4, n4, c4, ce, rfl, HT⟩ : ∃ (sv : ByteArray) (A4 : Option Addr) (n4 c4 : Nat) (ce : Nat), e = .returned (.tuple #[.string sv, .slice A4 n4 c4, .int .i64 (ce : Int)]) ∧
      Hid ((ce ≠ 0 ∧ sv = ⟨#[]⟩ ∧ n4 = 0) ∨ (ce = 0 ∧ ∃ rt, sv.size ≤ 65536 ∧ l = encU sv.size ++ chs sv ++ rt ∧ Bs w4 w4.heap.size A4 n4 rt)) := by
    cases ht : getT l with
    | error c =>
      rw [ht] at hg4
      exact ⟨_, _, _, _, c, hg4, Lib.hid (.inl ⟨by have := getT_err ht; omega, rfl, rfl⟩)⟩
    | ok q =>
      obtain ⟨a, rt⟩ := q
      rw [ht] at hg4
      obtain ⟨A4, n4, c4, he, hs4, -, -⟩ := hg4
      obtain ⟨e1, e2⟩ := getT_was ht
      have sz : (⟨a.toArray⟩ : ByteArray).size = a.length := List.size_toArray
      exact ⟨_, A4, n4, c4, 0, he, Lib.hid (.inr ⟨rfl, rt, by rw [sz]; exact e2, by rw [sz, chs_mk]; exact e1, hs4.more hb4.size⟩)⟩
  clear hg4 hb4
  go_wp2_with fail
  refine (getL_at _ A n cap l _ (Nat.le_refl _) hn63 hcap hm (HB.out.now hB4)).mono ?_
  rintro e w5 ⟨hg5, hb5⟩
  have hB5 := hB4.trans (hb5.mono hB4.size)
  have hs2 := Lib.hid (hs2.out.now hb5)
  have hs3 := Lib.hid (hs3.out.now hb5)
  have HT := Lib.hid (show (ce ≠ 0 ∧ sv = ⟨#[]⟩ ∧ n4 = 0) ∨ (ce = 0 ∧ ∃ rt, sv.size ≤ 65536 ∧ l = encU sv.size ++ chs sv ++ rt ∧ Bs w5 w5.heap.size A4 n4 rt) by
    rcases HT.out with h | ⟨h, rt, h1, h2, h3⟩
    · exact .inl h
    · exact .inr ⟨h, rt, h1, h2, h3.now hb5⟩)
  obtain ⟨Ap, np, cp, Ar, nr, cr, cf, rfl, HL⟩ : ∃ (Ap : Option Addr) (np cp : Nat) (Ar : Option Addr) (nr cr : Nat) (cf : Nat), e = .returned (.tuple #[.slice Ap np cp, .slice Ar nr cr, .int .i64 (cf : Int)]) ∧
      Hid ((cf ≠ 0 ∧ np = 0 ∧ nr = 0) ∨ (cf = 0 ∧ np ≤ 16 ∧ ∃ L rl, saneL L = true ∧ l = labB L ++ rl ∧ Prs w5 w5.heap.size Ap np L ∧ Bs w5 w5.heap.size Ar nr rl)) := by
    cases hl : getL l with
    | error c =>
      rw [hl] at hg5
      exact ⟨_, _, _, _, _, _, c, hg5.1, Lib.hid (.inl ⟨by have := hg5.2; omega, rfl, rfl⟩)⟩
    | ok q =>
      obtain ⟨L, rl⟩ := q
      rw [hl] at hg5
      obtain ⟨Ap, np, cp, Ar, nr, cr, he, hp, -, -, h16, hr, -, -⟩ := hg5
      obtain ⟨e1, e2⟩ := getL_was hl
      exact ⟨Ap, np, cp, Ar, nr, cr, 0, he, Lib.hid (.inr ⟨rfl, h16, L, rl, e1, e2, hp, hr.more hb5.size⟩)⟩
  clear hg5 hb5
  have HB5 := Lib.hid (HB.out.now hB5)
  have hsz5 := hB5.size
  -- region 8
  have hadd1 := add_back (encU u) r l HW.out HL1.out
  have HX1 := Lib.hid (show ∀ W' (A9 : Option Addr) (n9 c9 : Nat), Bs W' W'.heap.size A9 n9 (encU u) → (convert 22 9 (.slice A9 n9 c9)).run Try.prog W' = .ok (.string ⟨(encU u).toArray⟩) W' from fun W' A9 n9 c9 h => run_str W' c9 h)
  have st1 : ∀ p : Bel w5, (convert 22 9 (.slice A2 n2 c2)).run Try.prog p.now = .ok (.string ⟨r.toArray⟩) p.now := fun p => run_str p.now c2 (hs2.out.now p.bel)
  have st2 : ∀ p : Bel w5, (convert 22 9 (.slice A n cap)).run Try.prog p.now = .ok (.string ⟨l.toArray⟩) p.now := fun p => run_str p.now cap (HB5.out.now p.bel)
  have SC := Lib.hid (show ∀ W', Calls Try.prog 34 #[.slice none 0 0, .int .i64 (u : Int)] W' fun e w' => (∃ v, e = .returned v ∧ OwnB w' W'.heap.size 5 v (encU u)) ∧ Below W'.heap.size W' w' from fun W' => by
    have := putU_any none 0 0 [] (u : Int) W' (by omega) (Bs.nil_ _ _ _)
    rw [show putU [] ((u : Nat) : Int) = encU u by unfold putU; rw [if_pos ⟨by omega, by omega⟩]; simp] at this
    exact this)
  generalize hsr : (⟨r.toArray⟩ : ByteArray) = sr at st1 hadd1
  generalize hsl : (⟨l.toArray⟩ : ByteArray) = sl at st2 hadd1
  generalize (⟨(encU u).toArray⟩ : ByteArray) = su at HX1 hadd1
  have HSR := Lib.hid hsr
  have HSL := Lib.hid hsl
  clear hsr hsl
  go_wp2_with fail
  refine wp_region_mid [0, 1, 2, 3, 6, 7, 9, 10] 4 [5, 8, 11, 12, 13, 14, 15, 16, 17, 18, 19, 20, 21, 22, 23, 24, 25, 26, 27, 28, 29, 30] _ (by rfl) (by kernel_rfl) (by kernel_rfl) (fun _ _ dd _ _ h => by cases dd <;> exact h) ?_
  repeat (
    refine TK.step (by rfl) (fun KK hKK => ?_)
    go_simp
    refine hKK _ ?_; clear hKK KK)
  refine TK.nil_ ?_
  intro KM hKM
  go_simp
  go_at_call 34; refine (SC.out _).mono ?_; rintro e w6 ⟨⟨v9, rfl, hown9⟩, hb'⟩; obtain ⟨A9, n9, c9, rfl, hs9, -, -⟩ := hown9.bs; have st9 := HX1.out w6 A9 n9 c9 hs9
  refine hKM _ _ ((Below.refl _ _).drew.trans hb') ?_
  clear hKM KM
  repeat (
    refine TK.step (by rfl) (fun KK hKK => ?_)
    go_simp
    refine hKK _ ?_; clear hKK KK)
  refine TK.nil_ ?_
  have hb6 : Below w5.heap.size w5 w6 := (Below.refl _ _).drew.trans hb'
  clear SC st1 st2 hadd1 HX1 st9 hb' hown9 hs9
  have hB6 := hB5.trans (hb6.mono hsz5)
  have hs3 := Lib.hid (hs3.out.now hb6)
  have HB6 := Lib.hid (HB5.out.now hb6)
  have HT := Lib.hid (show (ce ≠ 0 ∧ sv = ⟨#[]⟩ ∧ n4 = 0) ∨ (ce = 0 ∧ ∃ rt, sv.size ≤ 65536 ∧ l = encU sv.size ++ chs sv ++ rt ∧ Bs w6 w6.heap.size A4 n4 rt) by
    rcases HT.out with h | ⟨h, rt, h1, h2, h3⟩
    · exact .inl h
    · exact .inr ⟨h, rt, h1, h2, h3.now hb6⟩)
  have HL := Lib.hid (show (cf ≠ 0 ∧ np = 0 ∧ nr = 0) ∨ (cf = 0 ∧ np ≤ 16 ∧ ∃ L rl, saneL L = true ∧ l = labB L ++ rl ∧ Prs w6 w6.heap.size Ap np L ∧ Bs w6 w6.heap.size Ar nr rl) by
    rcases HL.out with h | ⟨h, h0, L, rl, h1, h2, h3, h4⟩
    · exact .inl h
    · exact .inr ⟨h, h0, L, rl, h1, h2, h3.now hb6, h4.now hb6⟩)
  clear hb6 hs2 HB5
  have hsz6 := hB6.size
  have hadd1 := add_back (encU u) r l HW.out HL1.out
  have HX1 := Lib.hid (show ∀ W' (A9 : Option Addr) (n9 c9 : Nat), Bs W' W'.heap.size A9 n9 (encU u) → (convert 22 9 (.slice A9 n9 c9)).run Try.prog W' = .ok (.string ⟨(encU u).toArray⟩) W' from fun W' A9 n9 c9 h => run_str W' c9 h)
  have st1 : ∀ p : Bel w6, (convert 22 9 (.slice A3 n3 c3)).run Try.prog p.now = .ok (.string sr) p.now := fun p => by rw [← HSR.out]; exact run_str p.now c3 (hs3.out.now p.bel)
  have st2 : ∀ p : Bel w6, (convert 22 9 (.slice A n cap)).run Try.prog p.now = .ok (.string sl) p.now := fun p => by rw [← HSL.out]; exact run_str p.now cap (HB6.out.now p.bel)
  have SC := Lib.hid (show ∀ W', Calls Try.prog 33 #[.slice none 0 0, .int .i64 (decI u)] W' fun e w' => (∃ v, e = .returned v ∧ OwnB w' W'.heap.size 5 v (encU u)) ∧ Below W'.heap.size W' w' from fun W' => by
    have := putI_any none 0 0 [] (decI u) W' (by omega) (Bs.nil_ _ _ _)
    rw [show putI [] (decI u) = encU u by unfold putI; rw [if_pos (decI_bd hu60), encI_decI]; simp] at this
    exact this)
  rw [HSR.out, HSL.out] at hadd1
  generalize (⟨(encU u).toArray⟩ : ByteArray) = su at HX1 hadd1
  obtain ⟨di, HDI⟩ : ∃ di, Hid (decI u = di) := ⟨_, Lib.hid rfl⟩
  rw [HDI.out] at SC ⊢
  rcases HT.out with ⟨hce, rfl, rfl⟩ | ⟨rfl, rt, hsv, hl2, hrt⟩
  · have y1 : ((ce : Int) == 0) = false := beq_false_of_ne (by omega)
    have y2 : ((ce : Int) != 0) = true := bne_iff_ne.2 (by omega)
    go_wp2_with fail
    refine wp_region_mid3 [0, 1, 2, 3, 6, 7, 9, 10] 4 [5, 8, 11, 12, 13, 14, 15, 16, 17, 20, 21, 23, 24] 18 [19, 22, 25, 26, 27] _ _ (by rfl) (by rfl) (by kernel_rfl) (by kernel_rfl) (fun _ _ dd _ _ h => by cases dd <;> exact h) ?_
    repeat (
      refine TK.step (by rfl) (fun KK hKK => ?_)
      go_simp
      refine hKK _ ?_; clear hKK KK)
    refine TK.nil_ ?_
    intro KM hKM
    go_simp
    go_at_call 33; refine (SC.out _).mono ?_; rintro e w7 ⟨⟨v9, rfl, hown9⟩, hb'⟩; obtain ⟨A9, n9, c9, rfl, hs9, -, -⟩ := hown9.bs; have st9 : ∀ p : Bel w7, _ := fun p => HX1.out p.now A9 n9 c9 (hs9.now p.bel)
    refine hKM _ _ ((Below.refl _ _).drew.trans hb') ?_
    clear hKM KM
    repeat (
      refine TK.step (by rfl) (fun KK hKK => ?_)
      go_simp
      refine hKK _ ?_; clear hKK KK)
    refine TK.nil_ ?_
    intro KM hKM
    go_simp
    refine hKM _ _ (Below.refl _ _) ?_
    clear hKM KM
    repeat (
      refine TK.step (by rfl) (fun KK hKK => ?_)
      go_simp
      refine hKK _ ?_; clear hKK KK)
    refine TK.nil_ ?_
    have hb7 : Below w6.heap.size w6 w7 := (Below.refl _ _).drew.trans hb'
    have hB7 := hB6.trans (hb7.mono hsz6)
    have HB7 := Lib.hid (HB6.out.now hb7)
    have HL := Lib.hid (show (cf ≠ 0 ∧ np = 0 ∧ nr = 0) ∨ (cf = 0 ∧ np ≤ 16 ∧ ∃ L rl, saneL L = true ∧ l = labB L ++ rl ∧ Prs w7 w7.heap.size Ap np L ∧ Bs w7 w7.heap.size Ar nr rl) by
      rcases HL.out with h | ⟨h, h0, L, rl, h1, h2, h3, h4⟩
      · exact .inl h
      · exact .inr ⟨h, h0, L, rl, h1, h2, h3.now hb7, h4.now hb7⟩)
    clear SC st1 st2 hadd1 HX1 st9 hb' hown9 hs9 hb7
    have hsz7 := hB7.size
    rcases HL.out with ⟨hcf, rfl, rfl⟩ | ⟨rfl, hnp, L, rl, hL1, hL2, hp, hr⟩
    · have z1 : ((cf : Int) == 0) = false := beq_false_of_ne (by omega)
      have z2 : ((cf : Int) != 0) = true := bne_iff_ne.2 (by omega)
      go_wp2_with fail
      refine wp_region_bel (by kernel_rfl) (by kernel_rfl) ?_
      repeat (
        refine WQ.step (fun KK hKK => ?_)
        go_simp
        refine hKK _ ?_; clear hKK KK)
      refine WQ.nil_ ?_
      rintro wq1 ⟨⟨wq, hq⟩, hwq⟩
      obtain rfl : wq = wq1 := hwq.symm
      clear hwq
      have hB8 := hB7.trans (hq.mono hsz7)
      clear hq
      go_wp2
      go_ret
      exact ⟨rfl, hB8⟩
    · have hp := Lib.hid hp
      have hr := Lib.hid hr
      have hadd2 := add_back (labB L) rl l hL2 HL1.out
      rw [HSL.out] at hadd2
      have HX2 := Lib.hid (show ∀ W' (A9 : Option Addr) (n9 c9 : Nat), Bs W' W'.heap.size A9 n9 (labB L) → (convert 22 9 (.slice A9 n9 c9)).run Try.prog W' = .ok (.string ⟨(labB L).toArray⟩) W' from fun W' A9 n9 c9 h => run_str W' c9 h)
      have st5 : ∀ p : Bel w7, (convert 22 9 (.slice Ar nr cr)).run Try.prog p.now = .ok (.string ⟨rl.toArray⟩) p.now := fun p => run_str p.now cr (hr.out.now p.bel)
      generalize (⟨rl.toArray⟩ : ByteArray) = srl at st5 hadd2
      generalize (⟨(labB L).toArray⟩ : ByteArray) = slb at HX2 hadd2
      have st6 : ∀ p : Bel w7, (convert 22 9 (.slice A n cap)).run Try.prog p.now = .ok (.string sl) p.now := fun p => by rw [← HSL.out]; exact run_str p.now cap (HB7.out.now p.bel)
      have hL1 := Lib.hid hL1
      clear hL2
      go_wp2_with fail
      refine wp_region_mid3 [0, 1, 2, 3, 4, 5] 6 [7, 8, 11, 12, 14, 15] 9 [10, 13, 16, 17, 18, 19, 20, 21, 22, 23, 24, 25, 26, 27, 28, 29, 30, 31, 32, 33, 34, 35, 36, 37, 38, 39, 40, 41, 42, 43, 44, 45, 46, 47] _ _ (by rfl) (by rfl) (by kernel_rfl) (by kernel_rfl) (fun _ _ dd _ _ h => by cases dd <;> exact h) ?_
      repeat (
        refine TK.step (by rfl) (fun KK hKK => ?_)
        go_simp
        refine hKK _ ?_; clear hKK KK)
      refine TK.nil_ ?_
      intro KM hKM
      go_simp
      go_at_call 30; refine (lsane_any Ap np cp L _ (by omega) (hp.out.now (Below.refl _ _).drew)).mono ?_; rintro e wx ⟨rfl, hbx⟩; rw [hL1.out]; have hbx' : Below w7.heap.size w7 wx := (Below.refl _ _).drew.trans hbx; have st5x : ∀ p : Bel wx, _ := fun p => st5 ⟨p.now, hbx'.trans (p.bel.mono hbx'.size)⟩; have st6x : ∀ p : Bel wx, _ := fun p => st6 ⟨p.now, hbx'.trans (p.bel.mono hbx'.size)⟩
      refine hKM _ _ ((Below.refl _ _).drew.trans hbx) ?_
      clear hKM KM
      repeat (
        refine TK.step (by rfl) (fun KK hKK => ?_)
        go_simp
        refine hKK _ ?_; clear hKK KK)
      refine TK.nil_ ?_
      intro KM hKM
      go_simp
      go_at_call 31; refine (putL_any none 0 0 [] Ap np cp L _ (by omega) (by omega) (.inl ⟨rfl, rfl, rfl⟩) (by omega) (Bs.nil_ _ _ _) (hp.out.now ((Below.refl _ _).drew.trans hbx))).mono ?_; rintro e wy ⟨⟨v9, rfl, hown9⟩, hby⟩; rw [show okLab L = L by unfold okLab; rw [hL1.out]; rfl, List.nil_append] at hown9; obtain ⟨A9, n9, c9, rfl, hs9, -, -⟩ := hown9.bs; have st9 := HX2.out wy A9 n9 c9 hs9
      refine hKM _ _ hby ?_
      clear hKM KM
      repeat (
        refine TK.step (by rfl) (fun KK hKK => ?_)
        go_simp
        refine hKK _ ?_; clear hKK KK)
      refine TK.nil_ ?_
      have hB8 := hB7.trans ((((Below.refl _ _).drew.trans hbx).trans (hby.mono (by have := hbx.size; simpa using this))).mono hsz7)
      go_wp2
      go_ret
      exact ⟨rfl, hB8⟩
  · have hrt := Lib.hid hrt
    have hadd3 := add_back (encU sv.size ++ chs sv) rt l hl2 HL1.out
    rw [HSL.out] at hadd3
    have HX3 := Lib.hid (show ∀ W' (A9 : Option Addr) (n9 c9 : Nat), Bs W' W'.heap.size A9 n9 (encU sv.size ++ chs sv) → (convert 22 9 (.slice A9 n9 c9)).run Try.prog W' = .ok (.string ⟨(encU sv.size ++ chs sv).toArray⟩) W' from fun W' A9 n9 c9 h => run_str W' c9 h)
    have st3 : ∀ p : Bel w6, (convert 22 9 (.slice A4 n4 c4)).run Try.prog p.now = .ok (.string ⟨rt.toArray⟩) p.now := fun p => run_str p.now c4 (hrt.out.now p.bel)
    have ST := Lib.hid (show ∀ W', Calls Try.prog 32 #[.slice none 0 0, .string sv] W' fun e w' => (∃ v, e = .returned v ∧ OwnB w' W'.heap.size 5 v (encU sv.size ++ chs sv)) ∧ Below W'.heap.size W' w' from fun W' => by
      have := putT_any none 0 0 [] sv W' (by omega) (by omega) (Bs.nil_ _ _ _)
      rw [show addT [] sv = encU sv.size ++ chs sv by unfold addT; rw [if_pos hsv]; simp] at this
      exact this)
    generalize (⟨rt.toArray⟩ : ByteArray) = srt at st3 hadd3
    generalize (⟨(encU sv.size ++ chs sv).toArray⟩ : ByteArray) = ssv at HX3 hadd3
    clear hl2
    go_wp2_with fail
    refine wp_region_mid3 [0, 1, 2, 3, 6, 7, 9, 10] 4 [5, 8, 11, 12, 13, 14, 15, 16, 17, 20, 21, 23, 24] 18 [19, 22, 25, 26, 27] _ _ (by rfl) (by rfl) (by kernel_rfl) (by kernel_rfl) (fun _ _ dd _ _ h => by cases dd <;> exact h) ?_
    repeat (
      refine TK.step (by rfl) (fun KK hKK => ?_)
      go_simp
      refine hKK _ ?_; clear hKK KK)
    refine TK.nil_ ?_
    intro KM hKM
    go_simp
    go_at_call 33; refine (SC.out _).mono ?_; rintro e wx ⟨⟨v9, rfl, hown9⟩, hb'⟩; obtain ⟨A9, n9, c9, rfl, hs9, -, -⟩ := hown9.bs; have hbx : Below w6.heap.size w6 wx := (Below.refl _ _).drew.trans hb'; have st9 : ∀ p : Bel wx, _ := fun p => HX1.out p.now A9 n9 c9 (hs9.now p.bel); have st3x : ∀ p : Bel wx, _ := fun p => st3 ⟨p.now, hbx.trans (p.bel.mono hbx.size)⟩; have st2x : ∀ p : Bel wx, _ := fun p => st2 ⟨p.now, hbx.trans (p.bel.mono hbx.size)⟩
    refine hKM _ _ ((Below.refl _ _).drew.trans hb') ?_
    clear hKM KM
    repeat (
      refine TK.step (by rfl) (fun KK hKK => ?_)
      go_simp
      refine hKK _ ?_; clear hKK KK)
    refine TK.nil_ ?_
    intro KM hKM
    go_simp
    go_at_call 32; refine (ST.out _).mono ?_; rintro e w7 ⟨⟨v8, rfl, hown8⟩, hb8⟩; obtain ⟨A8, n8, c8, rfl, hs8, -, -⟩ := hown8.bs; have st8 := HX3.out w7 A8 n8 c8 hs8
    refine hKM _ _ hb8 ?_
    clear hKM KM
    repeat (
      refine TK.step (by rfl) (fun KK hKK => ?_)
      go_simp
      refine hKK _ ?_; clear hKK KK)
    refine TK.nil_ ?_
    have hb7 : Below w6.heap.size w6 w7 := ((Below.refl _ _).drew.trans hb').trans (hb8.mono (by have := hb'.size; simpa using this))
    have hB7 := hB6.trans (hb7.mono hsz6)
    have HB7 := Lib.hid (HB6.out.now hb7)
    have HL := Lib.hid (show (cf ≠ 0 ∧ np = 0 ∧ nr = 0) ∨ (cf = 0 ∧ np ≤ 16 ∧ ∃ L rl, saneL L = true ∧ l = labB L ++ rl ∧ Prs w7 w7.heap.size Ap np L ∧ Bs w7 w7.heap.size Ar nr rl) by
      rcases HL.out with h | ⟨h, h0, L, rl, h1, h2, h3, h4⟩
      · exact .inl h
      · exact .inr ⟨h, h0, L, rl, h1, h2, h3.now hb7, h4.now hb7⟩)
    clear SC st1 st2 hadd1 HX1 st9 hb' hown9 hs9 hb7 hb8 hown8 hs8 st8 st3 hadd3 HX3 ST st3x st2x hbx
    have hsz7 := hB7.size
    rcases HL.out with ⟨hcf, rfl, rfl⟩ | ⟨rfl, hnp, L, rl, hL1, hL2, hp, hr⟩
    · have z1 : ((cf : Int) == 0) = false := beq_false_of_ne (by omega)
      have z2 : ((cf : Int) != 0) = true := bne_iff_ne.2 (by omega)
      go_wp2_with fail
      refine wp_region_bel (by kernel_rfl) (by kernel_rfl) ?_
      repeat (
        refine WQ.step (fun KK hKK => ?_)
        go_simp
        refine hKK _ ?_; clear hKK KK)
      refine WQ.nil_ ?_
      rintro wq1 ⟨⟨wq, hq⟩, hwq⟩
      obtain rfl : wq = wq1 := hwq.symm
      clear hwq
      have hB8 := hB7.trans (hq.mono hsz7)
      clear hq
      go_wp2
      go_ret
      exact ⟨rfl, hB8⟩
    · have hp := Lib.hid hp
      have hr := Lib.hid hr
      have hadd2 := add_back (labB L) rl l hL2 HL1.out
      rw [HSL.out] at hadd2
      have HX2 := Lib.hid (show ∀ W' (A9 : Option Addr) (n9 c9 : Nat), Bs W' W'.heap.size A9 n9 (labB L) → (convert 22 9 (.slice A9 n9 c9)).run Try.prog W' = .ok (.string ⟨(labB L).toArray⟩) W' from fun W' A9 n9 c9 h => run_str W' c9 h)
      have st5 : ∀ p : Bel w7, (convert 22 9 (.slice Ar nr cr)).run Try.prog p.now = .ok (.string ⟨rl.toArray⟩) p.now := fun p => run_str p.now cr (hr.out.now p.bel)
      generalize (⟨rl.toArray⟩ : ByteArray) = srl at st5 hadd2
      generalize (⟨(labB L).toArray⟩ : ByteArray) = slb at HX2 hadd2
      have st6 : ∀ p : Bel w7, (convert 22 9 (.slice A n cap)).run Try.prog p.now = .ok (.string sl) p.now := fun p => by rw [← HSL.out]; exact run_str p.now cap (HB7.out.now p.bel)
      have hL1 := Lib.hid hL1
      clear hL2
      go_wp2_with fail
      refine wp_region_mid3 [0, 1, 2, 3, 4, 5] 6 [7, 8, 11, 12, 14, 15] 9 [10, 13, 16, 17, 18, 19, 20, 21, 22, 23, 24, 25, 26, 27, 28, 29, 30, 31, 32, 33, 34, 35, 36, 37, 38, 39, 40, 41, 42, 43, 44, 45, 46, 47] _ _ (by rfl) (by rfl) (by kernel_rfl) (by kernel_rfl) (fun _ _ dd _ _ h => by cases dd <;> exact h) ?_
      repeat (
        refine TK.step (by rfl) (fun KK hKK => ?_)
        go_simp
        refine hKK _ ?_; clear hKK KK)
      refine TK.nil_ ?_
      intro KM hKM
      go_simp
      go_at_call 30; refine (lsane_any Ap np cp L _ (by omega) (hp.out.now (Below.refl _ _).drew)).mono ?_; rintro e wx ⟨rfl, hbx⟩; rw [hL1.out]; have hbx' : Below w7.heap.size w7 wx := (Below.refl _ _).drew.trans hbx; have st5x : ∀ p : Bel wx, _ := fun p => st5 ⟨p.now, hbx'.trans (p.bel.mono hbx'.size)⟩; have st6x : ∀ p : Bel wx, _ := fun p => st6 ⟨p.now, hbx'.trans (p.bel.mono hbx'.size)⟩
      refine hKM _ _ ((Below.refl _ _).drew.trans hbx) ?_
      clear hKM KM
      repeat (
        refine TK.step (by rfl) (fun KK hKK => ?_)
        go_simp
        refine hKK _ ?_; clear hKK KK)
      refine TK.nil_ ?_
      intro KM hKM
      go_simp
      go_at_call 31; refine (putL_any none 0 0 [] Ap np cp L _ (by omega) (by omega) (.inl ⟨rfl, rfl, rfl⟩) (by omega) (Bs.nil_ _ _ _) (hp.out.now ((Below.refl _ _).drew.trans hbx))).mono ?_; rintro e wy ⟨⟨v9, rfl, hown9⟩, hby⟩; rw [show okLab L = L by unfold okLab; rw [hL1.out]; rfl, List.nil_append] at hown9; obtain ⟨A9, n9, c9, rfl, hs9, -, -⟩ := hown9.bs; have st9 := HX2.out wy A9 n9 c9 hs9
      refine hKM _ _ hby ?_
      clear hKM KM
      repeat (
        refine TK.step (by rfl) (fun KK hKK => ?_)
        go_simp
        refine hKK _ ?_; clear hKK KK)
      refine TK.nil_ ?_
      have hB8 := hB7.trans ((((Below.refl _ _).drew.trans hbx).trans (hby.mono (by have := hbx.size; simpa using this))).mono hsz7)
      go_wp2
      go_ret
      exact ⟨rfl, hB8⟩
theorem codecOnly_walk (w : World) (A : Option Addr) (n cap : Nat) (l : List UInt8) (hb : Bs w w.heap.size A n l) (hcap : n ≤ cap) (hm : cap ≤ 9223372036854775807) :
    Calls Try.prog 8 #[.slice A n cap] w fun e w' => e = .returned (.bool true) ∧ Below w.heap.size w w' := by
  cases hu : getU l with
  | error c => exact codecOnly_err c w A n cap l hb hcap hm hu
  | ok q => exact codecOnly_ok q.1 q.2 w A n cap l hb hcap hm hu
end Go.Proofs.Ytkkbncgnobaliaa
