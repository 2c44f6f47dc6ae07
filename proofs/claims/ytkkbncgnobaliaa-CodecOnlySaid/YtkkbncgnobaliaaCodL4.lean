/-
  The law CodecBack.
-/
import Derived.Test.YtkkbncgnobaliaaCodA
import Derived.Test.YtkkbncgnobaliaaFrmL2
namespace Go.Proofs.Ytkkbncgnobaliaa
open Go.RowKit
open CodP
set_option linter.unusedVariables false
def GotI (w' : World) (B : Nat) (e : Ending) : Except Nat (Int × List UInt8) → Prop
  | .ok (t, r) => ∃ A2 n2 c2, e = .returned (.tuple #[.int .i64 t, .slice A2 n2 c2, .int .i64 0]) ∧ Bs w' B A2 n2 r ∧ n2 ≤ c2 ∧ c2 ≤ 9223372036854775807
  | .error c => e = .returned (.tuple #[.int .i64 0, .slice none 0 0, .int .i64 (c : Int)])
theorem getI_at (B : Nat) (A : Option Addr) (n cap : Nat) (l : List UInt8) (w : World) (hBw : B ≤ w.heap.size) (hn : n ≤ 9223372036854775807) (hcn : n ≤ cap) (hcap : cap ≤ 9223372036854775807) (hb : Bs w B A n l) :
    Calls Try.prog 36 #[.slice A n cap] w fun e w' => GotI w' B e (getI l) ∧ Below w.heap.size w w' := by
  refine (getI_any A n cap l _ hn hcn hcap (hb.more hBw)).mono ?_
  rintro e w1 ⟨rfl, hb1⟩
  refine ⟨?_, hb1⟩
  unfold getI
  cases hu : getU l with
  | error c => rfl
  | ok q =>
    obtain ⟨m, r⟩ := q
    obtain ⟨hl, hm60⟩ := getU_ok hu
    have hkl : r.length + (encU m).length = n := by have := congrArg List.length hl; rw [List.length_append, hb.len] at this; omega
    refine ⟨_, _, _, rfl, ?_, by omega, by omega⟩
    have := (hb.below (hb1.mono hBw)).lo (k := n - r.length) (cap := cap) (by omega) hcn
    have e1 : l.drop (n - r.length) = r := by rw [show n - r.length = (encU m).length by omega, hl, List.drop_left]
    have e2 : n - (n - r.length) = r.length := by omega
    rw [e1, e2] at this
    exact this
theorem labB_len (L : Lab) (h : saneL L = true) : (labB L).length ≤ 9 + 200 * 16 := by
  have hs := saneL_iff.1 h
  have h1 := cat2_len L (fun i hi => ⟨(hs.2 i hi).1.2.1, (hs.2 i hi).2.1⟩) L.length (Nat.le_refl _)
  rw [List.take_length] at h1
  have h2 := encU_length_le 8 L.length (pow_le _ (by have := hs.1; omega))
  have h3 := hs.1
  unfold labB
  rw [List.length_append]
  omega
set_option maxRecDepth 100000 in
set_option maxHeartbeats 12800000 in
theorem codecBack_walk (w : World) (n : Int) (hn1 : -9223372036854775808 ≤ n) (hn2 : n ≤ 9223372036854775807) (i : Int) (hi1 : -9223372036854775808 ≤ i) (hi2 : i ≤ 9223372036854775807) (s : ByteArray) (hs63 : s.size ≤ maxLen) (lv : Value) (ol : IsPairs w lv) (A0 : Option Addr) (k0 c0 : Nat) (tl : List UInt8) (hbt : Bs w w.heap.size A0 k0 tl) (hk0 : k0 ≤ c0) (hc0 : c0 ≤ 9223372036854775807) :
    Calls Try.prog 7 #[.int .i64 n, .int .i64 i, .string s, lv, .slice A0 k0 c0] w fun e w' => e = .returned (.bool true) ∧ Below w.heap.size w w' := by
  obtain ⟨A, k, cap, L, rfl, hL, hcap, hm⟩ := ol
  have hk63 : k ≤ 9223372036854775807 := by omega
  have hs63 : s.size ≤ 9223372036854775807 := hs63
  have HL := Lib.hid hL; clear hL
  have HT := Lib.hid hbt; clear hbt
  have HTL := Lib.hid HT.out.len
  go_enter Try.func7, Try.ntmps7
  go_wp2_with fail
  refine (cawake_any _).mono ?_
  rintro e w1 ⟨rfl, hb1⟩
  by_cases h1 : 1000 < s.size
  · go_wp2
    go_ret
    exact ⟨rfl, hb1⟩
  have d1 : decide (1000 < s.size) = false := decide_eq_false h1
  by_cases h1' : 1000 < k0
  · go_wp2
    go_ret
    exact ⟨rfl, hb1⟩
  have d1' : decide (1000 < k0) = false := decide_eq_false h1'
  go_wp2_with fail
  refine (few_lab A k cap L _ hk63 (HL.out.now hb1)).mono ?_
  rintro e w2 ⟨⟨q, rfl, hq⟩, hb2⟩
  have hB2 := hb1.trans (hb2.mono hb1.size)
  clear hb2 hq
  cases q with
  | false =>
    go_wp2
    go_ret
    exact ⟨rfl, hB2⟩
  | true =>
  go_wp2_with fail
  refine (lsane_any A k cap L _ hk63 (HL.out.now hB2)).mono ?_
  rintro e w3 ⟨rfl, hb3⟩
  have hB3 := hB2.trans (hb3.mono hB2.size)
  clear hb3
  cases hsane : saneL L with
  | false =>
    go_wp2
    go_ret
    exact ⟨rfl, hB3⟩
  | true =>
  have HSANE := Lib.hid hsane
  clear hsane
  by_cases h2 : n < 0
  · go_wp2
    go_ret
    exact ⟨rfl, hB3⟩
  have d2 : decide (n < 0) = false := decide_eq_false h2
  by_cases h3 : 1152921504606846976 < n
  · go_wp2
    go_ret
    exact ⟨rfl, hB3⟩
  have d3 : decide (1152921504606846976 < n) = false := decide_eq_false h3
  by_cases h4 : i < -576460752303423488
  · go_wp2
    go_ret
    exact ⟨rfl, hB3⟩
  have d4 : decide (i < -576460752303423488) = false := decide_eq_false h4
  by_cases h5 : 576460752303423488 < i
  · go_wp2
    go_ret
    exact ⟨rfl, hB3⟩
  have d5 : decide (576460752303423488 < i) = false := decide_eq_false h5
  obtain ⟨a, rfl⟩ := Int.eq_ofNat_of_zero_le (show 0 ≤ n by omega)
  have ha : a ≤ 1152921504606846976 := by omega
  have hsz3 := hB3.size
  go_wp2_with fail
  refine (putU_any none 0 0 [] _ _ (by omega) (Bs.nil_ _ _ _)).mono ?_
  rintro e w4 ⟨⟨v4, rfl, hown4⟩, hb4⟩
  rw [show putU [] ((a : Nat) : Int) = encU a by unfold putU; rw [if_pos ⟨by omega, by omega⟩]; simp] at hown4
  obtain ⟨A4, K4, c4, rfl, hs4, hk4, hcm4⟩ := hown4.bs
  have el1 := Lib.hid (encU_length_le 8 a (pow_le a ha))
  have hl4 := hs4.len
  have hK4 : K4 ≤ 9 := by have := el1.out; omega
  have hs4 := Lib.hid hs4
  have hB4 : Below w.heap.size w w4 := (hB3.alloc hsz3 _).trans (hb4.mono (by simp; omega))
  clear hown4 hb4 hl4
  have hi59 : -576460752303423488 ≤ i ∧ i ≤ 576460752303423488 := by omega
  have HI := Lib.hid hi59
  clear hi59
  go_wp2_with fail
  refine (putI_any A4 K4 c4 (encU a) i _ (by omega) hs4.out).mono ?_
  rintro e w5 ⟨⟨v5, rfl, hown5⟩, hb5⟩
  rw [show putI (encU a) i = encU a ++ encU (encI i) by unfold putI; rw [if_pos HI.out]] at hown5
  obtain ⟨A5, K5, c5, rfl, hs5, hk5, hcm5⟩ := hown5.bs
  have el2 := Lib.hid (encU_length_le 8 (encI i) (pow_le _ (by have := HI.out; unfold encI; split <;> omega)))
  have hl5 := hs5.len
  rw [List.length_append] at hl5
  have hK5 : K5 ≤ 18 := by have := el1.out; have := el2.out; omega
  have hs5 := Lib.hid hs5
  have hB5 := hB4.trans (hb5.mono hB4.size)
  clear hown5 hb5 hl5 hs4
  go_wp2_with fail
  refine (putT_any A5 K5 c5 _ s _ (by omega) hs63 hs5.out).mono ?_
  rintro e w6 ⟨⟨v6, rfl, hown6⟩, hb6⟩
  rw [show addT (encU a ++ encU (encI i)) s = encU a ++ encU (encI i) ++ encU s.size ++ chs s by unfold addT; rw [if_pos (by omega)]] at hown6
  obtain ⟨A6, K6, c6, rfl, hs6, hk6, hcm6⟩ := hown6.bs
  have el3 := Lib.hid (encU_length_le 8 s.size (pow_le _ (by omega)))
  have hl6 := hs6.len
  simp only [List.length_append, chs_len] at hl6
  have hep := encU_pos a
  have hK6 : K6 ≤ 1027 ∧ 0 < K6 := by have := el1.out; have := el2.out; have := el3.out; omega
  have hs6 := Lib.hid hs6
  have hB6 := hB5.trans (hb6.mono hB5.size)
  clear hown6 hb6 hl6 hs5 hep
  go_wp2_with fail
  refine (putL_any A6 K6 c6 _ A k cap L _ (by omega) (by omega) (.inr hK6.2) hk63 hs6.out (HL.out.now hB6)).mono ?_
  rintro e w7 ⟨⟨v7, rfl, hown7⟩, hb7⟩
  rw [show okLab L = L by unfold okLab; rw [HSANE.out]; rfl] at hown7
  obtain ⟨A7, K7, c7, rfl, hs7, hk7, hcm7⟩ := hown7.bs
  have el4 := Lib.hid (labB_len L HSANE.out)
  have hl7 := hs7.len
  simp only [List.length_append, chs_len] at hl7
  have hK7 : K7 ≤ 5000 ∧ 0 < K7 := by have := el1.out; have := el2.out; have := el3.out; have := el4.out; have := encU_pos a; omega
  have hB7 := hB6.trans (hb7.mono hB6.size)
  have hsz7 := hB7.size
  have hs7 := Lib.hid hs7
  clear hown7 hb7 hs6 hcm7 hl7
  obtain ⟨T3, HT3⟩ : ∃ T, Hid (labB L ++ tl = T) := ⟨_, Lib.hid rfl⟩
  obtain ⟨T2, HT2⟩ : ∃ T, Hid (encU s.size ++ chs s ++ T3 = T) := ⟨_, Lib.hid rfl⟩
  obtain ⟨T1, HT1⟩ : ∃ T, Hid (encU (encI i) ++ T2 = T) := ⟨_, Lib.hid rfl⟩
  obtain ⟨T0, HT0⟩ : ∃ T, Hid (encU a ++ T1 = T) := ⟨_, Lib.hid rfl⟩
  have G0 := Lib.hid (show getU T0 = .ok (a, T1) by rw [← HT0.out]; exact getU_encU a T1 ha)
  have G1 := Lib.hid (show getI T1 = .ok (i, T2) by rw [← HT1.out]; exact getI_putI i T2 HI.out)
  have G2 := Lib.hid (show getT T2 = .ok (chs s, T3) by rw [← HT2.out]; exact getT_put s T3 (by omega))
  have G3 := Lib.hid (show getL T3 = .ok (L, tl) by rw [← HT3.out]; exact getL_put L tl HSANE.out)
  obtain ⟨PL, HPL⟩ : ∃ PL, Hid (encU a ++ encU (encI i) ++ encU s.size ++ chs s ++ labB L = PL) := ⟨_, Lib.hid rfl⟩
  have HPT := Lib.hid (show [] ++ PL ++ tl = T0 by rw [← HPL.out, ← HT0.out, ← HT1.out, ← HT2.out, ← HT3.out]; simp)
  rw [HPL.out] at hs7
  have hPLl := Lib.hid hs7.out.len
  go_wp2_with ((first
    | (refine wpList_append_clip1 (by rfl) (.tmp 61) (.tmp 69) 22 (by rfl) 5 Try.underlying22 infoU8 w3.heap.size 0 0 [] (by rfl) w7.heap.size ⟨rfl, Sl.zero _ _ _ _⟩ _ _ _ _ _ (by rfl) hs7.out hK7.2 (by omega) ?_; intro v8 w8 hown8 hgr8; have hO8 := Lib.hid hown8; have hB8 := hB7.grown hgr8 hsz7 (fun g e => by cases e); have hsz8 := hgr8.size; have hT8 := Lib.hid (HT.out.below hB8); clear hown8 hgr8)
    | (refine wpList_append_b (by rfl) (.tmp 71) (.tmp 72) 22 (by rfl) w7.heap.size 5 Try.underlying22 infoU8 _ _ (by rfl) hO8.out w.heap.size A0 k0 c0 tl (by rfl) hT8.out (by have := hPLl.out; simp; omega) hsz8 ?_; intro v9 w9 hown9 hgr9 _)))
  rw [HPT.out] at hown9
  have hB9 := hB8.grown hgr9 (by omega) (fun g e => by have := hO8.out.base_le g e; omega)
  obtain ⟨A9, K9, c9, rfl, hs9, hk9, hcm9⟩ := hown9.bs
  have hcm9' : c9 ≤ 9223372036854775807 := hcm9
  have hsz9 := hB9.size
  clear hgr9 hO8 hB8 hsz8 hT8 hown9 hcm9
  refine (getU_at _ A9 K9 c9 T0 _ (Nat.le_refl _) (by omega) hk9 hcm9' hs9).mono ?_
  rintro e wa ⟨hga, hba⟩
  rw [G0.out] at hga
  obtain ⟨Aa, Ka, ca, rfl, hsa, hka, hcma⟩ := hga
  have hsa := Lib.hid (hsa.more hba.size)
  have hBa := hB9.trans (hba.mono hB9.size)
  clear hs9 hba
  go_wp2_with fail
  refine (getI_at _ Aa Ka ca T1 _ (Nat.le_refl _) (by omega) hka hcma hsa.out).mono ?_
  rintro e wb ⟨hgb, hbb⟩
  rw [G1.out] at hgb
  obtain ⟨Ab, Kb, cb, rfl, hsb, hkb, hcmb⟩ := hgb
  have hsb := Lib.hid (hsb.more hbb.size)
  have hBb := hBa.trans (hbb.mono hBa.size)
  clear hsa hbb
  go_wp2_with fail
  refine (getT_at _ Ab Kb cb T2 _ (Nat.le_refl _) (by omega) hkb hcmb hsb.out).mono ?_
  rintro e wd ⟨hgd, hbd⟩
  rw [G2.out] at hgd
  obtain ⟨Ad, Kd, cd, rfl, hsd, hkd, hcmd⟩ := hgd
  rw [mk_chs]
  have hsd := Lib.hid (hsd.more hbd.size)
  have hBd := hBb.trans (hbd.mono hBb.size)
  clear hsb hbd
  go_wp2_with fail
  refine (getL_at _ Ad Kd cd T3 _ (Nat.le_refl _) (by omega) hkd hcmd hsd.out).mono ?_
  rintro e wf ⟨hgf, hbf⟩
  rw [G3.out] at hgf
  obtain ⟨Ap, Kp', cp, Af, Kf, cf, rfl, hpp, hkp, hcmp, h16p, hsf, hkf, hcmf⟩ := hgf
  have hsf := Lib.hid (hsf.more hbf.size)
  have hBf := hBd.trans (hbf.mono hBd.size)
  have hpp := Lib.hid hpp
  clear hsd hbf
  go_wp2_with fail
  refine (same_lab Ap Kp' cp L A k cap L _ (by omega) hk63 hpp.out (HL.out.now hBf)).mono ?_
  rintro e wg ⟨⟨q, rfl, hq⟩, hbg⟩
  obtain rfl := hq rfl
  have hBg := hBf.trans (hbg.mono hBf.size)
  have st1 : (convert 22 9 (.slice Af Kf cf)).run Try.prog wg = .ok (.string ⟨tl.toArray⟩) wg := run_str wg cf (hsf.out.now hbg)
  have st2 : (convert 22 9 (.slice A0 k0 c0)).run Try.prog wg = .ok (.string ⟨tl.toArray⟩) wg := run_str wg c0 (HT.out.now hBg)
  generalize (⟨tl.toArray⟩ : ByteArray) = tls at st1 st2
  clear hq hbg hsf hpp
  go_wp2
  go_ret
  exact ⟨rfl, hBg⟩
end Go.Proofs.Ytkkbncgnobaliaa
