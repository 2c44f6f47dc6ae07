/-
  FrameOnly's walk.
-/
import Derived.Test.YtkkbncgnobaliaaFrmC
import Derived.Test.YtkkbncgnobaliaaMid
import Derived.Laws.Concat
namespace Go.Proofs.Ytkkbncgnobaliaa
open Go.RowKit
open CodP
open CrcP
set_option linter.unusedVariables false
theorem cat_str (a b : List UInt8) : (⟨a.toArray⟩ : ByteArray) ++ ⟨b.toArray⟩ = ⟨(a ++ b).toArray⟩ := by
  apply ByteArray.ext; simp
theorem rws_of {w0 w' : World} {base : Nat} {v : Value} {vs : List Value} {ps : List (List UInt8)} (ho : Own1 w' base 22 id v vs) (hr : RowsB w0 vs ps) (hb : Below w0.heap.size w0 w') :
    ∃ A n c, v = .slice A n c ∧ Rws w' A n ps ∧ n ≤ c ∧ c ≤ 9223372036854775807 ∧ n = ps.length := by
  obtain ⟨A, n, c, rfl, hn, hs, h1, h2⟩ := ho.sl
  refine ⟨A, n, c, rfl, ⟨by rw [hn, hr.1], _, hs, fun i hi => ?_⟩, h1, by rw [maxLen_eq'] at h2; exact h2, by rw [hn, hr.1]⟩
  obtain ⟨A', n', c', e, b, r1, r2⟩ := hr.2 i (by rw [← hr.1, ← hn]; exact hi)
  refine ⟨A', n', c', by rw [e]; rfl, b.now hb, r1, r2⟩
set_option maxRecDepth 100000 in
set_option maxHeartbeats 3200000 in
theorem frameOnly_walk (w : World) (A : Option Addr) (n cap : Nat) (l : List UInt8) (hb : Bs w w.heap.size A n l) (hcap : n ≤ cap) (hm : cap ≤ 9223372036854775807) :
    Calls Try.prog 5 #[.slice A n cap] w fun e w' => e = .returned (.bool true) ∧ Below w.heap.size w w' := by
  have hHb := Lib.hid hb; clear hb
  go_enter Try.func5, Try.ntmps5
  go_wp2_with fail
  refine (fawake_any _).mono ?_
  rintro e w1 ⟨rfl, hb1⟩
  have HB1 := Lib.hid (hHb.out.now hb1)
  have hHl := Lib.hid hHb.out.len
  clear hHb
  by_cases hn : 1000 < n
  · go_wp2
    go_ret
    exact ⟨rfl, hb1⟩
  have dn : decide (1000 < n) = false := decide_eq_false hn
  go_wp2_with fail
  refine (fget_any A n cap l w1 (by omega) hcap hm HB1.out).mono ?_
  rintro e w2 ⟨hG, hb2⟩
  have hB2 := hb1.trans (hb2.mono hb1.size)
  have HB2 := Lib.hid (HB1.out.now hb2)
  clear dn
  cases hg : getF l with
  | error c =>
    rw [hg] at hG
    obtain rfl := hG
    have hc : ((c : Int) == 0) = false := beq_false_of_ne (by have := getF_err hg; omega)
    have hc2 : ((c : Int) != 0) = true := bne_iff_ne.2 (by have := getF_err hg; omega)
    clear hg hb2
    go_wp2_with fail
    refine wp_region_bel (by kernel_rfl) (by kernel_rfl) ?_
    repeat (
      refine WQ.step (fun KK hKK => ?_)
      go_simp
      refine hKK _ ?_; clear hKK KK)
    refine WQ.nil_ ?_
    rintro wq1 ⟨⟨wq, hq⟩, hwq⟩
    obtain rfl : wq = wq1 := hwq.symm
    clear hwq
    clear hc hc2
    have hb3 := hq
    clear hq
    generalize wq = wc at hb3 ⊢
    have HB3 := Lib.hid (HB2.out.now hb3)
    have hB3 := hB2.trans (hb3.mono hB2.size)
    clear hb3 HB2 hB2
    go_wp2_with fail
    refine (all_any A n cap l wc (by omega) hcap hm HB3.out).mono ?_
    rintro e w5 ⟨hGA, hb5⟩
    obtain ⟨ha1, ha2⟩ := allF_recs l.length l (Nat.le_refl _)
    obtain ⟨-, ha3⟩ := allF_small l.length l (Nat.le_refl _) _ rfl
    generalize hx : allF l = x at hGA ha1 ha2 ha3
    obtain ⟨ps, q, c⟩ := x
    obtain ⟨v5, vs, rfl, hown5, hrows⟩ := hGA
    simp only at ha1 ha2 ha3 hrows
    obtain ⟨A5, n5, c5, rfl, hR5, h51, h52, hn5⟩ := rws_of hown5 hrows hb5
    have HR5 := Lib.hid hR5
    have hB5 := hB3.trans (hb5.mono hB3.size)
    have HB5 := Lib.hid (HB3.out.now hb5)
    have hlen : (recs ps).length + q.length = n := by have := congrArg List.length ha1; rw [List.length_append, hHl.out] at this; exact this
    have hcnt : n5 ≤ n := by omega
    have htake : l.take (n - q.length) = recs ps := by rw [← ha1, show n - q.length = (recs ps).length by omega, List.take_left]
    have hql : q.length ≤ n := by omega
    have hq0 : q.length = 0 ↔ c = 0 := by rw [ha2]; exact List.length_eq_zero_iff
    have hqn : c = 0 ↔ n - q.length = n := by omega
    generalize n - q.length = nq at htake hqn ⊢
    have hnq : nq ≤ n := by
      rcases Nat.lt_or_ge n nq with h | h
      · exfalso
        have h1 := congrArg List.length htake
        rw [List.length_take, hHl.out] at h1
        omega
      · exact h
    clear hq0 hql hlen ha1 ha2 ha3 hx hown5 hrows hR5 hn5
    have RC := Lib.hid (show ∀ W', Below w5.heap.size w5 W' → Calls Try.prog 25 #[.slice A5 n5 c5] W' fun e w' => (∃ v, e = .returned v ∧ OwnB w' W'.heap.size 5 v (recs ps)) ∧ Below W'.heap.size W' w' from fun W' hW => recs_any A5 n5 c5 ps W' (by omega) (HR5.out.now hW))
    have sc : ∀ w, (Instr.slice 22 (.slice A n cap) none (some (.int .i64 (nq : Int))) none).run Try.prog w = .ok (.slice A nq cap) w := run_cut_hi Try.underlying22 1 sizeU8 A n cap nq (by omega)
    have st2 : ∀ p : Bel w5, (convert 22 9 (.slice A nq cap)).run Try.prog p.now = .ok (.string ⟨(recs ps).toArray⟩) p.now := fun p => by
      have := run_str p.now cap ((HB5.out.now p.bel).hi hnq)
      rwa [htake] at this
    have HX := Lib.hid (show ∀ W' (A9 : Option Addr) (n9 c9 : Nat), Bs W' W'.heap.size A9 n9 (recs ps) → (convert 22 9 (.slice A9 n9 c9)).run Try.prog W' = .ok (.string ⟨(recs ps).toArray⟩) W' from fun W' A9 n9 c9 h => run_str W' c9 h)
    generalize (⟨(recs ps).toArray⟩ : ByteArray) = sp at HX st2
    clear htake HB5 HR5
    have HN := Lib.hid hqn
    have hmi : (nq : Int) ≤ (n : Int) := by omega
    have hm0 : (0 : Int) ≤ (nq : Int) := by omega
    have hcc : ∃ b, ((c : Int) == 0) = b ∧ ((nq : Int) == (n : Int)) = b := by
      by_cases h : c = 0
      · refine ⟨true, by rw [h]; rfl, ?_⟩
        rw [hqn.1 h]; simp
      · exact ⟨false, beq_false_of_ne (by omega), beq_false_of_ne (by have : nq ≠ n := fun e => h (hqn.2 e); omega)⟩
    obtain ⟨b, hcb, hnb⟩ := hcc
    clear hqn hB3 hb5
    go_wp2_with fail
    refine wp_region_mid [0, 1, 2, 3, 4, 5, 6, 7, 8, 9, 10, 11, 12, 15, 16, 17, 18] 13 [14, 19, 20, 21, 22, 23, 24, 25, 26, 27, 28, 29, 30] _ (by rfl) (by kernel_rfl) (by kernel_rfl) (fun _ _ dd _ _ h => by cases dd <;> exact h) ?_
    repeat (
      refine TK.step (by rfl) (fun KK hKK => ?_)
      go_simp
      refine hKK _ ?_; clear hKK KK)
    refine TK.nil_ ?_
    intro KM hKM
    go_simp
    go_at_call 25; refine (RC.out _ (Below.refl _ _).drew).mono ?_; rintro e wd ⟨⟨v9, rfl, hown9⟩, hb'⟩; obtain ⟨A9, n9, c9, rfl, hs9, -, -⟩ := hown9.bs; have st9 := HX.out wd A9 n9 c9 hs9
    refine hKM _ _ ((Below.refl _ _).drew.trans hb') ?_
    clear hKM KM
    repeat (
      refine TK.step (by rfl) (fun KK hKK => ?_)
      go_simp
      refine hKK _ ?_; clear hKK KK)
    refine TK.nil_ ?_
    have hb6 : Below w5.heap.size w5 wd := (Below.refl _ _).drew.trans hb'
    go_wp2
    go_ret
    exact ⟨rfl, hB5.trans (hb6.mono hB5.size)⟩
  | ok pr =>
    obtain ⟨p, r⟩ := pr
    rw [hg] at hG
    obtain ⟨hl, hpl⟩ := getF_ok hg
    obtain ⟨A1, n1, c1, A2, n2, c2, rfl, hp, hr, x1, x2, x3, x4⟩ := hG
    have HP := Lib.hid (hp.more hb2.size)
    have HR := Lib.hid (hr.more hb2.size)
    have hpl2 := hp.len
    have SC := Lib.hid (show ∀ W', Below w2.heap.size w2 W' → Calls Try.prog 22 #[.slice none 0 0, .slice A1 n1 c1] W' fun e w' => (∃ v, e = .returned v ∧ OwnB w' W'.heap.size 5 v (recd p)) ∧ Below W'.heap.size W' w' from fun W' hW => by
      have := fput_any none 0 0 [] A1 n1 c1 p W' (by omega) (by omega) (Bs.nil_ _ _ _) (HP.out.now hW)
      rw [putF_yes hpl] at this
      exact this)
    have st1 : ∀ p : Bel w2, (convert 22 9 (.slice A2 n2 c2)).run Try.prog p.now = .ok (.string ⟨r.toArray⟩) p.now := fun p => run_str p.now c2 (HR.out.now p.bel)
    have st2 : ∀ p : Bel w2, (convert 22 9 (.slice A n cap)).run Try.prog p.now = .ok (.string ⟨l.toArray⟩) p.now := fun p => run_str p.now cap (HB2.out.now p.bel)
    have hadd : ∀ W, (Op.stringOp .add (⟨(recd p).toArray⟩ : ByteArray) ⟨r.toArray⟩).run Try.prog W = .ok (.string ⟨l.toArray⟩) W := fun W => by
      rw [run_string_add_sum, cat_str, ← hl]
      have h1 := congrArg List.length hl
      rw [List.length_append, hHl.out] at h1
      show (recd p).toArray.size + r.toArray.size ≤ _
      simp; omega
    generalize (⟨r.toArray⟩ : ByteArray) = sr at st1 hadd
    generalize (⟨l.toArray⟩ : ByteArray) = sl at st2 hadd
    have HX := Lib.hid (show ∀ W' (A9 : Option Addr) (n9 c9 : Nat), Bs W' W'.heap.size A9 n9 (recd p) → (convert 22 9 (.slice A9 n9 c9)).run Try.prog W' = .ok (.string ⟨(recd p).toArray⟩) W' from fun W' A9 n9 c9 h => run_str W' c9 h)
    generalize (⟨(recd p).toArray⟩ : ByteArray) = sp at HX hadd
    clear hg hb2 hp hr hl hpl hpl2
    go_wp2_with fail
    refine wp_region_mid [0, 1, 2, 3, 6, 7, 9, 10] 4 [5, 8, 11, 12, 13, 14, 15, 16, 17, 18, 19, 20, 21, 22, 23, 24] _ (by rfl) (by kernel_rfl) (by kernel_rfl) (fun _ _ dd _ _ h => by cases dd <;> exact h) ?_
    repeat (
      refine TK.step (by rfl) (fun KK hKK => ?_)
      go_simp
      refine hKK _ ?_; clear hKK KK)
    refine TK.nil_ ?_
    intro KM hKM
    go_simp
    go_at_call 22; refine (SC.out _ (Below.refl _ _).drew).mono ?_; rintro e wc ⟨⟨v9, rfl, hown9⟩, hb'⟩; obtain ⟨A9, n9, c9, rfl, hs9, -, -⟩ := hown9.bs; have st9 := HX.out wc A9 n9 c9 hs9
    refine hKM _ _ ((Below.refl _ _).drew.trans hb') ?_
    clear hKM KM
    repeat (
      refine TK.step (by rfl) (fun KK hKK => ?_)
      go_simp
      refine hKK _ ?_; clear hKK KK)
    refine TK.nil_ ?_
    have hb3 : Below w2.heap.size w2 wc := (Below.refl _ _).drew.trans hb'
    clear SC st1 st2 hadd HX HP HR x1 x2 x3 x4 st9 hb' hown9 hs9
    have HB3 := Lib.hid (HB2.out.now hb3)
    have hB3 := hB2.trans (hb3.mono hB2.size)
    clear hb3 HB2 hB2
    go_wp2_with fail
    refine (all_any A n cap l wc (by omega) hcap hm HB3.out).mono ?_
    rintro e w5 ⟨hGA, hb5⟩
    obtain ⟨ha1, ha2⟩ := allF_recs l.length l (Nat.le_refl _)
    obtain ⟨-, ha3⟩ := allF_small l.length l (Nat.le_refl _) _ rfl
    generalize hx : allF l = x at hGA ha1 ha2 ha3
    obtain ⟨ps, q, c⟩ := x
    obtain ⟨v5, vs, rfl, hown5, hrows⟩ := hGA
    simp only at ha1 ha2 ha3 hrows
    obtain ⟨A5, n5, c5, rfl, hR5, h51, h52, hn5⟩ := rws_of hown5 hrows hb5
    have HR5 := Lib.hid hR5
    have hB5 := hB3.trans (hb5.mono hB3.size)
    have HB5 := Lib.hid (HB3.out.now hb5)
    have hlen : (recs ps).length + q.length = n := by have := congrArg List.length ha1; rw [List.length_append, hHl.out] at this; exact this
    have hcnt : n5 ≤ n := by omega
    have htake : l.take (n - q.length) = recs ps := by rw [← ha1, show n - q.length = (recs ps).length by omega, List.take_left]
    have hql : q.length ≤ n := by omega
    have hq0 : q.length = 0 ↔ c = 0 := by rw [ha2]; exact List.length_eq_zero_iff
    have hqn : c = 0 ↔ n - q.length = n := by omega
    generalize n - q.length = nq at htake hqn ⊢
    have hnq : nq ≤ n := by
      rcases Nat.lt_or_ge n nq with h | h
      · exfalso
        have h1 := congrArg List.length htake
        rw [List.length_take, hHl.out] at h1
        omega
      · exact h
    clear hq0 hql hlen ha1 ha2 ha3 hx hown5 hrows hR5 hn5
    have RC := Lib.hid (show ∀ W', Below w5.heap.size w5 W' → Calls Try.prog 25 #[.slice A5 n5 c5] W' fun e w' => (∃ v, e = .returned v ∧ OwnB w' W'.heap.size 5 v (recs ps)) ∧ Below W'.heap.size W' w' from fun W' hW => recs_any A5 n5 c5 ps W' (by omega) (HR5.out.now hW))
    have sc : ∀ w, (Instr.slice 22 (.slice A n cap) none (some (.int .i64 (nq : Int))) none).run Try.prog w = .ok (.slice A nq cap) w := run_cut_hi Try.underlying22 1 sizeU8 A n cap nq (by omega)
    have st2 : ∀ p : Bel w5, (convert 22 9 (.slice A nq cap)).run Try.prog p.now = .ok (.string ⟨(recs ps).toArray⟩) p.now := fun p => by
      have := run_str p.now cap ((HB5.out.now p.bel).hi hnq)
      rwa [htake] at this
    have HX := Lib.hid (show ∀ W' (A9 : Option Addr) (n9 c9 : Nat), Bs W' W'.heap.size A9 n9 (recs ps) → (convert 22 9 (.slice A9 n9 c9)).run Try.prog W' = .ok (.string ⟨(recs ps).toArray⟩) W' from fun W' A9 n9 c9 h => run_str W' c9 h)
    generalize (⟨(recs ps).toArray⟩ : ByteArray) = sp at HX st2
    clear htake HB5 HR5
    have HN := Lib.hid hqn
    have hmi : (nq : Int) ≤ (n : Int) := by omega
    have hm0 : (0 : Int) ≤ (nq : Int) := by omega
    have hcc : ∃ b, ((c : Int) == 0) = b ∧ ((nq : Int) == (n : Int)) = b := by
      by_cases h : c = 0
      · refine ⟨true, by rw [h]; rfl, ?_⟩
        rw [hqn.1 h]; simp
      · exact ⟨false, beq_false_of_ne (by omega), beq_false_of_ne (by have : nq ≠ n := fun e => h (hqn.2 e); omega)⟩
    obtain ⟨b, hcb, hnb⟩ := hcc
    clear hqn hB3 hb5
    go_wp2_with fail
    refine wp_region_mid [0, 1, 2, 3, 4, 5, 6, 7, 8, 9, 10, 11, 12, 15, 16, 17, 18] 13 [14, 19, 20, 21, 22, 23, 24, 25, 26, 27, 28, 29, 30] _ (by rfl) (by kernel_rfl) (by kernel_rfl) (fun _ _ dd _ _ h => by cases dd <;> exact h) ?_
    repeat (
      refine TK.step (by rfl) (fun KK hKK => ?_)
      go_simp
      refine hKK _ ?_; clear hKK KK)
    refine TK.nil_ ?_
    intro KM hKM
    go_simp
    go_at_call 25; refine (RC.out _ (Below.refl _ _).drew).mono ?_; rintro e wd ⟨⟨v9, rfl, hown9⟩, hb'⟩; obtain ⟨A9, n9, c9, rfl, hs9, -, -⟩ := hown9.bs; have st9 := HX.out wd A9 n9 c9 hs9
    refine hKM _ _ ((Below.refl _ _).drew.trans hb') ?_
    clear hKM KM
    repeat (
      refine TK.step (by rfl) (fun KK hKK => ?_)
      go_simp
      refine hKK _ ?_; clear hKK KK)
    refine TK.nil_ ?_
    have hb6 : Below w5.heap.size w5 wd := (Below.refl _ _).drew.trans hb'
    go_wp2
    go_ret
    exact ⟨rfl, hB5.trans (hb6.mono hB5.size)⟩
end Go.Proofs.Ytkkbncgnobaliaa
