/-
  The law QueueBack.
-/
import Derived.Test.YtkkbncgnobaliaaQueA
import Derived.Test.YtkkbncgnobaliaaQueO
namespace Go.Proofs.Ytkkbncgnobaliaa
open Go.RowKit
open CodP
set_option linter.unusedVariables false
set_option maxRecDepth 100000 in
set_option maxHeartbeats 12800000 in
theorem queueBack_walk (w : World) (nv : Value) (on : IsNote w nv) (A0 : Option Addr) (k0 c0 : Nat) (b : List UInt8) (hbt : Bs w w.heap.size A0 k0 b) (hk0 : k0 ≤ c0) (hc0 : c0 ≤ 9223372036854775807) (cut : Int) (hcut1 : -9223372036854775808 ≤ cut) (hcut2 : cut ≤ 9223372036854775807) :
    Calls Try.prog 18 #[nv, .slice A0 k0 c0, .int .i64 cut] w fun e w' => e = .returned (.bool true) ∧ Below w.heap.size w w' := by
  obtain ⟨⟨A, n, c, L, f, t, k, x⟩, rfl, hy⟩ := on
  have HY := Lib.hid hy; clear hy
  have hnc : n ≤ c ∧ c ≤ 9223372036854775807 := HY.out.cap
  have hn63 : n ≤ 9223372036854775807 := by omega
  have HT := Lib.hid hbt; clear hbt
  obtain ⟨mk, hmask, hmk⟩ := and_mask cut 65535 (by omega)
  have hmask : bits .and .i64 cut 65535 = (mk : Int) := hmask
  simp only [Nt.val]
  have hB0 : Below w.heap.size w (w.alloc (.cells #[.slice A n c, .bool f, .int .i64 t, .int .i64 k, .int .i64 x] 80)) := (Below.refl _ _).alloc (Nat.le_refl _) _
  have g0 := Blk.new w 80 #[.slice A n c, .bool f, .int .i64 t, .int .i64 k, .int .i64 x]
  go_enter Try.func18, Try.ntmps18
  go_wp2_with fail
  refine (qawake_any _).mono ?_
  rintro e w1 ⟨rfl, hb1⟩
  have g1 := g0.below hb1 g0.lt
  have hB1 := hB0.trans (hb1.mono hB0.size)
  have x0 : w1.cell? ⟨w.heap.size, 0, none⟩ = some (.slice A n c) := g1.cell 0
  clear hb1 g0 hB0
  go_wp2_with fail
  refine (few_lab A n c L _ hn63 (HY.out.prs.now hB1)).mono ?_
  rintro e w2 ⟨⟨q, rfl, -⟩, hb2⟩
  have g2 := g1.below hb2 g1.lt
  have hB2 := hB1.trans (hb2.mono hB1.size)
  clear hb2 g1 x0 hB1
  cases q with
  | false =>
    go_wp2
    go_ret
    exact ⟨rfl, hB2⟩
  | true =>
  by_cases h2000 : 2000 < k0
  · go_wp2
    go_ret
    exact ⟨rfl, hB2⟩
  have d2000 : decide (2000 < k0) = false := decide_eq_false h2000
  go_wp2_with fail
  refine (qget_any A0 k0 c0 b _ (by omega) hk0 hc0 (HT.out.now hB2)).mono ?_
  rintro e w3 ⟨hg3, hb3⟩
  have g3 := g2.below hb3 g2.lt
  have hB3 := hB2.trans (hb3.mono hB2.size)
  have hsz3 := hB3.size
  clear hb3 g2
  have HB3 := Lib.hid (HT.out.now hB3)
  cases hG : getN b with
  | error e =>
    rw [hG] at hg3
    obtain ⟨rfl, he1⟩ := hg3
    have e0 : ((e : Int) == 0) = false := beq_false_of_ne (by omega)
    have e1 : ((e : Int) != 0) = true := bne_iff_ne.2 (by omega)
    clear hG
    go_wp2_with fail
    refine wp_region_bel (by kernel_rfl) (by kernel_rfl) ?_
    repeat (
      refine WQ.step (fun KK hKK => ?_)
      go_simp
      refine hKK _ ?_; clear hKK KK)
    refine WQ.nil_ ?_
    rintro wq1 ⟨⟨wq, hq⟩, hwq⟩
    obtain rfl : wq = wq1 := hwq.symm
    clear hwq
    have hbq : Below w3.heap.size w3 wq := hq
    clear hq
    have gq := g3.below hbq g3.lt
    have hBq := hB3.trans (hbq.mono hsz3)
    have x0 : wq.cell? ⟨w.heap.size, 0, none⟩ = some (.slice A n c) := gq.cell 0
    have x1 : wq.cell? ⟨w.heap.size, 1, none⟩ = some (.bool f) := gq.cell 1
    have x2 : wq.cell? ⟨w.heap.size, 2, none⟩ = some (.int .i64 t) := gq.cell 2
    have x3 : wq.cell? ⟨w.heap.size, 3, none⟩ = some (.int .i64 k) := gq.cell 3
    have x4 : wq.cell? ⟨w.heap.size, 4, none⟩ = some (.int .i64 x) := gq.cell 4
    clear hbq
    go_wp2_with fail
    refine (qput_any ⟨A, n, c, L, f, t, k, x⟩ _ (HY.out.now hBq)).mono ?_
    rintro e w5 ⟨⟨v5, rfl, hown5⟩, hb5⟩
    obtain ⟨A5, n5, c5, rfl, hs5, hc5, hm5⟩ := hown5.bs
    have hm5' : c5 ≤ 9223372036854775807 := hm5
    have hs5 : Bs w5 w5.heap.size A5 n5 (putN L f t) := hs5
    have hl5 := hs5.len
    have hs5 := Lib.hid hs5
    have hB5 := hBq.trans (hb5.mono hBq.size)
    have g5 := gq.below hb5 gq.lt
    have y0 : w5.cell? ⟨w.heap.size, 0, none⟩ = some (.slice A n c) := g5.cell 0
    clear hb5 hown5 x0 x1 x2 x3 x4 gq hm5
    go_wp2_with fail
    refine (lsane_any A n c L _ hn63 (HY.out.prs.now hB5)).mono ?_
    rintro e w6 ⟨rfl, hb6⟩
    have hB6 := hB5.trans (hb6.mono hB5.size)
    have g6 := g5.below hb6 g5.lt
    have z0 : w6.cell? ⟨w.heap.size, 0, none⟩ = some (.slice A n c) := g6.cell 0
    have z1 : w6.cell? ⟨w.heap.size, 1, none⟩ = some (.bool f) := g6.cell 1
    have z2 : w6.cell? ⟨w.heap.size, 2, none⟩ = some (.int .i64 t) := g6.cell 2
    have hs6 := Lib.hid (hs5.out.now hb6)
    clear hb6 y0 g5 hs5 hBq
    cases hsane : saneL L with
    | false =>
      obtain rfl : n5 = 0 := by rw [← hl5]; unfold putN; rw [hsane]; simp
      clear hl5
      go_wp2
      go_ret
      exact ⟨rfl, hB6⟩
    | true =>
    have HSANE := Lib.hid hsane
    clear hsane
    by_cases t0 : t < 0
    · obtain rfl : n5 = 0 := by rw [← hl5]; unfold putN; rw [if_neg (by rw [timeB_iff]; omega)]; rfl
      clear hl5
      go_wp2
      go_ret
      exact ⟨rfl, hB6⟩
    have dt0 : decide (t < 0) = false := decide_eq_false t0
    by_cases t1 : 9007199254740992 < t
    · obtain rfl : n5 = 0 := by rw [← hl5]; unfold putN; rw [if_neg (by rw [timeB_iff]; omega)]; rfl
      clear hl5
      go_wp2
      go_ret
      exact ⟨rfl, hB6⟩
    have dt1 : decide (9007199254740992 < t) = false := decide_eq_false t1
    obtain ⟨u, rfl⟩ := Int.eq_ofNat_of_zero_le (show 0 ≤ t by omega)
    have htb : timeB (u : Int) = true := timeB_iff.2 (by omega)
    obtain ⟨hp1, hp2⟩ := putN_pos L f u HSANE.out htb
    have hGP := Lib.hid (get_put L f u HSANE.out htb)
    have hGC := Lib.hid (get_cut L f u HSANE.out htb)
    obtain ⟨P, HP⟩ : ∃ P, Hid (putN L f (u : Int) = P) := ⟨_, Lib.hid rfl⟩
    rw [HP.out] at hl5 hs6 hGP hGC hp1 hp2
    have n50 : 0 < n5 := by omega
    have n5b : n5 ≤ 4010 := by omega
    have en5 : ((n5 : Int) == 0) = false := beq_false_of_ne (by omega)
    have HL5 := Lib.hid hl5
    clear htb hl5 hp1 hp2
    go_wp2_with fail
    refine (qget_any A5 n5 c5 P _ (by omega) hc5 hm5' hs6.out).mono ?_
    rintro e w7 ⟨hg7, hb7⟩
    rw [hGP.out] at hg7
    obtain ⟨A7, n7, c7, rfl, hp7, hc7, hm7⟩ := hg7
    have hB7 := hB6.trans (hb7.mono hB6.size)
    have g7 := g6.below hb7 g6.lt
    have hs7 := Lib.hid (hs6.out.now hb7)
    have hp7 := Lib.hid hp7
    clear hb7 g6 hs6 z0 z1 z2 hB5 hB6
    obtain ⟨r, hr⟩ : ∃ r, mk % n5 = r := ⟨_, rfl⟩
    have hr2 : r < n5 := by rw [← hr]; exact Nat.mod_lt _ n50
    have hrem : (mk : Int).tmod (n5 : Int) = (r : Int) := by rw [← hr]; rfl
    have hrem2 : (mk : Int) % (n5 : Int) = (r : Int) := by rw [← hr]; rfl
    have hnz : ((n5 : Int) = 0) = False := by simp; omega
    have s1 : ∀ W, (Instr.slice 22 (.slice A5 n5 c5) none (some (.int .i64 (r : Int))) none).run Try.prog W = .ok (.slice A5 r c5) W := run_cut_hi Try.underlying22 1 sizeU8 A5 n5 c5 r (by omega)
    have HR := Lib.hid hr
    clear hr
    go_wp2_with fail
    refine (qget_any A5 r c5 (P.take r) _ (by omega) (by omega) hm5' (hs7.out.hi (by omega))).mono ?_
    rintro e w8 ⟨hg8, hb8⟩
    rw [hGC.out r (by rw [HL5.out]; exact hr2)] at hg8
    obtain ⟨rfl, -⟩ := hg8
    have hB8 := hB7.trans (hb8.mono hB7.size)
    have g8 := g7.below hb8 g7.lt
    have hp8 := Lib.hid (hp7.out.now hb8)
    have z0 : w8.cell? ⟨w.heap.size, 0, none⟩ = some (.slice A n c) := g8.cell 0
    clear hb8 g7 hs7 hp7 hB7
    go_wp2_with fail
    refine (same_lab A7 n7 c7 L A n c L _ (by omega) hn63 hp8.out (HY.out.prs.now hB8)).mono ?_
    rintro e w9 ⟨⟨q9, rfl, hq9⟩, hb9⟩
    obtain rfl := hq9 rfl
    have hB9 := hB8.trans (hb9.mono hB8.size)
    have g9 := g8.below hb9 g8.lt
    have y1 : w9.cell? ⟨w.heap.size, 1, none⟩ = some (.bool f) := g9.cell 1
    have y2 : w9.cell? ⟨w.heap.size, 2, none⟩ = some (.int .i64 (u : Int)) := g9.cell 2
    clear hb9 g8 hp8 z0 hB8 hq9 g9
    go_wp2
    all_goals first
      | (go_ret; exact ⟨rfl, hB9⟩)
      | (exfalso; simp at *; done)
  | ok q =>
    obtain ⟨L3, f3, t3⟩ := q
    rw [hG] at hg3
    obtain ⟨A3, n3, c3, rfl, hp3, hc3, hm3⟩ := hg3
    obtain ⟨hs3, ht3, hb⟩ := get_was hG
    clear hG
    have HP3 := Lib.hid hp3; clear hp3
    have HBE := Lib.hid hb; clear hb
    have SC := Lib.hid (show ∀ W', Below w3.heap.size w3 W' → Calls Try.prog 56 #[.agg #[.slice A3 n3 c3, .bool f3, .int .i64 (t3 : Int), .int .i64 0, .int .i64 0]] W' fun e w' => (∃ v, e = .returned v ∧ OwnB w' W'.heap.size 5 v b) ∧ Below W'.heap.size W' w' from fun W' hW => by
      have := qput_any ⟨A3, n3, c3, L3, f3, (t3 : Int), 0, 0⟩ W' ⟨HP3.out.now hW, hc3, hm3⟩
      simp only at this
      rw [← HBE.out] at this
      exact this)
    have HX1 := Lib.hid (show ∀ W' (A9 : Option Addr) (n9 c9 : Nat), Bs W' W'.heap.size A9 n9 b → (convert 22 9 (.slice A9 n9 c9)).run Try.prog W' = .ok (.string ⟨b.toArray⟩) W' from fun W' A9 n9 c9 h => run_str W' c9 h)
    have st2 : ∀ p : Bel w3, (convert 22 9 (.slice A0 k0 c0)).run Try.prog p.now = .ok (.string ⟨b.toArray⟩) p.now := fun p => run_str p.now c0 (HB3.out.now p.bel)
    generalize (⟨b.toArray⟩ : ByteArray) = sb at HX1 st2
    go_wp2_with fail
    refine wp_region_mid [0, 1, 2, 3, 4, 5, 6, 9, 10] 7 [8, 11, 12, 13, 14, 15, 16, 17, 18, 19, 20, 21, 22, 23, 24, 25, 26, 27, 28] _ (by rfl) (by kernel_rfl) (by kernel_rfl) (fun _ _ dd _ _ h => by cases dd <;> exact h) ?_
    repeat (
      refine TK.step (by rfl) (fun KK hKK => ?_)
      go_simp
      refine hKK _ ?_; clear hKK KK)
    refine TK.nil_ ?_
    intro KM hKM
    go_simp
    go_at_call 56; refine (SC.out _ (Below.refl _ _).drew).mono ?_; rintro e wq ⟨⟨v9, rfl, hown9⟩, hb'⟩; obtain ⟨A9, n9, c9, rfl, hs9, -, -⟩ := hown9.bs; have st9 := HX1.out wq A9 n9 c9 hs9
    refine hKM _ _ ((Below.refl _ _).drew.trans hb') ?_
    clear hKM KM
    repeat (
      refine TK.step (by rfl) (fun KK hKK => ?_)
      go_simp
      refine hKK _ ?_; clear hKK KK)
    refine TK.nil_ ?_
    have hbq : Below w3.heap.size w3 wq := (Below.refl _ _).drew.trans hb'
    clear st9 st2 hb' hown9 hs9
    have gq := g3.below hbq g3.lt
    have hBq := hB3.trans (hbq.mono hsz3)
    have x0 : wq.cell? ⟨w.heap.size, 0, none⟩ = some (.slice A n c) := gq.cell 0
    have x1 : wq.cell? ⟨w.heap.size, 1, none⟩ = some (.bool f) := gq.cell 1
    have x2 : wq.cell? ⟨w.heap.size, 2, none⟩ = some (.int .i64 t) := gq.cell 2
    have x3 : wq.cell? ⟨w.heap.size, 3, none⟩ = some (.int .i64 k) := gq.cell 3
    have x4 : wq.cell? ⟨w.heap.size, 4, none⟩ = some (.int .i64 x) := gq.cell 4
    clear hbq
    go_wp2_with fail
    refine (qput_any ⟨A, n, c, L, f, t, k, x⟩ _ (HY.out.now hBq)).mono ?_
    rintro e w5 ⟨⟨v5, rfl, hown5⟩, hb5⟩
    obtain ⟨A5, n5, c5, rfl, hs5, hc5, hm5⟩ := hown5.bs
    have hm5' : c5 ≤ 9223372036854775807 := hm5
    have hs5 : Bs w5 w5.heap.size A5 n5 (putN L f t) := hs5
    have hl5 := hs5.len
    have hs5 := Lib.hid hs5
    have hB5 := hBq.trans (hb5.mono hBq.size)
    have g5 := gq.below hb5 gq.lt
    have y0 : w5.cell? ⟨w.heap.size, 0, none⟩ = some (.slice A n c) := g5.cell 0
    clear hb5 hown5 x0 x1 x2 x3 x4 gq hm5
    go_wp2_with fail
    refine (lsane_any A n c L _ hn63 (HY.out.prs.now hB5)).mono ?_
    rintro e w6 ⟨rfl, hb6⟩
    have hB6 := hB5.trans (hb6.mono hB5.size)
    have g6 := g5.below hb6 g5.lt
    have z0 : w6.cell? ⟨w.heap.size, 0, none⟩ = some (.slice A n c) := g6.cell 0
    have z1 : w6.cell? ⟨w.heap.size, 1, none⟩ = some (.bool f) := g6.cell 1
    have z2 : w6.cell? ⟨w.heap.size, 2, none⟩ = some (.int .i64 t) := g6.cell 2
    have hs6 := Lib.hid (hs5.out.now hb6)
    clear hb6 y0 g5 hs5 hBq
    cases hsane : saneL L with
    | false =>
      obtain rfl : n5 = 0 := by rw [← hl5]; unfold putN; rw [hsane]; simp
      clear hl5
      go_wp2
      go_ret
      exact ⟨rfl, hB6⟩
    | true =>
    have HSANE := Lib.hid hsane
    clear hsane
    by_cases t0 : t < 0
    · obtain rfl : n5 = 0 := by rw [← hl5]; unfold putN; rw [if_neg (by rw [timeB_iff]; omega)]; rfl
      clear hl5
      go_wp2
      go_ret
      exact ⟨rfl, hB6⟩
    have dt0 : decide (t < 0) = false := decide_eq_false t0
    by_cases t1 : 9007199254740992 < t
    · obtain rfl : n5 = 0 := by rw [← hl5]; unfold putN; rw [if_neg (by rw [timeB_iff]; omega)]; rfl
      clear hl5
      go_wp2
      go_ret
      exact ⟨rfl, hB6⟩
    have dt1 : decide (9007199254740992 < t) = false := decide_eq_false t1
    obtain ⟨u, rfl⟩ := Int.eq_ofNat_of_zero_le (show 0 ≤ t by omega)
    have htb : timeB (u : Int) = true := timeB_iff.2 (by omega)
    obtain ⟨hp1, hp2⟩ := putN_pos L f u HSANE.out htb
    have hGP := Lib.hid (get_put L f u HSANE.out htb)
    have hGC := Lib.hid (get_cut L f u HSANE.out htb)
    obtain ⟨P, HP⟩ : ∃ P, Hid (putN L f (u : Int) = P) := ⟨_, Lib.hid rfl⟩
    rw [HP.out] at hl5 hs6 hGP hGC hp1 hp2
    have n50 : 0 < n5 := by omega
    have n5b : n5 ≤ 4010 := by omega
    have en5 : ((n5 : Int) == 0) = false := beq_false_of_ne (by omega)
    have HL5 := Lib.hid hl5
    clear htb hl5 hp1 hp2
    go_wp2_with fail
    refine (qget_any A5 n5 c5 P _ (by omega) hc5 hm5' hs6.out).mono ?_
    rintro e w7 ⟨hg7, hb7⟩
    rw [hGP.out] at hg7
    obtain ⟨A7, n7, c7, rfl, hp7, hc7, hm7⟩ := hg7
    have hB7 := hB6.trans (hb7.mono hB6.size)
    have g7 := g6.below hb7 g6.lt
    have hs7 := Lib.hid (hs6.out.now hb7)
    have hp7 := Lib.hid hp7
    clear hb7 g6 hs6 z0 z1 z2 hB5 hB6
    obtain ⟨r, hr⟩ : ∃ r, mk % n5 = r := ⟨_, rfl⟩
    have hr2 : r < n5 := by rw [← hr]; exact Nat.mod_lt _ n50
    have hrem : (mk : Int).tmod (n5 : Int) = (r : Int) := by rw [← hr]; rfl
    have hrem2 : (mk : Int) % (n5 : Int) = (r : Int) := by rw [← hr]; rfl
    have hnz : ((n5 : Int) = 0) = False := by simp; omega
    have s1 : ∀ W, (Instr.slice 22 (.slice A5 n5 c5) none (some (.int .i64 (r : Int))) none).run Try.prog W = .ok (.slice A5 r c5) W := run_cut_hi Try.underlying22 1 sizeU8 A5 n5 c5 r (by omega)
    have HR := Lib.hid hr
    clear hr
    go_wp2_with fail
    refine (qget_any A5 r c5 (P.take r) _ (by omega) (by omega) hm5' (hs7.out.hi (by omega))).mono ?_
    rintro e w8 ⟨hg8, hb8⟩
    rw [hGC.out r (by rw [HL5.out]; exact hr2)] at hg8
    obtain ⟨rfl, -⟩ := hg8
    have hB8 := hB7.trans (hb8.mono hB7.size)
    have g8 := g7.below hb8 g7.lt
    have hp8 := Lib.hid (hp7.out.now hb8)
    have z0 : w8.cell? ⟨w.heap.size, 0, none⟩ = some (.slice A n c) := g8.cell 0
    clear hb8 g7 hs7 hp7 hB7
    go_wp2_with fail
    refine (same_lab A7 n7 c7 L A n c L _ (by omega) hn63 hp8.out (HY.out.prs.now hB8)).mono ?_
    rintro e w9 ⟨⟨q9, rfl, hq9⟩, hb9⟩
    obtain rfl := hq9 rfl
    have hB9 := hB8.trans (hb9.mono hB8.size)
    have g9 := g8.below hb9 g8.lt
    have y1 : w9.cell? ⟨w.heap.size, 1, none⟩ = some (.bool f) := g9.cell 1
    have y2 : w9.cell? ⟨w.heap.size, 2, none⟩ = some (.int .i64 (u : Int)) := g9.cell 2
    clear hb9 g8 hp8 z0 hB8 hq9 g9
    go_wp2
    all_goals first
      | (go_ret; exact ⟨rfl, hB9⟩)
      | (exfalso; simp at *; done)
end Go.Proofs.Ytkkbncgnobaliaa
