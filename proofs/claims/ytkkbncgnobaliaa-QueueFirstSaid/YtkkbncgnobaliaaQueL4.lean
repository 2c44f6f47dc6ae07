/-
  The law QueueFirst.
-/
import Derived.Test.YtkkbncgnobaliaaQueA
import Derived.Test.YtkkbncgnobaliaaQueO
namespace Go.Proofs.Ytkkbncgnobaliaa
open Go.RowKit
open CodP
set_option linter.unusedVariables false
theorem alike_refl (y : Nt) : alike y y := ⟨rfl, rfl, rfl, rfl, rfl⟩
/-- The i-th note, read in any world behind. -/
theorem Nts.elem {W0 wr : World} {A : Option Addr} {n : Nat} {ns : List Nt} (h : Nts W0 W0.heap.size A n ns) (hB : Below W0.heap.size W0 wr) {i : Nat} (hi : i < n) : ∃ b off, A = some ⟨b, off, none⟩ ∧ ∀ p : Bel wr,
    p.now.cell? ⟨b, off + i * 5, none⟩ = some (.slice (nt ns i).A (nt ns i).n (nt ns i).c) ∧ p.now.cell? ⟨b, off + i * 5 + 1, none⟩ = some (.bool (nt ns i).f) ∧
    p.now.cell? ⟨b, off + i * 5 + 2, none⟩ = some (.int .i64 (nt ns i).t) ∧ p.now.cell? ⟨b, off + i * 5 + 3, none⟩ = some (.int .i64 (nt ns i).k) ∧ p.now.cell? ⟨b, off + i * 5 + 4, none⟩ = some (.int .i64 (nt ns i).x) := by
  obtain ⟨b, off, e, hb, h0, h1, h2, h3, h4⟩ := h.at_ hi
  have g : ∀ (p : Bel wr) o v, W0.cell? ⟨b, o, none⟩ = some v → p.now.cell? ⟨b, o, none⟩ = some v := fun p o v hv => ((hB.trans (p.bel.mono hB.size)).cell (p := ⟨b, o, none⟩) hb).trans hv
  exact ⟨b, off, e, fun p => ⟨g p _ _ h0, g p _ _ h1, g p _ _ h2, g p _ _ h3, g p _ _ h4⟩⟩
theorem nt_drop {l : List Nt} {i : Nat} : nt (l.drop 1) i = nt l (i + 1) := by
  unfold nt; simp
set_option maxRecDepth 100000 in
set_option maxHeartbeats 12800000 in
theorem queueFirst_walk (w : World) (qv : Value) (oq : IsQueue w qv) (lv : Value) (ol : IsPairs w lv) (f : Bool) (t : Int) (ht1 : -9223372036854775808 ≤ t) (ht2 : t ≤ 9223372036854775807) :
    Calls Try.prog 16 #[qv, lv, .bool f, .int .i64 t] w fun e w' => e = .returned (.bool true) ∧ Below w.heap.size w w' := by
  obtain ⟨ns, d, l, hq⟩ := oq
  obtain ⟨A, n, c, L, rfl, hL, hcap, hm⟩ := ol
  have hn63 : n ≤ 9223372036854775807 := by omega
  have HL := Lib.hid hL; clear hL
  obtain ⟨A0, n0, c0, rfl, hq0, hc0, hc0'⟩ := hq.out
  have hlen0 : ns.length = n0 := hq0.len
  have HQ := Lib.hid hq
  have HN := Lib.hid hq0
  clear hq hq0
  have hB0 : Below w.heap.size w (w.alloc (.cells #[.slice A0 n0 c0, .int .i64 d, .int .i64 l] 75)) := (Below.refl _ _).alloc (Nat.le_refl _) _
  have g0 := Blk.new w 75 #[.slice A0 n0 c0, .int .i64 d, .int .i64 l]
  go_enter Try.func16, Try.ntmps16
  go_wp2_with fail
  refine (qawake_any _).mono ?_
  rintro e w1 ⟨rfl, hb1⟩
  have g1 := g0.below hb1 g0.lt
  have hB1 := hB0.trans (hb1.mono hB0.size)
  have x1a : w1.cell? ⟨w.heap.size, 0, none⟩ = some (.slice A0 n0 c0) := g1.cell 0
  have x1b : w1.cell? ⟨w.heap.size, 1, none⟩ = some (.int .i64 d) := g1.cell 1
  have x1c : w1.cell? ⟨w.heap.size, 2, none⟩ = some (.int .i64 l) := g1.cell 2
  clear hb1 g0 hB0
  go_wp2_with fail
  refine (few_q _ d l ns _ (HQ.out.now hB1)).mono ?_
  rintro e w2 ⟨⟨q, rfl⟩, hb2⟩
  have g2 := g1.below hb2 g1.lt
  have hB2 := hB1.trans (hb2.mono hB1.size)
  have x2a : w2.cell? ⟨w.heap.size, 0, none⟩ = some (.slice A0 n0 c0) := g2.cell 0
  have x2b : w2.cell? ⟨w.heap.size, 1, none⟩ = some (.int .i64 d) := g2.cell 1
  have x2c : w2.cell? ⟨w.heap.size, 2, none⟩ = some (.int .i64 l) := g2.cell 2
  clear hb2 g1 hB1
  clear x1a x1b x1c
  cases q with
  | false =>
    go_wp2
    go_ret
    exact ⟨rfl, hB2⟩
  | true =>
  go_wp2_with fail
  refine (few_lab A n c L _ hn63 (HL.out.now hB2)).mono ?_
  rintro e w3 ⟨⟨q, rfl, -⟩, hb3⟩
  have g3 := g2.below hb3 g2.lt
  have hB3 := hB2.trans (hb3.mono hB2.size)
  have x3a : w3.cell? ⟨w.heap.size, 0, none⟩ = some (.slice A0 n0 c0) := g3.cell 0
  have x3b : w3.cell? ⟨w.heap.size, 1, none⟩ = some (.int .i64 d) := g3.cell 1
  have x3c : w3.cell? ⟨w.heap.size, 2, none⟩ = some (.int .i64 l) := g3.cell 2
  clear hb3 g2 hB2
  clear x2a x2b x2c
  cases q with
  | false =>
    go_wp2
    go_ret
    exact ⟨rfl, hB3⟩
  | true =>
  go_wp2_with fail
  refine (qsane_any A0 n0 c0 d l ns _ (by omega) (HN.out.now hB3)).mono ?_
  rintro e w4 ⟨rfl, hb4⟩
  have g4 := g3.below hb4 g3.lt
  have hB4 := hB3.trans (hb4.mono hB3.size)
  have x4a : w4.cell? ⟨w.heap.size, 0, none⟩ = some (.slice A0 n0 c0) := g4.cell 0
  have x4b : w4.cell? ⟨w.heap.size, 1, none⟩ = some (.int .i64 d) := g4.cell 1
  have x4c : w4.cell? ⟨w.heap.size, 2, none⟩ = some (.int .i64 l) := g4.cell 2
  clear hb4 g3 hB3
  clear x3a x3b x3c
  cases hsq : saneQ ns d l with
  | false =>
    go_wp2
    go_ret
    exact ⟨rfl, hB4⟩
  | true =>
  have hI := saneQ_iff.1 hsq
  have hcc := c_of hI
  have HI := Lib.hid hI
  have hn16 : n0 ≤ 16 := by rw [← hlen0]; exact hI.1
  have hd := timeB_iff.1 hI.2.1
  clear hsq hI
  go_wp2_with fail
  refine (lsane_any A n c L _ hn63 (HL.out.now hB4)).mono ?_
  rintro e w5 ⟨rfl, hb5⟩
  have g5 := g4.below hb5 g4.lt
  have hB5 := hB4.trans (hb5.mono hB4.size)
  have x5a : w5.cell? ⟨w.heap.size, 0, none⟩ = some (.slice A0 n0 c0) := g5.cell 0
  have x5b : w5.cell? ⟨w.heap.size, 1, none⟩ = some (.int .i64 d) := g5.cell 1
  have x5c : w5.cell? ⟨w.heap.size, 2, none⟩ = some (.int .i64 l) := g5.cell 2
  clear hb5 g4 hB4
  clear x4a x4b x4c
  cases hsane : saneL L with
  | false =>
    go_wp2
    go_ret
    exact ⟨rfl, hB5⟩
  | true =>
  have HSANE := Lib.hid hsane
  clear hsane
  by_cases t0 : t < 0
  · go_wp2
    go_ret
    exact ⟨rfl, hB5⟩
  have dt0 : decide (t < 0) = false := decide_eq_false t0
  by_cases t1 : 9007199254740992 < t
  · go_wp2
    go_ret
    exact ⟨rfl, hB5⟩
  have dt1 : decide (9007199254740992 < t) = false := decide_eq_false t1
  have HNT := Lib.hid (near_id (timeB_iff.2 (show 0 ≤ t ∧ t ≤ 9007199254740992 by omega)))
  go_wp2_with fail
  refine (push_at _ d l ns A n c L f t _ (HQ.out.now hB5) (HL.out.now hB5) hcap hm).mono ?_
  rintro e w6 ⟨⟨v6, rfl, hq6⟩, hb6⟩
  rw [hcc.1, hcc.2.1, hcc.2.2, HNT.out] at hq6
  have g6 := g5.below hb6 g5.lt
  have hB6 := hB5.trans (hb6.mono hB5.size)
  have x6a : w6.cell? ⟨w.heap.size, 0, none⟩ = some (.slice A0 n0 c0) := g6.cell 0
  have x6b : w6.cell? ⟨w.heap.size, 1, none⟩ = some (.int .i64 d) := g6.cell 1
  have x6c : w6.cell? ⟨w.heap.size, 2, none⟩ = some (.int .i64 l) := g6.cell 2
  clear hb6 g5 hB5
  clear x5a x5b x5c hcc
  obtain ⟨y, HY⟩ : ∃ y : Nt, Hid ((⟨A, n, c, L, f, t, 0, t⟩ : Nt) = y) := ⟨_, Lib.hid rfl⟩
  rw [HY.out] at hq6
  have hs6 : w.heap.size < w6.heap.size := g6.lt
  by_cases h16 : n0 = 16
  · subst h16
    have e1 : psNs ns L y = ns := by unfold psNs; rw [if_neg (by rw [hlen0]; omega)]
    have e2 : psD ns L d = min (d + 1) 9007199254740992 := by unfold psD; rw [if_pos ⟨HSANE.out, by rw [hlen0]; omega⟩]
    rw [e1, e2] at hq6
    obtain ⟨A6, n6, c6, rfl, hn6, -, -⟩ := hq6.out
    obtain rfl : n6 = 16 := by rw [← hn6.len, hlen0]
    clear hq6 hn6 e1 e2
    by_cases hdm : 9007199254740992 < d + 1
    · have hmin : min (d + 1) 9007199254740992 = 9007199254740992 := by omega
      rw [hmin]
      go_wp2
      all_goals first
        | (go_ret; exact ⟨rfl, hB6.alloc hB6.size _⟩)
        | (exfalso; omega)
    · have hmin : min (d + 1) 9007199254740992 = d + 1 := by omega
      rw [hmin]
      go_wp2
      all_goals first
        | (go_ret; exact ⟨rfl, hB6.alloc hB6.size _⟩)
        | (exfalso; omega)
  · have e1 : psNs ns L y = ns ++ [y] := by unfold psNs; rw [if_pos ⟨HSANE.out, by omega⟩]
    have e2 : psD ns L d = d := by unfold psD; rw [if_neg (by rw [hlen0]; omega)]
    have hI6 := push_sane (L := L) (y := y) HI.out (fun h => by rw [← HY.out]; have := ok_new A n c f t h; rwa [HNT.out] at this)
    rw [e1, e2] at hq6 hI6
    obtain ⟨ps, HPS⟩ : ∃ ps, Hid (ns ++ [y] = ps) := ⟨_, Lib.hid rfl⟩
    rw [HPS.out] at hq6 hI6
    obtain ⟨A6, n6, c6, rfl, hn6, hc6, hc6'⟩ := hq6.out
    have hlp : ps.length = n0 + 1 := by rw [← HPS.out, List.length_append, hlen0]; rfl
    obtain rfl : n6 = n0 + 1 := by rw [← hn6.len, hlp]
    have e16 : ((n0 : Int) == 16) = false := beq_false_of_ne (by omega)
    have HI6 := Lib.hid hI6
    have hB6a := hB6.alloc hB6.size (.cells #[.slice A6 (n0 + 1) c6, .int .i64 d, .int .i64 l] 75)
    have g6a := g6.alloc (.cells #[.slice A6 (n0 + 1) c6, .int .i64 d, .int .i64 l] 75)
    have p6 := Blk.new w6 75 #[.slice A6 (n0 + 1) c6, .int .i64 d, .int .i64 l]
    have hb6a : Below w6.heap.size w6 (w6.alloc (.cells #[.slice A6 (n0 + 1) c6, .int .i64 d, .int .i64 l] 75)) := (Below.refl _ _).alloc (Nat.le_refl _) _
    have HN6 := Lib.hid hn6
    have HLP := Lib.hid hlp
    have HRY := Lib.hid (show Rn w6 w6.heap.size ⟨A, n, c, L, f, t, 0, t⟩ by have := hn6.rn n0 (by omega); rwa [show nt ps n0 = y by rw [← HPS.out, ← hlen0, nt_app_at], ← HY.out] at this)
    obtain ⟨b, off, rfl, hbB, z0, z1, z2, z3, z4⟩ := hn6.at_ (k := n0) (by omega)
    rw [show nt ps n0 = y by rw [← HPS.out, ← hlen0, nt_app_at], ← HY.out] at z0 z1 z2 z3 z4
    simp only at z0 z1 z2 z3 z4
    clear hq6 hn6 e1 e2 hI6 hlp h16
    go_wp2_with fail
    refine (same_note ⟨A, n, c, L, f, t, 0, t⟩ ⟨A, n, c, L, f, t, 0, t⟩ _ (HRY.out.now hb6a) (HRY.out.now hb6a) (alike_refl _)).mono ?_
    rintro e w7 ⟨rfl, hb7⟩
    have hB7 := hB6a.trans (hb7.mono hB6a.size)
    have hb67 := hb6a.trans (hb7.mono hb6a.size)
    have g7 := g6a.below hb7 g6a.lt
    have p7 := p6.below hb7 p6.lt
    have x7a : w7.cell? ⟨w.heap.size, 1, none⟩ = some (.int .i64 d) := g7.cell 1
    have y7a : w7.cell? ⟨w6.heap.size, 0, none⟩ = some (.slice (some ⟨b, off, none⟩) (n0 + 1) c6) := p7.cell 0
    have y7b : w7.cell? ⟨w6.heap.size, 1, none⟩ = some (.int .i64 d) := p7.cell 1
    have y7c : w7.cell? ⟨w6.heap.size, 2, none⟩ = some (.int .i64 l) := p7.cell 2
    clear hb7 g6a p6 g6 x6a x6b x6c z0 z1 z2 z3 z4 hB6a hb6a
    go_wp2_with fail
    refine (qsane_any _ (n0 + 1) c6 d l ps _ (by omega) (HN6.out.now hb67)).mono ?_
    rintro e w8 ⟨rfl, hb8⟩
    rw [saneQ_iff.2 HI6.out]
    have hB8 := hB7.trans (hb8.mono hB7.size)
    have hb68 := hb67.trans (hb8.mono hb67.size)
    have g8 := g7.below hb8 g7.lt
    have p8 := p7.below hb8 p7.lt
    have x8a : w8.cell? ⟨w.heap.size, 1, none⟩ = some (.int .i64 d) := g8.cell 1
    have y8b : w8.cell? ⟨w6.heap.size, 1, none⟩ = some (.int .i64 d) := p8.cell 1
    have HN8 := Lib.hid (HN6.out.now hb68)
    have HM8 := Lib.hid (HN.out.now hB8)
    have hB8' := Lib.hid hB8
    have G8 := Lib.hid g8
    have P8 := Lib.hid p8
    clear hb8 g7 p7 x7a y7a y7b y7c hB7 hb67 hb68
    have hs8 := hB8.size
    go_wp2
    go_loopw [12] (fun i wr => ∃ k : Nat, k ≤ n0 ∧ i = .int .i64 k ∧ Below w8.heap.size w8 wr) (fun i _ => n0 - (intOf i).toNat)
    case atStart => exact ⟨0, by omega, rfl, Below.refl _ _⟩
    case round =>
      obtain ⟨k, hk, rfl, hB⟩ := hrel
      have hsr := hB.size
      by_cases hlt : k < n0
      · obtain ⟨bq, oq, rfl, hcq⟩ := HM8.out.elem hB (i := k) (by omega)
        obtain ⟨bp, op, ep, hcp⟩ := HN8.out.elem hB (i := k) (by omega)
        injection ep with ep
        injection ep with ep1 ep2
        subst ep1 ep2
        rw [show nt ps k = nt ns k by rw [← HPS.out]; exact nt_app_lt (by omega)] at hcp
        have HR := Lib.hid (HM8.out.rn k (by omega))
        obtain ⟨z, HZ⟩ : ∃ z, Hid (nt ns k = z) := ⟨_, Lib.hid rfl⟩
        rw [HZ.out] at hcp hcq HR
        obtain ⟨zA, zn, zc, zL, zf, zt, zk, zx⟩ := z
        simp only at hcp hcq
        have a0 : ∀ p : Bel wr, p.now.cell? ⟨b, off + k * 5, none⟩ = some (.slice zA zn zc) := fun p => (hcp p).1
        have a1 : ∀ p : Bel wr, p.now.cell? ⟨b, off + k * 5 + 1, none⟩ = some (.bool zf) := fun p => (hcp p).2.1
        have a2 : ∀ p : Bel wr, p.now.cell? ⟨b, off + k * 5 + 2, none⟩ = some (.int .i64 zt) := fun p => (hcp p).2.2.1
        have a3 : ∀ p : Bel wr, p.now.cell? ⟨b, off + k * 5 + 3, none⟩ = some (.int .i64 zk) := fun p => (hcp p).2.2.2.1
        have a4 : ∀ p : Bel wr, p.now.cell? ⟨b, off + k * 5 + 4, none⟩ = some (.int .i64 zx) := fun p => (hcp p).2.2.2.2
        have b0 : ∀ p : Bel wr, p.now.cell? ⟨bq, oq + k * 5, none⟩ = some (.slice zA zn zc) := fun p => (hcq p).1
        have b1 : ∀ p : Bel wr, p.now.cell? ⟨bq, oq + k * 5 + 1, none⟩ = some (.bool zf) := fun p => (hcq p).2.1
        have b2 : ∀ p : Bel wr, p.now.cell? ⟨bq, oq + k * 5 + 2, none⟩ = some (.int .i64 zt) := fun p => (hcq p).2.2.1
        have b3 : ∀ p : Bel wr, p.now.cell? ⟨bq, oq + k * 5 + 3, none⟩ = some (.int .i64 zk) := fun p => (hcq p).2.2.2.1
        have b4 : ∀ p : Bel wr, p.now.cell? ⟨bq, oq + k * 5 + 4, none⟩ = some (.int .i64 zx) := fun p => (hcq p).2.2.2.2
        obtain ⟨m1, hm1⟩ : ∃ m1, n0 + 1 = m1 := ⟨_, rfl⟩
        have c1 : ∀ p : Bel wr, p.now.cell? ⟨w6.heap.size, 0, none⟩ = some (.slice (some ⟨b, off, none⟩) m1 c6) := by rw [← hm1]; exact Bel.cells (P8.out.below hB P8.out.lt) 0
        have c2 : ∀ p : Bel wr, p.now.cell? ⟨w.heap.size, 0, none⟩ = some (.slice (some ⟨bq, oq, none⟩) n0 c0) := Bel.cells (G8.out.below hB G8.out.lt) 0
        have hlt1 : k < m1 := by omega
        clear hm1
        have SC := Lib.hid (show ∀ p : Bel wr, Calls Try.prog 51 #[.agg #[.slice zA zn zc, .bool zf, .int .i64 zt, .int .i64 zk, .int .i64 zx], .agg #[.slice zA zn zc, .bool zf, .int .i64 zt, .int .i64 zk, .int .i64 zx]] p.now fun e w'' => e = .returned (.bool true) ∧ ∃ q : Bel wr, w'' = q.now from fun p => Calls.bel_of (same_note ⟨zA, zn, zc, zL, zf, zt, zk, zx⟩ ⟨zA, zn, zc, zL, zf, zt, zk, zx⟩ p.now (HR.out.now (hB.trans (p.bel.mono hsr))) (HR.out.now (hB.trans (p.bel.mono hsr))) (alike_refl _)))
        clear hcp hcq
        go_wp2_with fail
        refine wp_region_bel (by kernel_rfl) (by kernel_rfl) ?_
        repeat (
          refine WQ.step (fun KK hKK => ?_)
          go_simp
          first
            | (refine hKK _ ?_; clear hKK KK)
            | (apply Exists.intro; refine ⟨fun _ => ?_, hKK _ ?_⟩; ((go_at_call 51; exact SC.out _)); clear hKK KK))
        refine WQ.nil_ ?_
        rintro wq1 ⟨⟨wq, hq⟩, hwq⟩
        obtain rfl : wq = wq1 := hwq.symm
        clear hwq
        go_wp2
        go_roundw
        case rel => exact ⟨k + 1, by omega, by go_num, hB.trans (hq.mono hsr)⟩
        case measure => simp [intOf]; omega
      · obtain rfl : k = n0 := by omega
        have P9 := P8.out.below hB P8.out.lt
        have y9a : wr.cell? ⟨w6.heap.size, 0, none⟩ = some (.slice (some ⟨b, off, none⟩) (k + 1) c6) := P9.cell 0
        have y9b : wr.cell? ⟨w6.heap.size, 1, none⟩ = some (.int .i64 d) := P9.cell 1
        have y9c : wr.cell? ⟨w6.heap.size, 2, none⟩ = some (.int .i64 l) := P9.cell 2
        have HN9 := Lib.hid (HN8.out.now hB)
        have hB9 := hB8.trans (hB.mono hs8)
        have hcc6 := c_of HI6.out
        go_wp2_with fail
        refine (sent_at _ d l ps 9007199254740992 true _ ⟨_, _, _, rfl, HN9.out, hc6, hc6'⟩).mono ?_
        rintro e wa ⟨⟨va, rfl, hqa⟩, hba⟩
        rw [hcc6.1, hcc6.2.1, hcc6.2.2] at hqa
        have hIa := sent_sane HI6.out true 9007199254740992
        have hrd : rdB ps 9007199254740992 = true := by
          unfold rdB
          have h0 := HI6.out.2.2.2 0 (by rw [HLP.out]; omega)
          have := (timeB_iff.1 h0.2.2.1).2
          simp only [Bool.and_eq_true, decide_eq_true_eq]
          exact ⟨by rw [HLP.out]; omega, by rw [near_id (by decide)]; exact this⟩
        rw [show snNs ps true 9007199254740992 = ps.drop 1 by unfold snNs; rw [hrd]; simp [bcN], show snL ps true 9007199254740992 l = l by unfold snL; rw [hrd]; simp [bcL]] at hqa hIa
        obtain ⟨Aa, na, ca, rfl, hna, hca, hca'⟩ := hqa.out
        obtain rfl : na = k := by rw [← hna.len, List.length_drop, HLP.out]; omega
        have hB9a := hB9.trans (hba.mono hB9.size)
        have Pa := P9.below hba P9.lt
        have HNa := Lib.hid hna
        have hBb := hB9a.alloc hB9a.size (.cells #[.slice Aa na ca, .int .i64 d, .int .i64 l] 75)
        have hbb : Below wa.heap.size wa (wa.alloc (.cells #[.slice Aa na ca, .int .i64 d, .int .i64 l] 75)) := (Below.refl _ _).alloc (Nat.le_refl _) _
        have Sb := Blk.new wa 75 #[.slice Aa na ca, .int .i64 d, .int .i64 l]
        have Pb := Pa.alloc (.cells #[.slice Aa na ca, .int .i64 d, .int .i64 l] 75)
        have hsa : w6.heap.size < wa.heap.size := Pa.lt
        have HIa := Lib.hid hIa
        have HNp := Lib.hid ((HN9.out.now hba).now hbb)
        clear hqa hna y9a y9b y9c P9 hba hIa hrd hcc6 Pa
        go_wp2_with fail
        refine (qsane_any Aa na ca d l (ps.drop 1) _ (by omega) (HNa.out.now hbb)).mono ?_
        rintro e wc ⟨rfl, hbc⟩
        rw [saneQ_iff.2 HIa.out]
        have hBc := Lib.hid (hBb.trans (hbc.mono hBb.size))
        have HNc := Lib.hid ((HNa.out.now hbb).now hbc)
        have HNq := Lib.hid (HNp.out.now hbc)
        have Sc := Lib.hid (Sb.below hbc Sb.lt)
        have Pc := Lib.hid (Pb.below hbc Pb.lt)
        clear hbc hbb Sb Pb hB9 hB9a hBb hB
        go_wp2
        go_loopw [14] (fun i wr => ∃ k : Nat, k ≤ na ∧ i = .int .i64 k ∧ Below wc.heap.size wc wr) (fun i _ => na - (intOf i).toNat)
        case atStart => exact ⟨0, by omega, rfl, Below.refl _ _⟩
        case round =>
          obtain ⟨k, hk, rfl, hB⟩ := hrel
          have hsr := hB.size
          by_cases hlt : k < na
          · obtain ⟨bs, os, rfl, hcs⟩ := HNc.out.elem hB (i := k) (by omega)
            obtain ⟨bp, op, ep, hcp⟩ := HNq.out.elem hB (i := k + 1) (by omega)
            injection ep with ep
            injection ep with ep1 ep2
            subst ep1 ep2
            have HR := Lib.hid (HNc.out.rn k (by omega))
            rw [nt_drop] at hcs HR
            obtain ⟨z, HZ⟩ : ∃ z, Hid (nt ps (k + 1) = z) := ⟨_, Lib.hid rfl⟩
            rw [HZ.out] at hcp hcs HR
            obtain ⟨zA, zn, zc, zL, zf, zt, zk, zx⟩ := z
            obtain ⟨k1, hk1⟩ : ∃ k1, k + 1 = k1 := ⟨_, rfl⟩
            have hk1' : (k : Int) + 1 = (k1 : Int) := by omega
            have hk1w : IntKind.i64.wrap (k1 : Int) = (k1 : Int) := by rw [IntKind.wrap_i64]; omega
            rw [hk1] at hcp
            simp only at hcp hcs
            have a0 : ∀ p : Bel wr, p.now.cell? ⟨b, off + k1 * 5, none⟩ = some (.slice zA zn zc) := fun p => (hcp p).1
            have a1 : ∀ p : Bel wr, p.now.cell? ⟨b, off + k1 * 5 + 1, none⟩ = some (.bool zf) := fun p => (hcp p).2.1
            have a2 : ∀ p : Bel wr, p.now.cell? ⟨b, off + k1 * 5 + 2, none⟩ = some (.int .i64 zt) := fun p => (hcp p).2.2.1
            have a3 : ∀ p : Bel wr, p.now.cell? ⟨b, off + k1 * 5 + 3, none⟩ = some (.int .i64 zk) := fun p => (hcp p).2.2.2.1
            have a4 : ∀ p : Bel wr, p.now.cell? ⟨b, off + k1 * 5 + 4, none⟩ = some (.int .i64 zx) := fun p => (hcp p).2.2.2.2
            have b0 : ∀ p : Bel wr, p.now.cell? ⟨bs, os + k * 5, none⟩ = some (.slice zA zn zc) := fun p => (hcs p).1
            have b1 : ∀ p : Bel wr, p.now.cell? ⟨bs, os + k * 5 + 1, none⟩ = some (.bool zf) := fun p => (hcs p).2.1
            have b2 : ∀ p : Bel wr, p.now.cell? ⟨bs, os + k * 5 + 2, none⟩ = some (.int .i64 zt) := fun p => (hcs p).2.2.1
            have b3 : ∀ p : Bel wr, p.now.cell? ⟨bs, os + k * 5 + 3, none⟩ = some (.int .i64 zk) := fun p => (hcs p).2.2.2.1
            have b4 : ∀ p : Bel wr, p.now.cell? ⟨bs, os + k * 5 + 4, none⟩ = some (.int .i64 zx) := fun p => (hcs p).2.2.2.2
            obtain ⟨m1, hm1⟩ : ∃ m1, na + 1 = m1 := ⟨_, rfl⟩
            have c1 : ∀ p : Bel wr, p.now.cell? ⟨w6.heap.size, 0, none⟩ = some (.slice (some ⟨b, off, none⟩) m1 c6) := by rw [← hm1]; exact Bel.cells (Pc.out.below hB Pc.out.lt) 0
            have c2 : ∀ p : Bel wr, p.now.cell? ⟨wa.heap.size, 0, none⟩ = some (.slice (some ⟨bs, os, none⟩) na ca) := Bel.cells (Sc.out.below hB Sc.out.lt) 0
            have hlt1 : k1 < m1 := by omega
            have SC := Lib.hid (show ∀ p : Bel wr, Calls Try.prog 51 #[.agg #[.slice zA zn zc, .bool zf, .int .i64 zt, .int .i64 zk, .int .i64 zx], .agg #[.slice zA zn zc, .bool zf, .int .i64 zt, .int .i64 zk, .int .i64 zx]] p.now fun e w'' => e = .returned (.bool true) ∧ ∃ q : Bel wr, w'' = q.now from fun p => Calls.bel_of (same_note ⟨zA, zn, zc, zL, zf, zt, zk, zx⟩ ⟨zA, zn, zc, zL, zf, zt, zk, zx⟩ p.now (HR.out.now (hB.trans (p.bel.mono hsr))) (HR.out.now (hB.trans (p.bel.mono hsr))) (alike_refl _)))
            have HK1 := Lib.hid hk1
            clear hcp hcs hm1 hk1
            go_wp2_with fail
            refine wp_region_bel (by kernel_rfl) (by kernel_rfl) ?_
            repeat (
              refine WQ.step (fun KK hKK => ?_)
              go_simp
              first
                | (refine hKK _ ?_; clear hKK KK)
                | (apply Exists.intro; refine ⟨fun _ => ?_, hKK _ ?_⟩; ((go_at_call 51; exact SC.out _)); clear hKK KK))
            refine WQ.nil_ ?_
            rintro wq1 ⟨⟨wq, hq⟩, hwq⟩
            obtain rfl : wq = wq1 := hwq.symm
            clear hwq
            go_wp2
            go_roundw
            case rel => exact ⟨k + 1, by omega, by go_num, hB.trans (hq.mono hsr)⟩
            case measure => simp [intOf]; omega
          · obtain rfl : k = na := by omega
            go_wp2
            go_ret
            exact ⟨rfl, hBc.out.trans (hB.mono hBc.out.size)⟩
end Go.Proofs.Ytkkbncgnobaliaa
