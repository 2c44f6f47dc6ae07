/-
  The law QueueTries.
-/
import Derived.Test.YtkkbncgnobaliaaQueL1
namespace Go.Proofs.Ytkkbncgnobaliaa
open Go.RowKit
open CodP
set_option linter.unusedVariables false
theorem wr64i {z : Int} (h1 : -9223372036854775808 ≤ z) (h2 : z ≤ 9223372036854775807) : IntKind.i64.wrap z = z := by rw [IntKind.wrap_i64]; omega
/-- What lies in other blocks than the queue's own stays. -/
theorem Prs.off {w w' : World} {B n g : Nat} {A : Option Addr} {L : Lab} {t : TypeId} {cs : Array Value} (h : Prs w B A n L) (hg : Blk w g t cs) (hs : ∀ (i : Nat) (s : ByteArray), cs[i]? ≠ some (Value.string s)) (hk : ∀ b o, b ≠ g → w'.cell? ⟨b, o, none⟩ = w.cell? ⟨b, o, none⟩) : Prs w' B A n L := by
  refine ⟨h.len, fun hn => ?_, h.sz⟩
  obtain ⟨b, off, e, hb, hc⟩ := h.q hn
  have hne : b ≠ g := by
    rintro rfl
    have := (hc 0 hn).1
    rw [hg.cell] at this
    exact hs _ _ this
  exact ⟨b, off, e, hb, fun i hi => ⟨(hk _ _ hne).trans (hc i hi).1, (hk _ _ hne).trans (hc i hi).2⟩⟩
theorem Nts.off {w w' : World} {B n g : Nat} {A : Option Addr} {ns : List Nt} {t : TypeId} {cs : Array Value} (h : Nts w B A n ns) (hg : Blk w g t cs) (h5 : cs.size < 5) (hs : ∀ (i : Nat) (s : ByteArray), cs[i]? ≠ some (Value.string s)) (hk : ∀ b o, b ≠ g → w'.cell? ⟨b, o, none⟩ = w.cell? ⟨b, o, none⟩) : Nts w' B A n ns := by
  refine ⟨h.len, fun hn => ?_, fun i hi => ⟨(h.rn i hi).prs.off hg hs hk, (h.rn i hi).cap⟩⟩
  obtain ⟨b, off, e, hb, hc⟩ := h.sl hn
  have hne : b ≠ g := by
    rintro rfl
    have := hc 4 (by omega)
    rw [hg.cell, Array.getElem?_eq_none (by omega)] at this
    cases this
  exact ⟨b, off, e, hb, fun i hi => (hk _ _ hne).trans (hc i hi)⟩
theorem q_nostr (A : Option Addr) (n c : Nat) (d l : Int) : ∀ (i : Nat) (s : ByteArray), (#[.slice A n c, .int .i64 d, .int .i64 l] : Array Value)[i]? ≠ some (Value.string s) := by
  intro i s h
  match i, h with
  | 0, h => simp at h
  | 1, h => simp at h
  | 2, h => simp at h
  | i + 3, h => simp at h
theorem cell_set3 {w : World} {g : Nat} (u0 u1 u2 : Value) : ∀ b o, b ≠ g → (((w.setCell ⟨g, 0, none⟩ u0).setCell ⟨g, 1, none⟩ u1).setCell ⟨g, 2, none⟩ u2).cell? ⟨b, o, none⟩ = w.cell? ⟨b, o, none⟩ := by
  intro b o hne
  rw [World.cell?_setCell_other _ _ _ _ (by intro e; injection e with e; exact hne e.symm), World.cell?_setCell_other _ _ _ _ (by intro e; injection e with e; exact hne e.symm), World.cell?_setCell_other _ _ _ _ (by intro e; injection e with e; exact hne e.symm)]
theorem QV.put3 {w : World} {B g : Nat} {v : Value} {ns : List Nt} {d l : Int} {A : Option Addr} {n c : Nat} {d' l' : Int} {t : TypeId} (h : QV w B v ns d l) (hg : Blk w g t #[.slice A n c, .int .i64 d', .int .i64 l']) (u0 u1 u2 : Value) : QV (((w.setCell ⟨g, 0, none⟩ u0).setCell ⟨g, 1, none⟩ u1).setCell ⟨g, 2, none⟩ u2) B v ns d l := by
  obtain ⟨A1, n1, c1, e, h1, h2⟩ := h.out
  exact ⟨A1, n1, c1, e, h1.off hg (by simp) (q_nostr _ _ _ _ _) (cell_set3 u0 u1 u2), h2⟩
/-- The note at its k-th try. -/
def tn (A : Option Addr) (n c : Nat) (L : Lab) (t : Int) (k : Nat) (x : Int) : Nt := ⟨A, n, c, L, true, t, (k : Int), x⟩
theorem tn_sane {A : Option Addr} {n c : Nat} {L : Lab} {t : Int} {k : Nat} {x : Int} (hL : saneL L = true) (ht : timeB t = true) (hx : timeB x = true) (hk : k < 8) : IsQ [tn A n c L t k x] 0 0 :=
  ⟨by simp, by decide, by decide, okNs_iff.2 (by intro y hy; simp at hy; subst hy; exact ⟨hL, ht, hx, by simp only [tn]; omega, by simp only [tn]; omega⟩)⟩
theorem rd_one {y : Nt} {t : Int} : rdB [y] t = decide (y.x ≤ near t) := by unfold rdB; simp [nt]
theorem rdn_one {y : Nt} {t : Int} (h : y.x ≤ near t) : rdN [y] t = y := by unfold rdN; rw [rd_one, decide_eq_true h]; rfl
/-- How the queue stands ahead of the k-th try. -/
def TrS (A : Option Addr) (n c : Nat) (L : Lab) (t late : Int) (k : Nat) (ns : List Nt) (lost now : Int) : Prop :=
  (k < 8 ∧ lost = 0 ∧ ∃ x, ns = [tn A n c L t k x] ∧ 0 ≤ x ∧ x ≤ now ∧ (0 < k → 1 ≤ x ∧ x = now - late)) ∨ (k = 8 ∧ ns = [] ∧ lost = 1)
theorem TrS.next {A : Option Addr} {n c : Nat} {L : Lab} {t late now x : Int} {k : Nat} (hk : k < 8) (hx : 0 ≤ x ∧ x ≤ now) (hl : 0 ≤ late) (hnow : now ≤ 1100000000000000) (hI : IsQ [tn A n c L t k x] 0 0) :
    TrS A n c L t late (k + 1) (snNs [tn A n c L t k x] false now) (snL [tn A n c L t k x] false now 0) (now + bk k + late) := by
  have hb := bk_b k
  have hr : rdB [tn A n c L t k x] now = true := by rw [rd_one]; exact decide_eq_true (by show x ≤ near now; unfold near; omega)
  have hnn : near now = now := by unfold near; omega
  unfold snNs snL
  rw [hr]
  simp only [if_true]
  have e0 : nt [tn A n c L t k x] 0 = tn A n c L t k x := rfl
  rw [e0]
  by_cases h7 : k = 7
  · subst h7
    right
    exact ⟨rfl, rfl, rfl⟩
  · left
    have h7' : ¬ (7 : Int) ≤ (k : Int) := by omega
    refine ⟨by omega, by (have h8 : ¬ (7 : Int) ≤ (tn A n c L t k x).k := h7'); unfold bcL; rw [if_neg (by simp), if_neg h8], now + bk k, ?_, by omega, by omega, fun _ => ⟨by omega, by omega⟩⟩
    unfold bcN
    simp only [tn, hnn, Bool.false_eq_true, if_false]
    rw [if_neg h7']
    have : near (now + ((bk k : Nat) : Int)) = now + bk k := by unfold near; omega
    simp [this]
set_option maxRecDepth 100000 in
set_option maxHeartbeats 12800000 in
theorem queueTries_walk (w : World) (lv : Value) (ol : IsPairs w lv) (t : Int) (ht1 : -9223372036854775808 ≤ t) (ht2 : t ≤ 9223372036854775807) (late : Int) (hl1 : -9223372036854775808 ≤ late) (hl2 : late ≤ 9223372036854775807) :
    Calls Try.prog 17 #[lv, .int .i64 t, .int .i64 late] w fun e w' => e = .returned (.bool true) ∧ Below w.heap.size w w' := by
  obtain ⟨A, n, c, L, rfl, hL, hcap, hm⟩ := ol
  have hn63 : n ≤ 9223372036854775807 := by omega
  have HL := Lib.hid hL; clear hL
  go_enter Try.func17, Try.ntmps17
  go_wp2_with fail
  refine (qawake_any _).mono ?_
  rintro e w1 ⟨rfl, hb1⟩
  go_wp2_with fail
  refine (few_lab A n c L _ hn63 (HL.out.now hb1)).mono ?_
  rintro e w2 ⟨⟨q, rfl, -⟩, hb2⟩
  have hB2 := hb1.trans (hb2.mono hb1.size)
  clear hb2
  cases q with
  | false =>
    go_wp2
    go_ret
    exact ⟨rfl, hB2⟩
  | true =>
  go_wp2_with fail
  refine (lsane_any A n c L _ hn63 (HL.out.now hB2)).mono ?_
  rintro e w3 ⟨rfl, hb3⟩
  have hB3 := hB2.trans (hb3.mono hB2.size)
  clear hb3
  cases hsane : saneL L with
  | false =>
    go_wp2
    go_ret
    exact ⟨rfl, hB3⟩
  | true =>
  have HSANE := Lib.hid hsane
  clear hsane
  by_cases h2 : t < 0
  · go_wp2
    go_ret
    exact ⟨rfl, hB3⟩
  have d2 : decide (t < 0) = false := decide_eq_false h2
  by_cases h3 : 1099511627776 < t
  · go_wp2
    go_ret
    exact ⟨rfl, hB3⟩
  have d3 : decide (1099511627776 < t) = false := decide_eq_false h3
  by_cases h4 : late < 0
  · go_wp2
    go_ret
    exact ⟨rfl, hB3⟩
  have d4 : decide (late < 0) = false := decide_eq_false h4
  by_cases h5 : 1048576 < late
  · go_wp2
    go_ret
    exact ⟨rfl, hB3⟩
  have d5 : decide (1048576 < late) = false := decide_eq_false h5
  have HTB := Lib.hid (show timeB t = true from timeB_iff.2 (by omega))
  go_wp2_with fail
  refine (push_at _ 0 0 [] A n c L true t _ (QV.nil_ _ _) (HL.out.now hB3) hcap hm).mono ?_
  rintro e w4 ⟨⟨v4, rfl, hq4⟩, hb4⟩
  have e1 : psNs (cNs [] 0 0) L ⟨A, n, c, L, true, near t, 0, near t⟩ = [tn A n c L t 0 t] := by
    rw [(c_of (saneQ_iff.1 nil_saneQ)).1, near_id HTB.out]
    unfold psNs
    rw [HSANE.out]
    rfl
  have e2 : psD (cNs [] 0 0) L (cI [] 0 0 0) = 0 := by
    rw [(c_of (saneQ_iff.1 nil_saneQ)).1, (c_of (saneQ_iff.1 nil_saneQ)).2.1]
    unfold psD
    rw [HSANE.out]
    rfl
  have e3 : cI [] 0 0 0 = 0 := (c_of (saneQ_iff.1 nil_saneQ)).2.1
  rw [e1, e2, e3] at hq4
  have hB4 := hB3.trans (hb4.mono hB3.size)
  obtain ⟨A4, n4, c4, rfl, -, -, -⟩ := hq4.out
  have hB4a := hB4.alloc hB4.size (.cells #[.slice A4 n4 c4, .int .i64 0, .int .i64 0] 75)
  have HQ4 := Lib.hid (hq4.now ((Below.refl _ _).alloc (Nat.le_refl _) (.cells #[.slice A4 n4 c4, .int .i64 0, .int .i64 0] 75)))
  have hbk4 := Lib.hid (Blk.new w4 75 #[.slice A4 n4 c4, .int .i64 0, .int .i64 0])
  have hs4 := hB4.size
  clear hb4 hq4 e1 e2 e3 hb1 hB2 hB3
  go_wp2
  go_loopw [9, 10] (fun now i wr => ∃ (k : Nat) (nw : Int) (Aq : Option Addr) (nq cq : Nat) (lost : Int) (ns : List Nt), k ≤ 8 ∧ i = .int .i64 k ∧ now = .int .i64 nw ∧ t ≤ nw ∧ nw ≤ 1099511627776 + k * 1112576 ∧
    Hid (QV wr wr.heap.size (.agg #[.slice Aq nq cq, .int .i64 0, .int .i64 lost]) ns 0 lost) ∧ Hid (Blk wr w4.heap.size 75 #[.slice Aq nq cq, .int .i64 0, .int .i64 lost]) ∧ Below w.heap.size w wr ∧ Hid (TrS A n c L t late k ns lost nw)) (fun _ i _ => 8 - (intOf i).toNat)
  case atStart => exact ⟨0, t, A4, n4, c4, 0, _, by omega, rfl, rfl, Int.le_refl _, by omega, HQ4, hbk4, hB4a, Lib.hid (.inl ⟨by omega, rfl, t, rfl, by omega, Int.le_refl _, fun h => absurd h (by omega)⟩)⟩
  case round =>
    obtain ⟨k, nw, Aq, nq, cq, lost, ns, hk, rfl, rfl, hn1, hn2, hq, hbk, hB, hT⟩ := hrel
    by_cases hlt : k < 8
    · obtain ⟨-, rfl, x, rfl, hx0, hx1, hx2⟩ : k < 8 ∧ lost = 0 ∧ ∃ x, ns = [tn A n c L t k x] ∧ 0 ≤ x ∧ x ≤ nw ∧ (0 < k → 1 ≤ x ∧ x = nw - late) := by
        rcases hT.out with h | ⟨h, -⟩
        · exact h
        · omega
      have hI := tn_sane (A := A) (n := n) (c := c) HSANE.out HTB.out (timeB_iff.2 (show 0 ≤ x ∧ x ≤ 9007199254740992 by omega)) hlt
      have hcc := c_of hI
      have hnn : near nw = nw := by unfold near; omega
      have hR1 := Lib.hid (show rdB [tn A n c L t k x] nw = true ∧ rdN [tn A n c L t k x] nw = tn A n c L t k x from ⟨by rw [rd_one]; exact decide_eq_true (by show x ≤ near nw; omega), rdn_one (by show x ≤ near nw; omega)⟩)
      obtain ⟨b2, hR2⟩ : ∃ b2, Hid (rdB [tn A n c L t k x] (nw - late - 1) = b2) := ⟨_, Lib.hid rfl⟩
      obtain ⟨⟨yA, yn, yc, yL, yf, yt, yk, yx⟩, hR3⟩ : ∃ y2, Hid (rdN [tn A n c L t k x] (nw - late - 1) = y2) := ⟨_, Lib.hid rfl⟩
      have hR4 : 0 < k → b2 = false := fun h => by
        rw [← hR2.out, rd_one]
        refine decide_eq_false ?_
        have := hx2 h
        show ¬ x ≤ near (nw - late - 1)
        unfold near; omega
      have HN := Lib.hid (TrS.next (A := A) (n := n) (c := c) (L := L) (t := t) (late := late) hlt ⟨hx0, hx1⟩ (by omega) (show nw ≤ 1100000000000000 by omega) hI)
      have HCC := Lib.hid hcc
      have w0 := hbk.out.cell 0
      have w1' := hbk.out.cell 1
      have w2' := hbk.out.cell 2
      simp at w0 w1' w2'
      have hsr := hB.size
      have hgr : w4.heap.size < wr.heap.size := hbk.out.lt
      clear hcc hI hT
      go_wp2_with fail
      refine (ready_at _ 0 0 [tn A n c L t k x] nw _ hq.out).mono ?_
      rintro e w5 ⟨rfl, hb5⟩
      rw [HCC.out.1, hR1.out.1, hR1.out.2]
      simp only [show (tn A n c L t k x).val = .agg #[.slice A n c, .bool true, .int .i64 t, .int .i64 (k : Int), .int .i64 x] from rfl]
      have hB5 := hB.trans (hb5.mono hB.size)
      have k5 := hbk.out.below hb5 hgr
      have hq5 := hq.out.now hb5
      have hsz5 : w4.heap.size < w5.heap.size := k5.lt
      have k5a := k5.alloc (.cells #[.slice A n c, .bool true, .int .i64 t, .int .i64 (k : Int), .int .i64 x] 80)
      have m5 := Blk.new w5 80 #[.slice A n c, .bool true, .int .i64 t, .int .i64 (k : Int), .int .i64 x]
      have hB5a := hB5.alloc hB5.size (.cells #[.slice A n c, .bool true, .int .i64 t, .int .i64 (k : Int), .int .i64 x] 80)
      have hq5a := Lib.hid (hq5.now ((Below.refl _ _).alloc (Nat.le_refl _) (.cells #[.slice A n c, .bool true, .int .i64 t, .int .i64 (k : Int), .int .i64 x] 80)))
      have z0 : w5.cell? ⟨w4.heap.size, 0, none⟩ = some (.slice Aq nq cq) := k5.cell 0
      have z1 : w5.cell? ⟨w4.heap.size, 1, none⟩ = some (.int .i64 0) := k5.cell 1
      have z2 : w5.cell? ⟨w4.heap.size, 2, none⟩ = some (.int .i64 0) := k5.cell 2
      have e1 : IntKind.i64.wrap (nw - late) = nw - late := wr64i (by omega) (by omega)
      have e2 : IntKind.i64.wrap (nw - late - 1) = nw - late - 1 := wr64i (by omega) (by omega)
      clear hb5 k5 hq5 w0 w1' w2'
      go_wp2_with fail
      refine (ready_at _ 0 0 [tn A n c L t k x] (nw - late - 1) _ hq5a.out).mono ?_
      rintro e w6 ⟨rfl, hb6⟩
      rw [HCC.out.1, hR2.out, hR3.out]
      simp only [Nt.val]
      have hB6 := hB5a.trans (hb6.mono hB5a.size)
      have k6 := k5a.below hb6 k5a.lt
      have m6 := m5.below hb6 m5.lt
      have hq6 := hq5a.out.now hb6
      have hsz6 : w4.heap.size < w6.heap.size := k6.lt
      have hsz56 : w5.heap.size < w6.heap.size := m6.lt
      have k6a := k6.alloc (.cells #[.slice yA yn yc, .bool yf, .int .i64 yt, .int .i64 yk, .int .i64 yx] 80)
      have m6a := m6.alloc (.cells #[.slice yA yn yc, .bool yf, .int .i64 yt, .int .i64 yk, .int .i64 yx] 80)
      have hB6a := hB6.alloc hB6.size (.cells #[.slice yA yn yc, .bool yf, .int .i64 yt, .int .i64 yk, .int .i64 yx] 80)
      have hq6a := Lib.hid (hq6.now ((Below.refl _ _).alloc (Nat.le_refl _) (.cells #[.slice yA yn yc, .bool yf, .int .i64 yt, .int .i64 yk, .int .i64 yx] 80)))
      have K6 := Lib.hid k6a
      have y0 : w6.cell? ⟨w4.heap.size, 0, none⟩ = some (.slice Aq nq cq) := k6.cell 0
      have y1 : w6.cell? ⟨w4.heap.size, 1, none⟩ = some (.int .i64 0) := k6.cell 1
      have y2 : w6.cell? ⟨w4.heap.size, 2, none⟩ = some (.int .i64 0) := k6.cell 2
      have y3 : w6.cell? ⟨w5.heap.size, 3, none⟩ = some (.int .i64 (k : Int)) := m6.cell 3
      have y4 : w6.cell? ⟨w5.heap.size, 2, none⟩ = some (.int .i64 t) := m6.cell 2
      have hnq : nq = 1 := by
        obtain ⟨A', n', c', e', h', -⟩ := hq.out.out
        injection e' with e'
        simp at e'
        have := h'.len
        simp at this; omega
      subst hnq
      clear hb6 k6 m6 k6a m6a hq6 z0 z1 z2 hB5a hB5
      by_cases hk0 : k = 0
      · have dk0 : decide (0 < k) = false := decide_eq_false (by omega)
        clear hk0
        cases b2
        · skip
          go_wp2_with fail
          refine (sent_at _ 0 0 [tn A n c L t k x] nw false _ hq6a.out).mono ?_
          rintro e w7 ⟨⟨v7, rfl, hq7⟩, hb7⟩
          rw [HCC.out.1, HCC.out.2.1] at hq7
          obtain ⟨lost2, HL2⟩ : ∃ z, Hid (snL [tn A n c L t k x] false nw 0 = z) := ⟨_, Lib.hid rfl⟩
          obtain ⟨ns2, HN2⟩ : ∃ z, Hid (snNs [tn A n c L t k x] false nw = z) := ⟨_, Lib.hid rfl⟩
          rw [HL2.out, HN2.out] at hq7
          obtain ⟨A7, n7, c7, rfl, hn7, hc7, hc7'⟩ := hq7.out
          have hB7 := hB6a.trans (hb7.mono hB6a.size)
          have k7 := K6.out.below hb7 K6.out.lt
          have u0 : w7.cell? ⟨w4.heap.size, 0, none⟩ = some (.slice Aq 1 cq) := k7.cell 0
          have u1 : w7.cell? ⟨w4.heap.size, 1, none⟩ = some (.int .i64 0) := k7.cell 1
          have u2 : w7.cell? ⟨w4.heap.size, 2, none⟩ = some (.int .i64 0) := k7.cell 2
          have f0 : w7.frozen? ⟨w4.heap.size, 0, none⟩ = false := k7.frozen 0
          have f1 : w7.frozen? ⟨w4.heap.size, 1, none⟩ = false := k7.frozen 1
          have f2 : w7.frozen? ⟨w4.heap.size, 2, none⟩ = false := k7.frozen 2
          have k8 := k7.agg3 (.slice A7 n7 c7) (.int .i64 0) (.int .i64 lost2)
          have q8 := hq7.put3 k7 (.slice A7 n7 c7) (.int .i64 0) (.int .i64 lost2)
          have hB8 := below_set3 hB7 (k := w4.heap.size) hs4 (.slice A7 n7 c7) (.int .i64 0) (.int .i64 lost2)
          have K8 := Lib.hid k8
          have Q8 := Lib.hid q8
          obtain ⟨bb, HBB⟩ : ∃ z, Hid (bk k = z) := ⟨_, Lib.hid rfl⟩
          have hbb : bb ≤ 64000 := by rw [← HBB.out]; exact (bk_b k).2
          have e3 : IntKind.i64.wrap (nw + (bb : Int)) = nw + (bb : Int) := wr64i (by omega) (by omega)
          have e4 : IntKind.i64.wrap (nw + (bb : Int) + late) = nw + (bb : Int) + late := wr64i (by omega) (by omega)
          clear hb7 hq7 hn7 k7 k8 q8 hB6 hB6a
          go_wp2_with fail
          refine (back_any (k : Int) _ (by omega)).mono ?_
          rintro e w8 ⟨rfl, rfl⟩
          rw [Int.toNat_natCast, HBB.out]
          go_wp2
          go_roundw
          case rel => exact ⟨k + 1, nw + bb + late, A7, n7, c7, lost2, ns2, by omega, by go_num, rfl, by omega, by push_cast; omega, Lib.hid (Q8.out.more (by simp)), K8, hB8, Lib.hid (by have := HN.out; rw [HN2.out, HL2.out, HBB.out] at this; exact this)⟩
          case measure => simp [intOf]; omega
        · skip
          go_wp2_with fail
          refine (sent_at _ 0 0 [tn A n c L t k x] nw false _ hq6a.out).mono ?_
          rintro e w7 ⟨⟨v7, rfl, hq7⟩, hb7⟩
          rw [HCC.out.1, HCC.out.2.1] at hq7
          obtain ⟨lost2, HL2⟩ : ∃ z, Hid (snL [tn A n c L t k x] false nw 0 = z) := ⟨_, Lib.hid rfl⟩
          obtain ⟨ns2, HN2⟩ : ∃ z, Hid (snNs [tn A n c L t k x] false nw = z) := ⟨_, Lib.hid rfl⟩
          rw [HL2.out, HN2.out] at hq7
          obtain ⟨A7, n7, c7, rfl, hn7, hc7, hc7'⟩ := hq7.out
          have hB7 := hB6a.trans (hb7.mono hB6a.size)
          have k7 := K6.out.below hb7 K6.out.lt
          have u0 : w7.cell? ⟨w4.heap.size, 0, none⟩ = some (.slice Aq 1 cq) := k7.cell 0
          have u1 : w7.cell? ⟨w4.heap.size, 1, none⟩ = some (.int .i64 0) := k7.cell 1
          have u2 : w7.cell? ⟨w4.heap.size, 2, none⟩ = some (.int .i64 0) := k7.cell 2
          have f0 : w7.frozen? ⟨w4.heap.size, 0, none⟩ = false := k7.frozen 0
          have f1 : w7.frozen? ⟨w4.heap.size, 1, none⟩ = false := k7.frozen 1
          have f2 : w7.frozen? ⟨w4.heap.size, 2, none⟩ = false := k7.frozen 2
          have k8 := k7.agg3 (.slice A7 n7 c7) (.int .i64 0) (.int .i64 lost2)
          have q8 := hq7.put3 k7 (.slice A7 n7 c7) (.int .i64 0) (.int .i64 lost2)
          have hB8 := below_set3 hB7 (k := w4.heap.size) hs4 (.slice A7 n7 c7) (.int .i64 0) (.int .i64 lost2)
          have K8 := Lib.hid k8
          have Q8 := Lib.hid q8
          obtain ⟨bb, HBB⟩ : ∃ z, Hid (bk k = z) := ⟨_, Lib.hid rfl⟩
          have hbb : bb ≤ 64000 := by rw [← HBB.out]; exact (bk_b k).2
          have e3 : IntKind.i64.wrap (nw + (bb : Int)) = nw + (bb : Int) := wr64i (by omega) (by omega)
          have e4 : IntKind.i64.wrap (nw + (bb : Int) + late) = nw + (bb : Int) + late := wr64i (by omega) (by omega)
          clear hb7 hq7 hn7 k7 k8 q8 hB6 hB6a
          go_wp2_with fail
          refine (back_any (k : Int) _ (by omega)).mono ?_
          rintro e w8 ⟨rfl, rfl⟩
          rw [Int.toNat_natCast, HBB.out]
          go_wp2
          go_roundw
          case rel => exact ⟨k + 1, nw + bb + late, A7, n7, c7, lost2, ns2, by omega, by go_num, rfl, by omega, by push_cast; omega, Lib.hid (Q8.out.more (by simp)), K8, hB8, Lib.hid (by have := HN.out; rw [HN2.out, HL2.out, HBB.out] at this; exact this)⟩
          case measure => simp [intOf]; omega
      · have hk0' : 0 < k := by omega
        obtain rfl := hR4 hk0'
        go_wp2_with fail
        refine (sent_at _ 0 0 [tn A n c L t k x] nw false _ hq6a.out).mono ?_
        rintro e w7 ⟨⟨v7, rfl, hq7⟩, hb7⟩
        rw [HCC.out.1, HCC.out.2.1] at hq7
        obtain ⟨lost2, HL2⟩ : ∃ z, Hid (snL [tn A n c L t k x] false nw 0 = z) := ⟨_, Lib.hid rfl⟩
        obtain ⟨ns2, HN2⟩ : ∃ z, Hid (snNs [tn A n c L t k x] false nw = z) := ⟨_, Lib.hid rfl⟩
        rw [HL2.out, HN2.out] at hq7
        obtain ⟨A7, n7, c7, rfl, hn7, hc7, hc7'⟩ := hq7.out
        have hB7 := hB6a.trans (hb7.mono hB6a.size)
        have k7 := K6.out.below hb7 K6.out.lt
        have u0 : w7.cell? ⟨w4.heap.size, 0, none⟩ = some (.slice Aq 1 cq) := k7.cell 0
        have u1 : w7.cell? ⟨w4.heap.size, 1, none⟩ = some (.int .i64 0) := k7.cell 1
        have u2 : w7.cell? ⟨w4.heap.size, 2, none⟩ = some (.int .i64 0) := k7.cell 2
        have f0 : w7.frozen? ⟨w4.heap.size, 0, none⟩ = false := k7.frozen 0
        have f1 : w7.frozen? ⟨w4.heap.size, 1, none⟩ = false := k7.frozen 1
        have f2 : w7.frozen? ⟨w4.heap.size, 2, none⟩ = false := k7.frozen 2
        have k8 := k7.agg3 (.slice A7 n7 c7) (.int .i64 0) (.int .i64 lost2)
        have q8 := hq7.put3 k7 (.slice A7 n7 c7) (.int .i64 0) (.int .i64 lost2)
        have hB8 := below_set3 hB7 (k := w4.heap.size) hs4 (.slice A7 n7 c7) (.int .i64 0) (.int .i64 lost2)
        have K8 := Lib.hid k8
        have Q8 := Lib.hid q8
        obtain ⟨bb, HBB⟩ : ∃ z, Hid (bk k = z) := ⟨_, Lib.hid rfl⟩
        have hbb : bb ≤ 64000 := by rw [← HBB.out]; exact (bk_b k).2
        have e3 : IntKind.i64.wrap (nw + (bb : Int)) = nw + (bb : Int) := wr64i (by omega) (by omega)
        have e4 : IntKind.i64.wrap (nw + (bb : Int) + late) = nw + (bb : Int) + late := wr64i (by omega) (by omega)
        clear hb7 hq7 hn7 k7 k8 q8 hB6 hB6a
        go_wp2_with fail
        refine (back_any (k : Int) _ (by omega)).mono ?_
        rintro e w8 ⟨rfl, rfl⟩
        rw [Int.toNat_natCast, HBB.out]
        go_wp2
        go_roundw
        case rel => exact ⟨k + 1, nw + bb + late, A7, n7, c7, lost2, ns2, by omega, by go_num, rfl, by omega, by push_cast; omega, Lib.hid (Q8.out.more (by simp)), K8, hB8, Lib.hid (by have := HN.out; rw [HN2.out, HL2.out, HBB.out] at this; exact this)⟩
        case measure => simp [intOf]; omega
    · obtain rfl : k = 8 := by omega
      obtain ⟨rfl, rfl⟩ : ns = [] ∧ lost = 1 := by
        rcases hT.out with ⟨h, -⟩ | ⟨-, h⟩
        · omega
        · exact h
      have hnq : nq = 0 := by
        obtain ⟨A', n', c', e', h', -⟩ := hq.out.out
        injection e' with e'
        simp at e'
        have := h'.len
        simp at this; omega
      subst hnq
      have hI : IsQ [] 0 1 := ⟨by simp, by decide, by decide, fun i hi => absurd hi (by simp)⟩
      have HCC := Lib.hid (c_of hI)
      have w0 := hbk.out.cell 0
      have w1' := hbk.out.cell 1
      have w2' := hbk.out.cell 2
      simp at w0 w1' w2'
      have hgr : w4.heap.size < wr.heap.size := hbk.out.lt
      go_wp2_with fail
      refine (ready_at _ 0 1 [] 9007199254740992 _ hq.out).mono ?_
      rintro e w5 ⟨rfl, hb5⟩
      rw [HCC.out.1]
      simp only [show (rdN [] 9007199254740992).val = .agg #[.slice none 0 0, .bool false, .int .i64 0, .int .i64 0, .int .i64 0] from rfl, show rdB [] 9007199254740992 = false from rfl]
      have hB5 := hB.trans (hb5.mono hB.size)
      have k5 := hbk.out.below hb5 hgr
      have hsz5 : w4.heap.size < w5.heap.size := k5.lt
      have z0 : w5.cell? ⟨w4.heap.size, 0, none⟩ = some (.slice Aq 0 cq) := k5.cell 0
      have z1 : w5.cell? ⟨w4.heap.size, 1, none⟩ = some (.int .i64 0) := k5.cell 1
      have z2 : w5.cell? ⟨w4.heap.size, 2, none⟩ = some (.int .i64 1) := k5.cell 2
      clear hb5 k5 w0 w1' w2'
      go_wp2
      go_ret
      exact ⟨rfl, hB5.alloc hB5.size _⟩
end Go.Proofs.Ytkkbncgnobaliaa
