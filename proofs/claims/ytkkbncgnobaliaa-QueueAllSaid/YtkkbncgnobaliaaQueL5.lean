/-
  The law QueueAll.
-/
import Derived.Test.YtkkbncgnobaliaaQueL2
import Derived.Test.YtkkbncgnobaliaaQueO
import Derived.Test.YtkkbncgnobaliaaChain
namespace Go.Proofs.Ytkkbncgnobaliaa
open Go.RowKit
open CodP
set_option linter.unusedVariables false
theorem grown_set3 {W w' : World} {g : Nat} (h : W.grownBy w' (some g)) (u0 u1 u2 : Value) : W.grownBy (((w'.setCell ⟨g, 0, none⟩ u0).setCell ⟨g, 1, none⟩ u1).setCell ⟨g, 2, none⟩ u2) (some g) :=
  ⟨h.os, h.tape, h.output, by simpa using h.size, fun k hk hk2 => by
    have hne : k ≠ g := fun e => hk2 (by rw [e])
    rw [Below.heap_setCell _ _ _ _ (by exact hne), Below.heap_setCell _ _ _ _ (by exact hne), Below.heap_setCell _ _ _ _ (by exact hne)]
    exact h.block k hk hk2⟩
theorem below_of_grown {W w' : World} {g B : Nat} (h : W.grownBy w' (some g)) (hB : B ≤ g) (hW : B ≤ W.heap.size) : Below B W w' := (Below.refl B W).grown h hW (fun k e => by cases e; exact hB)
/-- Does the i-th one fire? -/
def fb (i : Nat) : Bool := bits .and .i64 (i : Int) 1 == 0
/-- The first k are in the queue. -/
def AllS (ls : List Lab) (t : Int) (k : Nat) (ns : List Nt) : Prop := ns.length = k ∧ ∀ i, i < k → (nt ns i).L = ls.getD i [] ∧ (nt ns i).f = fb i ∧ (nt ns i).t = t + i ∧ (nt ns i).x = t + i
theorem AllS.next {ls : List Lab} {t : Int} {k : Nat} {ns : List Nt} (h : AllS ls t k ns) {y : Nt} (hL : y.L = ls.getD k []) (hf : y.f = fb k) (ht : y.t = t + k) (hx : y.x = t + k) : AllS ls t (k + 1) (ns ++ [y]) := by
  refine ⟨by rw [List.length_append, h.1]; rfl, fun i hi => ?_⟩
  by_cases hik : i < k
  · rw [nt_app_lt (by rw [h.1]; exact hik)]; exact h.2 i hik
  · obtain rfl : i = k := by omega
    rw [show nt (ns ++ [y]) i = y by have := nt_app_at (a := ns) (y := y); rwa [h.1] at this]
    exact ⟨hL, hf, ht, hx⟩
theorem nt_dropk {l : List Nt} {k i : Nat} : nt (l.drop k) i = nt l (k + i) := by
  unfold nt; simp [List.getD_eq_getElem?_getD, List.getElem?_drop]
set_option maxRecDepth 100000 in
set_option maxHeartbeats 12800000 in
theorem queueAll_walk (w : World) (lv : Value) (ol : IsLabels w lv) (t : Int) (ht1 : -9223372036854775808 ≤ t) (ht2 : t ≤ 9223372036854775807) :
    Calls Try.prog 20 #[lv, .int .i64 t] w fun e w' => e = .returned (.bool true) ∧ Below w.heap.size w w' := by
  obtain ⟨A, n, c, ls, rfl, hL, hcap, hm⟩ := ol
  have HL := Lib.hid hL; clear hL
  go_enter Try.func20, Try.ntmps20
  go_wp2_with fail
  refine (qawake_any _).mono ?_
  rintro e w1 ⟨rfl, hb1⟩
  by_cases h16 : 16 < n
  · go_wp2
    go_ret
    exact ⟨rfl, hb1⟩
  have d16 : decide (16 < n) = false := decide_eq_false h16
  by_cases h2 : t < 0
  · go_wp2
    go_ret
    exact ⟨rfl, hb1⟩
  have d2 : decide (t < 0) = false := decide_eq_false h2
  by_cases h3 : 4503599627370496 < t
  · go_wp2
    go_ret
    exact ⟨rfl, hb1⟩
  have d3 : decide (4503599627370496 < t) = false := decide_eq_false h3
  have hB1a := hb1.alloc hb1.size (.cells #[.slice none 0 0, .int .i64 0, .int .i64 0] 75)
  have hbk1 := Lib.hid (Blk.new w1 75 #[.slice none 0 0, .int .i64 0, .int .i64 0])
  have hs1 := hb1.size
  go_wp2
  go_loopw [7] (fun i wr => ∃ (k : Nat) (Aq : Option Addr) (nq cq : Nat) (ns : List Nt), k ≤ n ∧ i = .int .i64 k ∧
    Hid (QV wr wr.heap.size (.agg #[.slice Aq nq cq, .int .i64 0, .int .i64 0]) ns 0 0) ∧ Hid (Blk wr w1.heap.size 75 #[.slice Aq nq cq, .int .i64 0, .int .i64 0]) ∧ Below w.heap.size w wr ∧ Hid (AllS ls t k ns) ∧ Hid (IsQ ns 0 0)) (fun i _ => n - (intOf i).toNat)
  case atStart => exact ⟨0, none, 0, 0, [], by omega, rfl, Lib.hid (QV.nil_ _ _), hbk1, hB1a, Lib.hid ⟨rfl, fun i hi => absurd hi (by omega)⟩, Lib.hid (saneQ_iff.1 nil_saneQ)⟩
  case round =>
    obtain ⟨k, Aq, nq, cq, ns, hk, rfl, hq, hbk, hB, hS, hI⟩ := hrel
    have hsr := hB.size
    have hgr : w1.heap.size < wr.heap.size := hbk.out.lt
    by_cases hlt : k < n
    · obtain ⟨V, hV, hP⟩ := HL.out.out
      obtain ⟨bl, ol, rfl, hbl, hcl⟩ := hV (by omega)
      obtain ⟨A', n', c', eV, hp, hc1', hc2'⟩ := hP k hlt
      have hx := hcl k hlt
      rw [eV] at hx
      have hx1 : wr.cell? ⟨bl, ol + k, none⟩ = some (.slice A' n' c') := (hB.cell (p := ⟨bl, _, none⟩) hbl).trans hx
      obtain ⟨L, HLL⟩ : ∃ L, Hid (ls.getD k [] = L) := ⟨_, Lib.hid rfl⟩
      rw [HLL.out] at hp
      have HP := Lib.hid hp
      have hn'63 : n' ≤ 9223372036854775807 := by omega
      clear hp hcl hP eV hV
      go_wp2_with fail
      refine (few_lab A' n' c' L _ hn'63 (HP.out.now hB)).mono ?_
      rintro e w2 ⟨⟨q, rfl, -⟩, hb2⟩
      have hB2 := hB.trans (hb2.mono hB.size)
      have hx2 : w2.cell? ⟨bl, ol + k, none⟩ = some (.slice A' n' c') := (hB2.cell (p := ⟨bl, _, none⟩) hbl).trans hx
      cases q with
      | false =>
        go_wp2
        go_ret
        exact ⟨rfl, hB2⟩
      | true =>
      go_wp2_with fail
      refine (lsane_any A' n' c' L _ hn'63 (HP.out.now hB2)).mono ?_
      rintro e W ⟨rfl, hb3⟩
      have hB3 := hB2.trans (hb3.mono hB2.size)
      cases hsane : saneL L with
      | false =>
        go_wp2
        go_ret
        exact ⟨rfl, hB3⟩
      | true =>
      have HSANE := Lib.hid hsane
      have hbr3 := hb2.trans (hb3.mono hb2.size)
      have K3 := hbk.out.below hbr3 hgr
      have HQ3 := Lib.hid (hq.out.now hbr3)
      have hgW : w1.heap.size < W.heap.size := K3.lt
      have hxp : ∀ p : Gw W (some w1.heap.size), p.now.cell? ⟨bl, ol + k, none⟩ = some (.slice A' n' c') := fun p => ((hB3.trans (below_of_grown p.gr hs1 hB3.size)).cell (p := ⟨bl, _, none⟩) hbl).trans hx
      obtain ⟨mz, hmz⟩ : ∃ mz, bits .and .i64 (k : Int) 1 = mz := ⟨_, rfl⟩
      obtain ⟨bq, hbq⟩ : ∃ bq, (mz == 0) = bq := ⟨_, rfl⟩
      have HFB := Lib.hid (show fb k = bq by unfold fb; rw [hmz, hbq])
      have htk : IntKind.i64.wrap (t + (k : Int)) = t + (k : Int) := wr64i (by omega) (by omega)
      have q0 : W.cell? ⟨w1.heap.size, 0, none⟩ = some (.slice Aq nq cq) := K3.cell 0
      have q1 : W.cell? ⟨w1.heap.size, 1, none⟩ = some (.int .i64 0) := K3.cell 1
      have q2 : W.cell? ⟨w1.heap.size, 2, none⟩ = some (.int .i64 0) := K3.cell 2
      clear hb2 hb3 hx1 hx2 hsane hB2
      go_wp2_with fail
      refine wp_region_chain (fun w' => ∃ p : Gw W (some w1.heap.size), w' = p.now) ⟨⟨W.drew, ⟨rfl, rfl, rfl, Nat.le_refl _, fun _ _ _ => rfl⟩⟩, rfl⟩ [1, 2, 3, 4, 5, 6, 7, 8, 9, 10] [0, 11, 12] (by kernel_rfl) (by kernel_rfl) (fun _ _ dd _ _ h => by cases dd <;> exact h) ?_
      repeat (
        refine TK.step (by rfl) (fun KK hKK => ?_)
        go_simp
        refine hKK _ ?_; clear hKK KK)
      refine TK.nil_ ?_
      refine CH.step (by rfl) (fun KK hKK => ?_)
      go_simp
      refine hKK _ _ ⟨⟨W.drew, ⟨rfl, rfl, rfl, Nat.le_refl _, fun _ _ _ => rfl⟩⟩, rfl⟩ ?_; clear hKK KK
      refine CH.step (by rfl) (fun KK hKK => ?_)
      go_simp
      go_at_call 50
      refine (push_at _ 0 0 ns A' n' c' L bq (t + (k : Int)) W.drew (HQ3.out.now (Below.refl _ _).drew) (HP.out.now hB3.drew) hc1' hc2').mono ?_
      rintro e w5 ⟨⟨v5, rfl, hq5⟩, hb5⟩
      have hb5 : Below W.heap.size W w5 := (Below.refl _ _).drew.trans hb5
      have hcc := c_of hI.out
      rw [hcc.1, hcc.2.1] at hq5
      have htn : near (t + (k : Int)) = t + (k : Int) := near_id (timeB_iff.2 (by omega))
      have hlen : ns.length = k := hS.out.1
      have e1 : psNs ns L ⟨A', n', c', L, bq, near (t + (k : Int)), 0, near (t + (k : Int))⟩ = ns ++ [⟨A', n', c', L, bq, t + (k : Int), 0, t + (k : Int)⟩] := by
        unfold psNs; rw [if_pos ⟨HSANE.out, by omega⟩, htn]
      have e2 : psD ns L 0 = 0 := by unfold psD; rw [if_neg (by omega)]
      have hI2 := push_sane (L := L) (y := ⟨A', n', c', L, bq, near (t + (k : Int)), 0, near (t + (k : Int))⟩) hI.out (fun h => ok_new A' n' c' bq (t + (k : Int)) h)
      rw [e1, e2] at hq5 hI2
      have hS2 := hS.out.next (y := ⟨A', n', c', L, bq, t + (k : Int), 0, t + (k : Int)⟩) HLL.out.symm HFB.out.symm rfl rfl
      obtain ⟨ns2, HN2⟩ : ∃ z, Hid (ns ++ [(⟨A', n', c', L, bq, t + (k : Int), 0, t + (k : Int)⟩ : Nt)] = z) := ⟨_, Lib.hid rfl⟩
      rw [HN2.out] at hq5 hI2 hS2
      have HS2 := Lib.hid hS2
      have HI2 := Lib.hid hI2
      clear hS2 hI2 e1 e2 hcc htn
      obtain ⟨A5, n5, c5, rfl, hn5, -, -⟩ := hq5.out
      have g5 : W.grownBy w5 (some w1.heap.size) := below_toGrown hb5 _
      refine hKK _ _ ⟨⟨w5, g5⟩, rfl⟩ ?_; clear hKK KK
      have K5 := K3.below hb5 hgW
      have hB5 := hB3.trans (hb5.mono hB3.size)
      have u0 : w5.cell? ⟨w1.heap.size, 0, none⟩ = some (.slice Aq nq cq) := K5.cell 0
      have u1 : w5.cell? ⟨w1.heap.size, 1, none⟩ = some (.int .i64 0) := K5.cell 1
      have u2 : w5.cell? ⟨w1.heap.size, 2, none⟩ = some (.int .i64 0) := K5.cell 2
      have f0 : w5.frozen? ⟨w1.heap.size, 0, none⟩ = false := K5.frozen 0
      have f1 : w5.frozen? ⟨w1.heap.size, 1, none⟩ = false := K5.frozen 1
      have f2 : w5.frozen? ⟨w1.heap.size, 2, none⟩ = false := K5.frozen 2
      refine CH.step (by rfl) (fun KK hKK => ?_)
      go_simp
      refine hKK _ _ ⟨⟨_, grown_set3 g5 (.slice A5 n5 c5) (.int .i64 0) (.int .i64 0)⟩, rfl⟩ ?_; clear hKK KK
      refine CH.nil_ ?_
      have K8 := Lib.hid (K5.agg3 (.slice A5 n5 c5) (.int .i64 0) (.int .i64 0))
      have Q8 := Lib.hid (hq5.put3 K5 (.slice A5 n5 c5) (.int .i64 0) (.int .i64 0))
      have hB8 := below_set3 hB5 (k := w1.heap.size) hs1 (.slice A5 n5 c5) (.int .i64 0) (.int .i64 0)
      clear hb5 hq5 hn5 g5 K5 u0 u1 u2 f0 f1 f2 K3 q0 q1 q2 hxp
      go_wp2
      go_roundw
      case rel => exact ⟨k + 1, A5, n5, c5, ns2, by omega, by go_num, Lib.hid (Q8.out.more (by simp)), K8, hB8, HS2, HI2⟩
      case measure => simp [intOf]; omega
    · obtain rfl : k = n := by omega
      have HS := hS
      have HI := hI
      have hlenN : ns.length = k := hS.out.1
      have HLN := Lib.hid hlenN
      have htl : IntKind.i64.wrap (t + (k : Int)) = t + (k : Int) := wr64i (by omega) (by omega)
      have HNR := Lib.hid (near_id (timeB_iff.2 (show 0 ≤ t + (k : Int) ∧ t + (k : Int) ≤ 9007199254740992 by omega)))
      clear hI hS hlenN
      go_wp2
      go_loopw [8] (fun i wx => ∃ (j : Nat) (Aq : Option Addr) (nq cq : Nat), j ≤ k ∧ i = .int .i64 j ∧
        Hid (QV wx wx.heap.size (.agg #[.slice Aq nq cq, .int .i64 0, .int .i64 0]) (ns.drop j) 0 0) ∧ Hid (Blk wx w1.heap.size 75 #[.slice Aq nq cq, .int .i64 0, .int .i64 0]) ∧ Below w.heap.size w wx ∧ Hid (IsQ (ns.drop j) 0 0)) (fun i _ => k - (intOf i).toNat)
      case atStart => exact ⟨0, Aq, nq, cq, by omega, rfl, hq, hbk, hB, HI⟩
      case round =>
        obtain ⟨j, Ax, nx, cx, hj, rfl, hqx, hbx, hBx, hIx⟩ := hrel
        have hsx := hBx.size
        have hgx : w1.heap.size < wr.heap.size := hbx.out.lt
        have hcc := c_of hIx.out
        have x0 : wr.cell? ⟨w1.heap.size, 0, none⟩ = some (.slice Ax nx cx) := hbx.out.cell 0
        have x1 : wr.cell? ⟨w1.heap.size, 1, none⟩ = some (.int .i64 0) := hbx.out.cell 1
        have x2 : wr.cell? ⟨w1.heap.size, 2, none⟩ = some (.int .i64 0) := hbx.out.cell 2
        have HCC := Lib.hid hcc
        clear hcc
        by_cases hlt : j < k
        · obtain ⟨hyL, hyf, hyt, hyx⟩ := HS.out.2 j hlt
          obtain ⟨⟨yA, yn, yc, yL, yf, yt, yk, yx⟩, HY⟩ : ∃ y, Hid (nt ns j = y) := ⟨_, Lib.hid rfl⟩
          rw [HY.out] at hyL hyf hyt hyx
          simp only at hyL hyf hyt hyx
          subst hyt hyx
          have hrd : rdB (ns.drop j) (t + (k : Int)) = true := by
            unfold rdB
            simp only [Bool.and_eq_true, decide_eq_true_eq]
            refine ⟨by rw [List.length_drop, HLN.out]; omega, ?_⟩
            rw [nt_dropk, HNR.out, Nat.add_zero, HY.out]
            show t + (j : Int) ≤ _
            omega
          have hrn : rdN (ns.drop j) (t + (k : Int)) = ⟨yA, yn, yc, yL, yf, t + (j : Int), yk, t + (j : Int)⟩ := by
            unfold rdN; rw [hrd, nt_dropk, Nat.add_zero, HY.out]; rfl
          have hsn : snNs (ns.drop j) true (t + (k : Int)) = ns.drop (j + 1) ∧ snL (ns.drop j) true (t + (k : Int)) 0 = 0 := by
            unfold snNs snL
            rw [hrd]
            simp [bcN, bcL, List.drop_drop]
          have HRD := Lib.hid hrd
          have HRN := Lib.hid hrn
          have HSN := Lib.hid hsn
          have HRY : Hid (Rn wr wr.heap.size ⟨yA, yn, yc, yL, yf, t + (j : Int), yk, t + (j : Int)⟩) := by
            obtain ⟨A', n', c', e', h', -⟩ := hqx.out.out
            have := h'.rn 0 (by rw [← h'.len, List.length_drop, HLN.out]; omega)
            rw [nt_dropk, Nat.add_zero, HY.out] at this
            exact Lib.hid this
          obtain ⟨V, hV, hP⟩ := HL.out.out
          obtain ⟨bl, ol, rfl, hbl, hcl⟩ := hV (by omega)
          obtain ⟨A', n', c', eV, hp, hc1', hc2'⟩ := hP j hlt
          have hx := hcl j hlt
          rw [eV] at hx
          rw [← hyL] at hp
          have HP := Lib.hid hp
          have hn'63 : n' ≤ 9223372036854775807 := by omega
          clear hp hcl hP eV hV hrd hrn hsn hyL
          go_wp2_with fail
          refine (ready_at _ 0 0 (ns.drop j) (t + (k : Int)) _ hqx.out).mono ?_
          rintro e w5 ⟨rfl, hb5⟩
          rw [HCC.out.1, HRD.out, HRN.out]
          simp only [Nt.val]
          have hB5 := hBx.trans (hb5.mono hBx.size)
          have k5 := hbx.out.below hb5 hgx
          have hB5a := hB5.alloc hB5.size (.cells #[.slice yA yn yc, .bool yf, .int .i64 (t + (j : Int)), .int .i64 yk, .int .i64 (t + (j : Int))] 80)
          have K5 := Lib.hid (k5.alloc (.cells #[.slice yA yn yc, .bool yf, .int .i64 (t + (j : Int)), .int .i64 yk, .int .i64 (t + (j : Int))] 80))
          have hb5a := hb5.alloc hb5.size (.cells #[.slice yA yn yc, .bool yf, .int .i64 (t + (j : Int)), .int .i64 yk, .int .i64 (t + (j : Int))] 80)
          have Q5 := Lib.hid (hqx.out.now hb5a)
          have R5 := Lib.hid (HRY.out.now hb5a)
          have M5 := Lib.hid (Blk.new w5 80 #[.slice yA yn yc, .bool yf, .int .i64 (t + (j : Int)), .int .i64 yk, .int .i64 (t + (j : Int))])
          obtain ⟨W, hW⟩ : ∃ W, w5.alloc (.cells #[.slice yA yn yc, .bool yf, .int .i64 (t + (j : Int)), .int .i64 yk, .int .i64 (t + (j : Int))] 80) = W := ⟨_, rfl⟩
          rw [hW] at K5 Q5 R5 M5 hB5a
          have m0 : ∀ p : Bel W, p.now.cell? ⟨w5.heap.size, 0, none⟩ = some (.slice yA yn yc) := Bel.cells M5.out 0
          have m1 : ∀ p : Bel W, p.now.cell? ⟨w5.heap.size, 1, none⟩ = some (.bool yf) := Bel.cells M5.out 1
          have m2 : ∀ p : Bel W, p.now.cell? ⟨w5.heap.size, 2, none⟩ = some (.int .i64 (t + (j : Int))) := Bel.cells M5.out 2
          have hxp : ∀ p : Bel W, p.now.cell? ⟨bl, ol + j, none⟩ = some (.slice A' n' c') := fun p => ((hB5a.trans (p.bel.mono hB5a.size)).cell (p := ⟨bl, _, none⟩) hbl).trans hx
          obtain ⟨mz, hmz⟩ : ∃ mz, bits .and .i64 (j : Int) 1 = mz := ⟨_, rfl⟩
          have hbq : (mz == 0) = yf := by rw [hyf]; unfold fb; rw [hmz]
          have htj : IntKind.i64.wrap (t + (j : Int)) = t + (j : Int) := wr64i (by omega) (by omega)
          have hyn : yn ≤ 9223372036854775807 := by have := HRY.out.cap; simp only at this; omega
          have SC := Lib.hid (show ∀ p : Bel W, Calls Try.prog 39 #[.slice yA yn yc, .slice A' n' c'] p.now fun e w'' => e = .returned (.bool true) ∧ ∃ q : Bel W, w'' = q.now from fun p => Calls.bel_of ((same_lab yA yn yc yL A' n' c' yL p.now hyn hn'63 (R5.out.prs.now p.bel) (HP.out.now (hB5a.trans (p.bel.mono hB5a.size)))).mono fun _ _ ⟨⟨b, h1, h2⟩, h3⟩ => ⟨by rw [h1, h2 rfl], h3⟩))
          have HW := Lib.hid hW
          have HYF := Lib.hid hyf
          clear hW hb5 hb5a k5 hyf
          go_wp2_with fail
          rw [HW.out]
          refine wp_region_bel (by kernel_rfl) (by kernel_rfl) ?_
          repeat (
            refine WQ.step (fun KK hKK => ?_)
            go_simp
            first
              | (refine hKK _ ?_; clear hKK KK)
              | (apply Exists.intro; refine ⟨fun _ => ?_, hKK _ ?_⟩; ((go_at_call 39; exact SC.out _)); clear hKK KK))
          refine WQ.nil_ ?_
          rintro wq1 ⟨⟨wq, hq⟩, hwq⟩
          obtain rfl : wq = wq1 := hwq.symm
          clear hwq
          have Kq := K5.out.below hq K5.out.lt
          have hBq := hB5a.trans (hq.mono hB5a.size)
          have Qq := Lib.hid (Q5.out.now hq)
          have y0 : wq.cell? ⟨w1.heap.size, 0, none⟩ = some (.slice Ax nx cx) := Kq.cell 0
          have y1 : wq.cell? ⟨w1.heap.size, 1, none⟩ = some (.int .i64 0) := Kq.cell 1
          have y2 : wq.cell? ⟨w1.heap.size, 2, none⟩ = some (.int .i64 0) := Kq.cell 2
          have hgq : w1.heap.size < wq.heap.size := Kq.lt
          clear hq m0 m1 m2 hxp x0 x1 x2 hB5 hB5a hbl hx
          go_wp2_with fail
          refine (sent_at _ 0 0 (ns.drop j) (t + (k : Int)) true _ Qq.out).mono ?_
          rintro e w7 ⟨⟨v7, rfl, hq7⟩, hb7⟩
          rw [HCC.out.1, HCC.out.2.1, HSN.out.1, HSN.out.2] at hq7
          have hI7 := sent_sane hIx.out true (t + (k : Int))
          rw [HSN.out.1, HSN.out.2] at hI7
          have HI7 := Lib.hid hI7
          obtain ⟨A7, n7, c7, rfl, hn7, -, -⟩ := hq7.out
          have hB7 := hBq.trans (hb7.mono hBq.size)
          have K7 := Kq.below hb7 Kq.lt
          have u0 : w7.cell? ⟨w1.heap.size, 0, none⟩ = some (.slice Ax nx cx) := K7.cell 0
          have u1 : w7.cell? ⟨w1.heap.size, 1, none⟩ = some (.int .i64 0) := K7.cell 1
          have u2 : w7.cell? ⟨w1.heap.size, 2, none⟩ = some (.int .i64 0) := K7.cell 2
          have f0 : w7.frozen? ⟨w1.heap.size, 0, none⟩ = false := K7.frozen 0
          have f1 : w7.frozen? ⟨w1.heap.size, 1, none⟩ = false := K7.frozen 1
          have f2 : w7.frozen? ⟨w1.heap.size, 2, none⟩ = false := K7.frozen 2
          have K8 := Lib.hid (K7.agg3 (.slice A7 n7 c7) (.int .i64 0) (.int .i64 0))
          have Q8 := Lib.hid (hq7.put3 K7 (.slice A7 n7 c7) (.int .i64 0) (.int .i64 0))
          have hB8 := below_set3 hB7 (k := w1.heap.size) hs1 (.slice A7 n7 c7) (.int .i64 0) (.int .i64 0)
          clear hb7 hq7 hn7 Kq K7 y0 y1 y2 hI7
          go_wp2
          go_roundw
          case rel => exact ⟨j + 1, A7, n7, c7, by omega, by go_num, Lib.hid (Q8.out.more (by simp)), K8, hB8, HI7⟩
          case measure => simp [intOf]; omega
        · obtain rfl : j = k := by omega
          have hdr : ns.drop j = [] := List.drop_eq_nil_of_le (by rw [HLN.out]; exact Nat.le_refl _)
          have HDR := Lib.hid hdr
          clear hdr
          go_wp2_with fail
          refine (ready_at _ 0 0 (ns.drop j) 9007199254740992 _ hqx.out).mono ?_
          rintro e w5 ⟨rfl, hb5⟩
          rw [HCC.out.1, HDR.out]
          simp only [show (rdN [] 9007199254740992).val = .agg #[.slice none 0 0, .bool false, .int .i64 0, .int .i64 0, .int .i64 0] from rfl, show rdB [] 9007199254740992 = false from rfl]
          have hB5 := hBx.trans (hb5.mono hBx.size)
          have k5 := hbx.out.below hb5 hgx
          have hsz5 : w1.heap.size < w5.heap.size := k5.lt
          have z1 : w5.cell? ⟨w1.heap.size, 1, none⟩ = some (.int .i64 0) := k5.cell 1
          have z2 : w5.cell? ⟨w1.heap.size, 2, none⟩ = some (.int .i64 0) := k5.cell 2
          clear hb5 k5 x0 x1 x2
          go_wp2
          go_ret
          exact ⟨rfl, hB5.alloc hB5.size _⟩
end Go.Proofs.Ytkkbncgnobaliaa
