/-
  queues: Sane, counted.
-/
import Derived.Test.YtkkbncgnobaliaaQue
namespace Go.Proofs.Ytkkbncgnobaliaa
open Go.RowKit
open CodP
set_option linter.unusedVariables false
/-- May a note be? -/
def okN (y : Nt) : Prop := saneL y.L = true ∧ timeB y.t = true ∧ timeB y.x = true ∧ 0 ≤ y.k ∧ y.k < 8
def okNs (k : Nat) (ns : List Nt) : Prop := ∀ i, i < k → okN (nt ns i)
def IsQ (ns : List Nt) (d l : Int) : Prop := ns.length ≤ 16 ∧ timeB d = true ∧ timeB l = true ∧ okNs ns.length ns
open Classical in
noncomputable def saneQ (ns : List Nt) (d l : Int) : Bool := decide (IsQ ns d l)
theorem saneQ_iff {ns : List Nt} {d l : Int} : saneQ ns d l = true ↔ IsQ ns d l := by unfold saneQ; simp
theorem saneQ_no {ns : List Nt} {d l : Int} : saneQ ns d l = false ↔ ¬ IsQ ns d l := by unfold saneQ; simp
theorem okNs.succ {k : Nat} {ns : List Nt} (h : okNs k ns) (h1 : okN (nt ns k)) : okNs (k + 1) ns := fun i hi => by
  rcases Nat.lt_or_ge i k with h' | h'
  · exact h i h'
  · obtain rfl : i = k := by omega
    exact h1
set_option maxRecDepth 100000 in
set_option maxHeartbeats 1600000 in
theorem qsane_any (A : Option Addr) (n c : Nat) (d l : Int) (ns : List Nt) (w : World) (hn : n ≤ 9223372036854775807) (hb : Nts w w.heap.size A n ns) :
    Calls Try.prog 49 #[.agg #[.slice A n c, .int .i64 d, .int .i64 l]] w fun e w' => e = .returned (.bool (saneQ ns d l)) ∧ Below w.heap.size w w' := by
  have HB := Lib.hid hb; clear hb
  have HL := Lib.hid HB.out.len
  by_cases h16 : n ≤ 16
  case neg =>
    have HS := Lib.hid (show saneQ ns d l = false from saneQ_no.2 fun h => h16 (by have := h.1; rw [HL.out] at this; exact this))
    go_enter Try.func49, Try.ntmps49
    go_wp2
    go_ret
    exact ⟨rbL HS.out.symm, (Below.refl _ _).alloc (Nat.le_refl _) _⟩
  have d16 : decide (16 < n) = false := decide_eq_false (by omega)
  have d16' : decide (16 < (n : Int)) = false := decide_eq_false (by omega)
  cases hd : timeB d
  · have HS := Lib.hid (show saneQ ns d l = false from saneQ_no.2 fun h => by rw [h.2.1] at hd; cases hd)
    have HD := Lib.hid hd; clear hd
    go_enter Try.func49, Try.ntmps49
    go_wp2_with fail
    refine (time_any d _).mono ?_
    rintro e w1 ⟨rfl, rfl⟩
    rw [HD.out]
    go_wp2
    go_ret
    exact ⟨rbL HS.out.symm, (Below.refl _ _).alloc (Nat.le_refl _) _⟩
  cases hl : timeB l
  · have HS := Lib.hid (show saneQ ns d l = false from saneQ_no.2 fun h => by rw [h.2.2.1] at hl; cases hl)
    have HD := Lib.hid hd; clear hd
    have HT := Lib.hid hl; clear hl
    go_enter Try.func49, Try.ntmps49
    go_wp2_with fail
    refine (time_any d _).mono ?_
    rintro e w1 ⟨rfl, rfl⟩
    rw [HD.out]
    go_wp2_with fail
    refine (time_any l _).mono ?_
    rintro e w1 ⟨rfl, rfl⟩
    rw [HT.out]
    go_wp2
    go_ret
    exact ⟨rbL HS.out.symm, (Below.refl _ _).alloc (Nat.le_refl _) _⟩
  have HD := Lib.hid hd; clear hd
  have HT := Lib.hid hl; clear hl
  go_enter Try.func49, Try.ntmps49
  go_wp2_with fail
  refine (time_any d _).mono ?_
  rintro e w1 ⟨rfl, rfl⟩
  rw [HD.out]
  go_wp2_with fail
  refine (time_any l _).mono ?_
  rintro e w1 ⟨rfl, rfl⟩
  rw [HT.out]
  go_wp2
  go_loopw [24] (fun i wr => ∃ k : Nat, k ≤ n ∧ i = .int .i64 k ∧ Hid (okNs k ns) ∧ Below w.heap.size w wr) (fun i _ => n - (intOf i).toNat)
  case atStart => exact ⟨0, by omega, rfl, Lib.hid (fun i hi => absurd hi (by omega)), (Below.refl _ _).alloc (Nat.le_refl _) _⟩
  case round =>
    obtain ⟨k, hk, rfl, hok, hB⟩ := hrel
    by_cases hlt : k < n
    · obtain ⟨b, off, rfl, hbB, hc0, hc1, hc2, hc3, hc4⟩ := HB.out.at_ hlt
      obtain ⟨y, HY⟩ : ∃ y, Hid (nt ns k = y) := ⟨_, Lib.hid rfl⟩
      rw [HY.out] at hc0 hc1 hc2 hc3 hc4
      have hx0 : wr.cell? ⟨b, off + k * 5, none⟩ = some (.slice y.A y.n y.c) := (hB.cell (p := ⟨b, _, none⟩) hbB).trans hc0
      have hx1 : wr.cell? ⟨b, off + k * 5 + 1, none⟩ = some (.bool y.f) := (hB.cell (p := ⟨b, _, none⟩) hbB).trans hc1
      have hx2 : wr.cell? ⟨b, off + k * 5 + 2, none⟩ = some (.int .i64 y.t) := (hB.cell (p := ⟨b, _, none⟩) hbB).trans hc2
      have hx3 : wr.cell? ⟨b, off + k * 5 + 3, none⟩ = some (.int .i64 y.k) := (hB.cell (p := ⟨b, _, none⟩) hbB).trans hc3
      have hx4 : wr.cell? ⟨b, off + k * 5 + 4, none⟩ = some (.int .i64 y.x) := (hB.cell (p := ⟨b, _, none⟩) hbB).trans hc4
      clear hc0 hc1 hc2 hc3 hc4
      have HR := Lib.hid (show Rn w w.heap.size y by rw [← HY.out]; exact HB.out.rn k hlt)
      have HK := Lib.hid (show saneQ ns d l = true → okN y from fun h => by rw [← HY.out]; exact (saneQ_iff.1 h).2.2.2 k (by rw [HL.out]; exact hlt))
      have HN := Lib.hid (show okN y → okNs (k + 1) ns from fun h => hok.out.succ (by rw [HY.out]; exact h))
      obtain ⟨yA, yn, yc, yL, yf, yt, yk, yx⟩ := y
      dsimp only at hx0 hx1 hx2 hx3 hx4
      have hyn : yn ≤ 9223372036854775807 := by have := HR.out.cap; simp at this; omega
      have hB2 := hB.alloc hB.size (.cells #[.slice yA yn yc, .bool yf, .int .i64 yt, .int .i64 yk, .int .i64 yx] 80)
      have HP := Lib.hid (show Prs (wr.alloc (.cells #[.slice yA yn yc, .bool yf, .int .i64 yt, .int .i64 yk, .int .i64 yx] 80)) (wr.alloc (.cells #[.slice yA yn yc, .bool yf, .int .i64 yt, .int .i64 yk, .int .i64 yx] 80)).heap.size yA yn yL from HR.out.prs.now hB2)
      go_wp2_with fail
      refine (lsane_any yA yn yc yL _ hyn HP.out).mono ?_
      rintro e w2 ⟨rfl, hb2⟩
      have hB3 := hB2.trans (hb2.mono hB2.size)
      have hz0 : w2.cell? ⟨wr.heap.size, 2, none⟩ = some (.int .i64 yt) := ((Blk.new wr 80 #[.slice yA yn yc, .bool yf, .int .i64 yt, .int .i64 yk, .int .i64 yx]).below hb2 (by simp)).cell 2
      have hz1 : w2.cell? ⟨wr.heap.size, 4, none⟩ = some (.int .i64 yx) := ((Blk.new wr 80 #[.slice yA yn yc, .bool yf, .int .i64 yt, .int .i64 yk, .int .i64 yx]).below hb2 (by simp)).cell 4
      have hz2 : w2.cell? ⟨wr.heap.size, 3, none⟩ = some (.int .i64 yk) := ((Blk.new wr 80 #[.slice yA yn yc, .bool yf, .int .i64 yt, .int .i64 yk, .int .i64 yx]).below hb2 (by simp)).cell 3
      clear hb2 hB2
      cases c1 : saneL yL
      · have HS := Lib.hid (show saneQ ns d l = false by
          cases h : saneQ ns d l
          · rfl
          · have := (HK.out h).1; simp only at this; rw [c1] at this; cases this)
        go_wp2
        go_ret
        exact ⟨rbL HS.out.symm, hB3⟩
      cases c2 : timeB yt
      · have HS := Lib.hid (show saneQ ns d l = false by
          cases h : saneQ ns d l
          · rfl
          · have := (HK.out h).2.1; simp only at this; rw [c2] at this; cases this)
        have HC2 := Lib.hid c2; clear c2
        go_wp2_with fail
        refine (time_any yt _).mono ?_
        rintro e w1 ⟨rfl, rfl⟩
        rw [HC2.out]
        go_wp2
        go_ret
        exact ⟨rbL HS.out.symm, hB3⟩
      cases c3 : timeB yx
      · have HS := Lib.hid (show saneQ ns d l = false by
          cases h : saneQ ns d l
          · rfl
          · have := (HK.out h).2.2.1; simp only at this; rw [c3] at this; cases this)
        have HC2 := Lib.hid c2; clear c2
        have HC3 := Lib.hid c3; clear c3
        go_wp2_with fail
        refine (time_any yt _).mono ?_
        rintro e w1 ⟨rfl, rfl⟩
        rw [HC2.out]
        go_wp2_with fail
        refine (time_any yx _).mono ?_
        rintro e w1 ⟨rfl, rfl⟩
        rw [HC3.out]
        go_wp2
        go_ret
        exact ⟨rbL HS.out.symm, hB3⟩
      by_cases c4 : yk < 0
      · have HS := Lib.hid (show saneQ ns d l = false by
          cases h : saneQ ns d l
          · rfl
          · have := (HK.out h).2.2.2.1; simp only at this; omega)
        have HC2 := Lib.hid c2; clear c2
        have HC3 := Lib.hid c3; clear c3
        go_wp2_with fail
        refine (time_any yt _).mono ?_
        rintro e w1 ⟨rfl, rfl⟩
        rw [HC2.out]
        go_wp2_with fail
        refine (time_any yx _).mono ?_
        rintro e w1 ⟨rfl, rfl⟩
        rw [HC3.out]
        go_wp2
        go_ret
        exact ⟨rbL HS.out.symm, hB3⟩
      have d4 : decide (yk < 0) = false := decide_eq_false c4
      by_cases c5 : 8 ≤ yk
      · have HS := Lib.hid (show saneQ ns d l = false by
          cases h : saneQ ns d l
          · rfl
          · have := (HK.out h).2.2.2.2; simp only at this; omega)
        have HC2 := Lib.hid c2; clear c2
        have HC3 := Lib.hid c3; clear c3
        go_wp2_with fail
        refine (time_any yt _).mono ?_
        rintro e w1 ⟨rfl, rfl⟩
        rw [HC2.out]
        go_wp2_with fail
        refine (time_any yx _).mono ?_
        rintro e w1 ⟨rfl, rfl⟩
        rw [HC3.out]
        go_wp2
        go_ret
        exact ⟨rbL HS.out.symm, hB3⟩
      have d5 : decide (8 ≤ yk) = false := decide_eq_false c5
      have HN := Lib.hid (HN.out ⟨c1, c2, c3, by simp only; omega, by simp only; omega⟩)
      have HC2 := Lib.hid c2; clear c2
      have HC3 := Lib.hid c3; clear c3
      go_wp2_with fail
      refine (time_any yt _).mono ?_
      rintro e w1 ⟨rfl, rfl⟩
      rw [HC2.out]
      go_wp2_with fail
      refine (time_any yx _).mono ?_
      rintro e w1 ⟨rfl, rfl⟩
      rw [HC3.out]
      go_wp2
      go_roundw
      case rel => exact ⟨k + 1, by omega, by go_num, HN, hB3⟩
      case measure => simp [intOf]; omega
    · obtain rfl : k = n := by omega
      have HS := Lib.hid (show saneQ ns d l = true from saneQ_iff.2 ⟨by rw [HL.out]; exact h16, HD.out, HT.out, by rw [HL.out]; exact hok.out⟩)
      go_wp2
      go_ret
      exact ⟨rbL HS.out.symm, hB⟩
/-- A queue in memory. -/
structure QV (w : World) (B : Nat) (v : Value) (ns : List Nt) (d l : Int) : Prop where
  out : ∃ A n c, v = .agg #[.slice A n c, .int .i64 d, .int .i64 l] ∧ Nts w B A n ns ∧ n ≤ c ∧ c ≤ 9223372036854775807
section
variable {w w' : World} {B B' : Nat} {v : Value} {ns : List Nt} {d l : Int}
theorem QV.below (h : QV w B v ns d l) (hb : Below B w w') : QV w' B v ns d l := by
  obtain ⟨A, n, c, e, h1, h2⟩ := h.out
  exact ⟨A, n, c, e, h1.below hb, h2⟩
theorem QV.more (h : QV w B v ns d l) (hB : B ≤ B') : QV w B' v ns d l := by
  obtain ⟨A, n, c, e, h1, h2⟩ := h.out
  exact ⟨A, n, c, e, h1.more hB, h2⟩
theorem QV.now (h : QV w w.heap.size v ns d l) (hb : Below w.heap.size w w') : QV w' w'.heap.size v ns d l := (h.below hb).more hb.size
theorem QV.nil_ (w : World) (B : Nat) : QV w B (.agg #[.slice none 0 0, .int .i64 0, .int .i64 0]) [] 0 0 := ⟨_, _, _, rfl, Nts.nil_ _ _ _, Nat.le_refl _, by omega⟩
end
/-- What a queue counts as. -/
noncomputable def cNs (ns : List Nt) (d l : Int) : List Nt := if saneQ ns d l then ns else []
noncomputable def cI (ns : List Nt) (d l x : Int) : Int := if saneQ ns d l then x else 0
theorem nil_saneQ : saneQ [] 0 0 = true := saneQ_iff.2 ⟨by simp, by decide, by decide, fun i hi => absurd hi (by simp)⟩
theorem c_sane (ns : List Nt) (d l : Int) : IsQ (cNs ns d l) (cI ns d l d) (cI ns d l l) := by
  unfold cNs cI
  cases h : saneQ ns d l
  · simp only [Bool.false_eq_true, if_false]; exact saneQ_iff.1 nil_saneQ
  · simp only [if_true]; exact saneQ_iff.1 h
theorem c_of {ns : List Nt} {d l : Int} (h : IsQ ns d l) : cNs ns d l = ns ∧ cI ns d l d = d ∧ cI ns d l l = l := by
  have := saneQ_iff.2 h
  simp [cNs, cI, this]
set_option maxRecDepth 100000 in
set_option maxHeartbeats 1600000 in
theorem counted_at (B : Nat) (v : Value) (d l : Int) (ns : List Nt) (w : World) (hBw : B ≤ w.heap.size) (hb : QV w B v ns d l) :
    Calls Try.prog 67 #[v] w fun e w' => (∃ v', e = .returned v' ∧ QV w' B v' (cNs ns d l) (cI ns d l d) (cI ns d l l)) ∧ Below w.heap.size w w' := by
  obtain ⟨A, n, c, rfl, h1, h2, h3⟩ := hb.out
  have HB0 := Lib.hid h1
  have HB := Lib.hid (h1.more hBw); clear h1 hb
  have hn : n ≤ 9223372036854775807 := by omega
  go_enter Try.func67, Try.ntmps67
  go_wp2_with fail
  refine (qsane_any A n c d l ns _ hn (HB.out.now ?hb0)).mono ?_
  case hb0 => exact ((Below.refl _ _).alloc (Nat.le_refl _) _).alloc (by simp) _
  rintro e w2 ⟨rfl, hb2⟩
  have hB2 : Below w.heap.size w w2 := (((Below.refl w.heap.size w).alloc (Nat.le_refl _) _).alloc (by simp) _).trans (hb2.mono (by simp; omega))
  have b0 := ((Blk.new w 75 #[.slice A n c, .int .i64 d, .int .i64 l]).alloc (.cells #[.slice none 0 0, .int .i64 0, .int .i64 0] 75)).below hb2 (by simp; omega)
  have b1 := (Blk.new (w.alloc (.cells #[.slice A n c, .int .i64 d, .int .i64 l] 75)) 75 #[.slice none 0 0, .int .i64 0, .int .i64 0]).below hb2 (by simp)
  simp only [World.size_alloc] at b1
  have x0 : w2.cell? ⟨w.heap.size, 0, none⟩ = some (.slice A n c) := b0.cell 0
  have x1 : w2.cell? ⟨w.heap.size, 1, none⟩ = some (.int .i64 d) := b0.cell 1
  have x2 : w2.cell? ⟨w.heap.size, 2, none⟩ = some (.int .i64 l) := b0.cell 2
  have y0 : w2.cell? ⟨w.heap.size + 1, 0, none⟩ = some (.slice none 0 0) := b1.cell 0
  have y1 : w2.cell? ⟨w.heap.size + 1, 1, none⟩ = some (.int .i64 0) := b1.cell 1
  have y2 : w2.cell? ⟨w.heap.size + 1, 2, none⟩ = some (.int .i64 0) := b1.cell 2
  have z0 : w2.frozen? ⟨w.heap.size + 1, 0, none⟩ = false := b1.frozen 0
  have z1 : w2.frozen? ⟨w.heap.size + 1, 1, none⟩ = false := b1.frozen 1
  have z2 : w2.frozen? ⟨w.heap.size + 1, 2, none⟩ = false := b1.frozen 2
  clear hb2 b0 b1
  cases hs : saneQ ns d l
  · have HE := Lib.hid (show cNs ns d l = [] ∧ cI ns d l d = 0 ∧ cI ns d l l = 0 by unfold cNs cI; rw [hs]; exact ⟨rfl, rfl, rfl⟩)
    go_wp2
    refine bodyPost_ret (v := .agg #[.slice none 0 0, .int .i64 0, .int .i64 0]) (by simp [results, Try.results67, go_sem, y0, y1, y2]) rfl ?_
    exact ⟨⟨_, rfl, by rw [HE.out.1, HE.out.2.1, HE.out.2.2]; exact QV.nil_ _ _⟩, ((hB2.setCell (by simp) _).setCell (by simp) _).setCell (by simp) _⟩
  · have HE := Lib.hid (show cNs ns d l = ns ∧ cI ns d l d = d ∧ cI ns d l l = l by unfold cNs cI; rw [hs]; exact ⟨rfl, rfl, rfl⟩)
    go_wp2
    refine bodyPost_ret (v := .agg #[.slice A n c, .int .i64 d, .int .i64 l]) (by simp [results, Try.results67, go_sem, y0, y1, y2]) rfl ?_
    refine ⟨⟨_, rfl, ?_⟩, ?_⟩
    rotate_left
    · exact ((hB2.setCell (by simp) _).setCell (by simp) _).setCell (by simp) _
    · rw [HE.out.1, HE.out.2.1, HE.out.2.2]
      exact ⟨A, n, c, rfl, HB0.out.below ((((hB2.setCell (by simp) _).setCell (by simp) _).setCell (by simp) _).mono hBw), by omega, by omega⟩
end Go.Proofs.Ytkkbncgnobaliaa
