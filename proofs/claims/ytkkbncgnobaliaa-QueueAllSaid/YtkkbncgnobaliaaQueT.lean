/-
  queues: what becomes of the first note.
-/
import Derived.Test.YtkkbncgnobaliaaQueR
import Derived.Deep.RegionHeld3
namespace Go.Proofs.Ytkkbncgnobaliaa
open Go.RowKit
open CodP
set_option linter.unusedVariables false
/-- What becomes of the first note: it is gone, or waits. -/
def bcN (y : Nt) (ok : Bool) (now : Int) : List Nt := if ok then [] else if 7 ≤ y.k then [] else [{ y with k := y.k + 1, x := near (now + bk y.k.toNat) }]
def bcL (y : Nt) (ok : Bool) (lost : Int) : Int := if ok then lost else if 7 ≤ y.k then min (lost + 1) 9007199254740992 else lost
theorem Own5.fresh1 (w : World) (e base : Nat) (y : Nt) (hb : base ≤ w.heap.size) : Own5 (w.alloc (.cells #[.slice y.A y.n y.c, .bool y.f, .int .i64 y.t, .int .i64 y.k, .int .i64 y.x] e)) base e (.slice (some ⟨w.heap.size, 0, none⟩) 1 1) [y] :=
  ⟨rfl, .inr ⟨w.heap.size, 1, #[.slice y.A y.n y.c, .bool y.f, .int .i64 y.t, .int .i64 y.k, .int .i64 y.x], rfl, hb, heap_alloc_new w _, Nat.le_refl _, by unfold maxLen; omega, rfl, rfl⟩⟩
theorem below_toGrown {w w' : World} (h : Below w.heap.size w w') (r : Option Nat) : w.grownBy w' r := ⟨h.os, h.tape, h.output, h.size, fun k hk _ => h.block k hk⟩
set_option maxRecDepth 100000 in
set_option maxHeartbeats 3200000 in
theorem become_any (y : Nt) (bo bl bn : Nat) (ok : Bool) (lost now : Int) (w : World) (h1 : Blk w bo 4 #[.bool ok]) (h2 : Blk w bl 3 #[.int .i64 lost]) (h3 : Blk w bn 3 #[.int .i64 now])
    (hl : 0 ≤ lost ∧ lost ≤ 9007199254740992) (hnow : 0 ≤ now ∧ now ≤ 9007199254740992) (hk : 0 ≤ y.k ∧ y.k < 8) (hne : bn ≠ bl) :
    Calls Try.prog 70 #[y.val, .pointer (some ⟨bo, 0, none⟩), .pointer (some ⟨bl, 0, none⟩), .pointer (some ⟨bn, 0, none⟩)] w fun e w' =>
      (∃ v, e = .returned v ∧ Own5 w' w.heap.size 80 v (bcN y ok now)) ∧ w.grownBy w' (some bl) ∧ Blk w' bl 3 #[.int .i64 (bcL y ok lost)] := by
  have H2 := Lib.hid h2
  have l1 := h1.lt
  have l2 := h2.lt
  have l3 := h3.lt
  obtain ⟨yA, yn, yc, yL, yf, yt, yk, yx⟩ := y
  simp only at hk
  unfold Nt.val
  simp only
  have g1 := h1.alloc (.cells #[.slice yA yn yc, .bool yf, .int .i64 yt, .int .i64 yk, .int .i64 yx] 80)
  have g2 := h2.alloc (.cells #[.slice yA yn yc, .bool yf, .int .i64 yt, .int .i64 yk, .int .i64 yx] 80)
  have g3 := h3.alloc (.cells #[.slice yA yn yc, .bool yf, .int .i64 yt, .int .i64 yk, .int .i64 yx] 80)
  have g4 := Blk.new w 80 #[.slice yA yn yc, .bool yf, .int .i64 yt, .int .i64 yk, .int .i64 yx]
  have hB : Below w.heap.size w (w.alloc (.cells #[.slice yA yn yc, .bool yf, .int .i64 yt, .int .i64 yk, .int .i64 yx] 80)) := (Below.refl _ _).alloc (Nat.le_refl _) _
  have x0 : (w.alloc (.cells #[.slice yA yn yc, .bool yf, .int .i64 yt, .int .i64 yk, .int .i64 yx] 80)).cell? ⟨bo, 0, none⟩ = some (.bool ok) := g1.cell 0
  have x1 : (w.alloc (.cells #[.slice yA yn yc, .bool yf, .int .i64 yt, .int .i64 yk, .int .i64 yx] 80)).cell? ⟨bl, 0, none⟩ = some (.int .i64 lost) := g2.cell 0
  have x2 : (w.alloc (.cells #[.slice yA yn yc, .bool yf, .int .i64 yt, .int .i64 yk, .int .i64 yx] 80)).cell? ⟨bn, 0, none⟩ = some (.int .i64 now) := g3.cell 0
  have x3 : (w.alloc (.cells #[.slice yA yn yc, .bool yf, .int .i64 yt, .int .i64 yk, .int .i64 yx] 80)).cell? ⟨w.heap.size, 3, none⟩ = some (.int .i64 yk) := g4.cell 3
  have z1 : (w.alloc (.cells #[.slice yA yn yc, .bool yf, .int .i64 yt, .int .i64 yk, .int .i64 yx] 80)).frozen? ⟨bl, 0, none⟩ = false := g2.frozen 0
  have z3 : (w.alloc (.cells #[.slice yA yn yc, .bool yf, .int .i64 yt, .int .i64 yk, .int .i64 yx] 80)).frozen? ⟨w.heap.size, 3, none⟩ = false := g4.frozen 3
  have z4 : (w.alloc (.cells #[.slice yA yn yc, .bool yf, .int .i64 yt, .int .i64 yk, .int .i64 yx] 80)).frozen? ⟨w.heap.size, 4, none⟩ = false := g4.frozen 4
  have G2 := Lib.hid g2
  have G4 := Lib.hid g4
  have y2 : w.cell? ⟨bn, 0, none⟩ = some (.int .i64 now) := h3.cell 0
  clear h1 h2 h3 g1 g2 g3 g4
  cases ok
  case true =>
    have HE := Lib.hid (show bcN ⟨yA, yn, yc, yL, yf, yt, yk, yx⟩ true now = [] ∧ bcL ⟨yA, yn, yc, yL, yf, yt, yk, yx⟩ true lost = lost by simp [bcN, bcL])
    go_enter Try.func70, Try.ntmps70
    go_wp2
    go_ret
    exact ⟨⟨_, rfl, by rw [HE.out.1]; exact Own5.nil_ _ _ _⟩, below_toGrown hB _, by rw [HE.out.2]; exact G2.out⟩
  case false =>
  by_cases h7 : 7 ≤ yk
  · by_cases hd : 9007199254740992 < lost + 1
    · have HE := Lib.hid (show bcN ⟨yA, yn, yc, yL, yf, yt, yk, yx⟩ false now = [] ∧ bcL ⟨yA, yn, yc, yL, yf, yt, yk, yx⟩ false lost = 9007199254740992 by simp [bcN, bcL, h7]; omega)
      go_enter Try.func70, Try.ntmps70
      go_wp2
      go_ret
      refine ⟨⟨_, rfl, by rw [HE.out.1]; exact Own5.nil_ _ _ _⟩, ?_, by rw [HE.out.2]; exact (H2.out.put 0 _).alloc _⟩
      exact ⟨rfl, rfl, rfl, by simp [World.setCell], fun k hk hk2 => by
        rw [Below.heap_alloc _ _ _ (by simpa [World.setCell] using hk), Below.heap_setCell _ _ _ _ (by intro e; exact hk2 (by rw [e]))]⟩
    · have HE := Lib.hid (show bcN ⟨yA, yn, yc, yL, yf, yt, yk, yx⟩ false now = [] ∧ bcL ⟨yA, yn, yc, yL, yf, yt, yk, yx⟩ false lost = lost + 1 by simp [bcN, bcL, h7]; omega)
      go_enter Try.func70, Try.ntmps70
      go_wp2
      go_ret
      refine ⟨⟨_, rfl, by rw [HE.out.1]; exact Own5.nil_ _ _ _⟩, ?_, by rw [HE.out.2]; exact (H2.out.put 0 _).alloc _⟩
      exact ⟨rfl, rfl, rfl, by simp [World.setCell], fun k hk hk2 => by
        rw [Below.heap_alloc _ _ _ (by simpa [World.setCell] using hk), Below.heap_setCell _ _ _ _ (by intro e; exact hk2 (by rw [e]))]⟩
  · have HE := Lib.hid (show bcN ⟨yA, yn, yc, yL, yf, yt, yk, yx⟩ false now = [⟨yA, yn, yc, yL, yf, yt, yk + 1, near (now + bk yk.toNat)⟩] ∧ bcL ⟨yA, yn, yc, yL, yf, yt, yk, yx⟩ false lost = lost by simp [bcN, bcL, h7])
    have d7 : decide (7 ≤ yk) = false := decide_eq_false h7
    obtain ⟨bb, hbb⟩ : ∃ bb, bk yk.toNat = bb := ⟨_, rfl⟩
    have hbb2 := bk_b yk.toNat
    rw [hbb] at hbb2
    have HBK := Lib.hid hbb
    have hwr : IntKind.i64.wrap (now + (bb : Int)) = now + (bb : Int) := by rw [IntKind.wrap_i64]; omega
    clear hbb
    go_enter Try.func70, Try.ntmps70
    go_wp2_with fail
    go_region_held3 (fun w' => w'.cell? ⟨bn, 0, none⟩ = some (.int .i64 now) ∧ w'.cell? ⟨w.heap.size, 3, none⟩ = some (.int .i64 yk))
      (first | go_keep | (refine ⟨?_, ?_⟩ <;> first | assumption | (go_simp; done) | (exact (World.cell?_alloc_lt w _ ⟨bn, 0, none⟩ l3).trans y2)))
      (first | (go_at_call 54; refine (back_any yk _ (by omega)).mono ?_; rintro e w' ⟨rfl, rfl⟩; rw [HBK.out]) | (go_at_call 68; refine (near_any (now + (bb : Int)) _).mono ?_; rintro e w' ⟨rfl, rfl⟩))
    have hwr2 : IntKind.i64.wrap (yk + 1) = yk + 1 := by rw [IntKind.wrap_i64]; omega
    go_wp2
    go_ret
    refine ⟨⟨_, rfl, ?_⟩, ?_, ?_⟩
    · rw [HE.out.1, HBK.out]
      have H := Own5.fresh1 (w.alloc (.cells #[.slice yA yn yc, .bool yf, .int .i64 yt, .int .i64 (yk + 1), .int .i64 (near (now + (bb : Int)))] 80)) 80 w.heap.size ⟨yA, yn, yc, yL, yf, yt, yk + 1, near (now + (bb : Int))⟩ (by simp)
      simp only [World.size_alloc] at H
      exact H
    · exact below_toGrown ((((Below.refl _ _).alloc (Nat.le_refl _) _).alloc (by simp) _).drew) _
    · rw [HE.out.2]
      exact (H2.out.alloc _).alloc _
end Go.Proofs.Ytkkbncgnobaliaa
