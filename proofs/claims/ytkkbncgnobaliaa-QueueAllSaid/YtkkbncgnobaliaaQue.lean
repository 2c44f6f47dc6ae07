/-
  queues: notes in memory; time, nearest, Back, Sane, counted.
-/
import Derived.Test.YtkkbncgnobaliaaLabF
namespace Go.Proofs.Ytkkbncgnobaliaa
open Go.RowKit
open CodP
set_option linter.unusedVariables false
/-- A note: how it lies, and what it says. -/
structure Nt where
  A : Option Addr
  n : Nat
  c : Nat
  L : Lab
  f : Bool
  t : Int
  k : Int
  x : Int
instance : Inhabited Nt := ⟨⟨none, 0, 0, [], false, 0, 0, 0⟩⟩
def Nt.cells (y : Nt) : List Value := [.slice y.A y.n y.c, .bool y.f, .int .i64 y.t, .int .i64 y.k, .int .i64 y.x]
def Nt.val (y : Nt) : Value := .agg #[.slice y.A y.n y.c, .bool y.f, .int .i64 y.t, .int .i64 y.k, .int .i64 y.x]
def nt (ns : List Nt) (i : Nat) : Nt := ns.getD i default
def five (ns : List Nt) : List Value := ns.flatMap Nt.cells
theorem five_len (ns : List Nt) : (five ns).length = ns.length * 5 := by
  unfold five; induction ns with
  | nil => rfl
  | cons x l ih => rw [List.flatMap_cons, List.length_append, ih]; simp [Nt.cells]; omega
theorem five_append (l m : List Nt) : five (l ++ m) = five l ++ five m := by unfold five; rw [List.flatMap_append]
theorem five_get : ∀ (l : List Nt) (i : Nat), i < l.length → ∀ j, j < 5 → (five l)[i * 5 + j]? = (nt l i).cells[j]?
  | x :: l, 0, _, j, hj => by
    have e : five (x :: l) = x.cells ++ five l := rfl
    rw [e, Nat.zero_mul, Nat.zero_add, List.getElem?_append_left (by simpa [Nt.cells] using hj)]
    rfl
  | x :: l, i + 1, h, j, hj => by
    have := five_get l i (by simpa using h) j hj
    have e : five (x :: l) = x.cells ++ five l := rfl
    rw [e, List.getElem?_append_right (by simp [Nt.cells]; omega), show (i + 1) * 5 + j - x.cells.length = i * 5 + j by simp [Nt.cells]; omega, this]
    rfl
/-- A note that can be read. -/
structure Rn (w : World) (B : Nat) (y : Nt) : Prop where
  prs : Prs w B y.A y.n y.L
  cap : y.n ≤ y.c ∧ y.c ≤ 9223372036854775807
/-- A slice of notes. -/
structure Nts (w : World) (B : Nat) (A : Option Addr) (n : Nat) (ns : List Nt) : Prop where
  len : ns.length = n
  sl : Sl w B A (n * 5) (fun i => (five ns).getD i (.bool false))
  rn : ∀ i, i < n → Rn w B (nt ns i)
section
variable {w w' : World} {B B' n : Nat} {A : Option Addr} {ns : List Nt} {y : Nt}
theorem Rn.below (h : Rn w B y) (hb : Below B w w') : Rn w' B y := ⟨h.prs.below hb, h.cap⟩
theorem Rn.more (h : Rn w B y) (hB : B ≤ B') : Rn w B' y := ⟨h.prs.more hB, h.cap⟩
theorem Rn.now (h : Rn w w.heap.size y) (hb : Below w.heap.size w w') : Rn w' w'.heap.size y := ⟨h.prs.now hb, h.cap⟩
theorem Nts.nil_ (w : World) (B : Nat) (A : Option Addr) : Nts w B A 0 [] := ⟨rfl, Sl.zero _ _ _ _, fun i hi => absurd hi (Nat.not_lt_zero _)⟩
theorem Nts.below (h : Nts w B A n ns) (hb : Below B w w') : Nts w' B A n ns := ⟨h.len, h.sl.below hb, fun i hi => (h.rn i hi).below hb⟩
theorem Nts.more (h : Nts w B A n ns) (hB : B ≤ B') : Nts w B' A n ns := ⟨h.len, h.sl.more hB, fun i hi => (h.rn i hi).more hB⟩
theorem Nts.now (h : Nts w w.heap.size A n ns) (hb : Below w.heap.size w w') : Nts w' w'.heap.size A n ns := ⟨h.len, h.sl.now hb, fun i hi => (h.rn i hi).now hb⟩
theorem Nts.at_ (h : Nts w B A n ns) {k : Nat} (hk : k < n) : ∃ b off, A = some ⟨b, off, none⟩ ∧ b < B ∧
    w.cell? ⟨b, off + k * 5, none⟩ = some (.slice (nt ns k).A (nt ns k).n (nt ns k).c) ∧ w.cell? ⟨b, off + k * 5 + 1, none⟩ = some (.bool (nt ns k).f) ∧
    w.cell? ⟨b, off + k * 5 + 2, none⟩ = some (.int .i64 (nt ns k).t) ∧ w.cell? ⟨b, off + k * 5 + 3, none⟩ = some (.int .i64 (nt ns k).k) ∧ w.cell? ⟨b, off + k * 5 + 4, none⟩ = some (.int .i64 (nt ns k).x) := by
  obtain ⟨b, off, e, hb, hc⟩ := h.sl (by omega)
  have g : ∀ j v, j < 5 → (nt ns k).cells[j]? = some v → w.cell? ⟨b, off + k * 5 + j, none⟩ = some v := fun j v hj hv => by
    have h5 := five_get ns k (by rw [h.len]; exact hk) j hj
    rw [Nat.add_assoc, hc (k * 5 + j) (by omega)]
    show some ((five ns).getD (k * 5 + j) (.bool false)) = some v
    rw [List.getD_eq_getElem?_getD, h5, hv]
    rfl
  exact ⟨b, off, e, hb, g 0 _ (by omega) rfl, g 1 _ (by omega) rfl, g 2 _ (by omega) rfl, g 3 _ (by omega) rfl, g 4 _ (by omega) rfl⟩
end
abbrev big : Int := 9007199254740992
def timeB (t : Int) : Bool := decide (0 ≤ t) && decide (t ≤ 9007199254740992)
theorem timeB_iff {t : Int} : timeB t = true ↔ 0 ≤ t ∧ t ≤ 9007199254740992 := by simp [timeB]
def near (t : Int) : Int := min (max t 0) 9007199254740992
theorem near_b (t : Int) : 0 ≤ near t ∧ near t ≤ 9007199254740992 := by unfold near; omega
set_option maxRecDepth 100000 in
set_option maxHeartbeats 400000 in
theorem time_any (t : Int) (w : World) : Calls Try.prog 66 #[.int .i64 t] w fun e w' => e = .returned (.bool (timeB t)) ∧ w' = w := by
  by_cases h0 : 0 ≤ t
  · by_cases h1 : t ≤ 9007199254740992
    · have hT : timeB t = true := by simp [timeB, h0, h1]
      rw [hT]
      go_enter Try.func66, Try.ntmps66
      go_wp2
      go_ret
      exact ⟨rfl, rfl⟩
    · have hT : timeB t = false := by simp [timeB, h1]
      have d1 : decide (t ≤ 9007199254740992) = false := decide_eq_false h1
      rw [hT]
      go_enter Try.func66, Try.ntmps66
      go_wp2
      go_ret
      exact ⟨rfl, rfl⟩
  · have hT : timeB t = false := by simp [timeB, h0]
    have d1 : decide (0 ≤ t) = false := decide_eq_false h0
    rw [hT]
    go_enter Try.func66, Try.ntmps66
    go_wp2
    go_ret
    exact ⟨rfl, rfl⟩
set_option maxRecDepth 100000 in
set_option maxHeartbeats 400000 in
theorem near_any (t : Int) (w : World) : Calls Try.prog 68 #[.int .i64 t] w fun e w' => e = .returned (.int .i64 (near t)) ∧ w' = w := by
  by_cases h0 : t < 0
  · have HN := Lib.hid (show near t = 0 by unfold near; omega)
    rw [HN.out]
    go_enter Try.func68, Try.ntmps68
    go_wp2
    all_goals first
      | (exfalso; omega)
      | (go_ret; exact ⟨rfl, rfl⟩)
  · by_cases h1 : 9007199254740992 < t
    · have HN := Lib.hid (show near t = 9007199254740992 by unfold near; omega)
      rw [HN.out]
      go_enter Try.func68, Try.ntmps68
      go_wp2
      all_goals first
        | (exfalso; omega)
        | (go_ret; exact ⟨rfl, rfl⟩)
    · have HN := Lib.hid (show near t = t by unfold near; omega)
      rw [HN.out]
      go_enter Try.func68, Try.ntmps68
      go_wp2
      all_goals first
        | (exfalso; omega)
        | (go_ret; exact ⟨rfl, rfl⟩)
/-- How long is waited behind so many tries. -/
def bk : Nat → Nat
  | 0 => 1000
  | k + 1 => min (2 * bk k) 64000
theorem bk_b (k : Nat) : 1000 ≤ bk k ∧ bk k ≤ 64000 := by
  induction k with
  | zero => simp [bk]
  | succ k ih => simp only [bk]; omega
theorem bk_top {k : Nat} (h : bk k = 64000) : ∀ j, bk (k + j) = 64000
  | 0 => h
  | j + 1 => by have := bk_top h j; rw [← Nat.add_assoc]; simp only [bk]; omega
theorem bk6 (j : Nat) : bk (6 + j) = 64000 := bk_top (by decide) j
theorem bk_dbl {k : Nat} (h : bk k < 64000) : bk (k + 1) = 2 * bk k ∧ 2 * bk k ≤ 64000 := by
  by_cases h6 : k < 6
  · have : k = 0 ∨ k = 1 ∨ k = 2 ∨ k = 3 ∨ k = 4 ∨ k = 5 := by omega
    rcases this with rfl | rfl | rfl | rfl | rfl | rfl <;> decide
  · have := bk6 (k - 6)
    rw [show 6 + (k - 6) = k by omega] at this
    omega
theorem bk_stop {k n : Nat} (h : bk k = 64000) (hn : k ≤ n) : bk n = 64000 := by
  have := bk_top h (n - k); rw [show k + (n - k) = n by omega] at this; exact this
set_option maxRecDepth 100000 in
set_option maxHeartbeats 400000 in
theorem back_any (t : Int) (w : World) (ht : t ≤ 9223372036854775807) : Calls Try.prog 54 #[.int .i64 t] w fun e w' => e = .returned (.int .i64 (bk t.toNat : Nat)) ∧ w' = w := by
  go_enter Try.func54, Try.ntmps54
  go_wp2
  go_loopw [3, 4] (fun s i wr => ∃ (b j : Nat), Hid (b = bk j) ∧ i = .int .i64 j ∧ s = .int .i64 b ∧ Hid (j ≤ t.toNat) ∧ b ≤ 64000 ∧ wr = w) (fun _ i _ => t.toNat - (intOf i).toNat)
  case atStart => exact ⟨1000, 0, Lib.hid rfl, rfl, rfl, Lib.hid (by omega), by omega, rfl⟩
  case round =>
    obtain ⟨b, j, hb, rfl, rfl, hj, hb64, rfl⟩ := hrel
    by_cases h1 : (j : Int) < t
    · by_cases h2 : (b : Int) < 64000
      · have HX := Lib.hid (show 2 * b = bk (j + 1) by have := bk_dbl (k := j) (by rw [← hb.out]; omega); rw [this.1, hb.out])
        have h3 : 2 * b ≤ 64000 := by have := bk_dbl (k := j) (by rw [← hb.out]; omega); rw [hb.out]; exact this.2
        have hj2 : j ≤ 9223372036854775806 := by have := hj.out; omega
        go_wp2
        go_roundw
        case rel => exact ⟨2 * b, j + 1, HX, by go_num, by go_num, Lib.hid (by omega), h3, trivial⟩
        case measure => simp [intOf]; omega
      · have HX := Lib.hid (show bk t.toNat = b by rw [bk_stop (k := j) (by rw [← hb.out]; omega) hj.out]; omega)
        have hb5 : b = 64000 := by omega
        subst hb5
        have d2 : decide (((64000 : Nat) : Int) < 64000) = false := by decide
        go_wp2
        go_ret
        refine ⟨?_, rfl⟩
        rw [HX.out]
        rfl
    · have HX := Lib.hid (show bk t.toNat = b by rw [hb.out, show t.toNat = j by have := hj.out; omega])
      have d1 : decide ((j : Int) < t) = false := decide_eq_false h1
      go_wp2
      all_goals first
        | (go_ret; exact ⟨by rw [HX.out]; rfl, rfl⟩)
        | (go_ret; exact ⟨by rw [HX.out]; congr 2; omega, rfl⟩)
        | (exfalso; omega)
end Go.Proofs.Ytkkbncgnobaliaa
