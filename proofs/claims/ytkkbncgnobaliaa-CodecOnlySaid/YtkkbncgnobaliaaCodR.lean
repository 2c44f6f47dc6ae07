/-
  codec: the reader, and what is got of it.
-/
import Derived.Test.YtkkbncgnobaliaaLabF
namespace Go.Proofs.Ytkkbncgnobaliaa
open Go.RowKit
open CodP
set_option linter.unusedVariables false
/-- What is left of octets, or the first error. -/
def Rd (w : World) (g B : Nat) : Except Nat (List UInt8) → Prop
  | .ok l => ∃ A n c, Blk w g 103 #[.slice A n c, .int .i64 0] ∧ Bs w B A n l ∧ n ≤ c ∧ c ≤ 9223372036854775807
  | .error c => 1 ≤ c ∧ ∃ v, Blk w g 103 #[v, .int .i64 (c : Int)]
theorem Rd.blk {w : World} {g B : Nat} {st : Except Nat (List UInt8)} (h : Rd w g B st) : ∃ v c, Blk w g 103 #[v, .int .i64 (c : Int)] := by
  cases st with
  | error c => exact ⟨_, _, h.2.choose_spec⟩
  | ok l => obtain ⟨A, n, c, h1, _⟩ := h; exact ⟨_, 0, h1⟩
theorem Rd.lt {w : World} {g B : Nat} {st : Except Nat (List UInt8)} (h : Rd w g B st) : g < w.heap.size := by
  obtain ⟨v, c, h⟩ := h.blk; exact h.lt
def gotN : Except Nat (List UInt8) → Nat × Except Nat (List UInt8)
  | .error c => (0, .error c)
  | .ok l => match getU l with
    | .error c => (0, .error c)
    | .ok (u, r) => (u, .ok r)
def gotS : Except Nat (List UInt8) → List UInt8 × Except Nat (List UInt8)
  | .error c => ([], .error c)
  | .ok l => match getT l with
    | .error c => ([], .error c)
    | .ok (t, r) => (t, .ok r)
theorem getT_err {l : List UInt8} {c : Nat} (h : getT l = .error c) : 1 ≤ c := by
  unfold getT at h
  cases hu : getU l with
  | error c' => rw [hu] at h; have := getU_err hu; simp at h; omega
  | ok q =>
    rw [hu] at h
    obtain ⟨n, r⟩ := q
    simp only at h
    by_cases h1 : 65536 < n
    · rw [if_pos h1] at h; simp at h; omega
    · rw [if_neg h1] at h
      by_cases h2 : r.length < n
      · rw [if_pos h2] at h; simp at h; omega
      · rw [if_neg h2] at h; cases h
theorem grown_below {w w' : World} (h : Below w.heap.size w w') (row : Option Nat) : w.grownBy w' row := ⟨h.os, h.tape, h.output, h.size, fun k hk _ => h.block k hk⟩
theorem _root_.Go.World.grownBy.set {w w' : World} {g : Nat} (h : w.grownBy w' (some g)) (i : Nat) (u : Value) : w.grownBy (w'.setCell ⟨g, i, none⟩ u) (some g) :=
  ⟨h.os, h.tape, h.output, by simp [World.setCell]; exact h.size, fun k hk hne => (Below.heap_setCell _ _ _ k (fun e => hne (by rw [e]))).trans (h.block k hk hne)⟩
set_option maxRecDepth 100000 in
set_option maxHeartbeats 1600000 in
theorem gotS_any (g B : Nat) (st : Except Nat (List UInt8)) (w : World) (hBg : B ≤ g) (h : Rd w g B st) :
    Calls Try.prog 65 #[.pointer (some ⟨g, 0, none⟩), .func (.func 37) #[] #[]] w fun e w' => e = .returned (.string ⟨(gotS st).1.toArray⟩) ∧ Rd w' g B (gotS st).2 ∧ w.grownBy w' (some g) := by
  have hg := h.lt
  cases st with
  | error c =>
    obtain ⟨hc1, v, hb⟩ := h
    have d : ((c : Int) == 0) = false := beq_eq_false_iff_ne.2 (by omega)
    have hc0 := hb.cell 0
    have hc1' := hb.cell 1
    have HB := Lib.hid hb; clear hb
    go_enter Try.func65, Try.ntmps65
    go_wp2
    go_ret
    exact ⟨rfl, ⟨hc1, v, HB.out⟩, World.grownBy.refl _ _⟩
  | ok l =>
    obtain ⟨A, n, cap, hb, hbs, hnc, hcm⟩ := h
    have hc0 := hb.cell 0
    have hc1' := hb.cell 1
    have HB := Lib.hid hb; clear hb
    have HBS := Lib.hid hbs; clear hbs
    have hn63 : n ≤ 9223372036854775807 := by omega
    go_enter Try.func65, Try.ntmps65
    go_wp2_with fail
    refine (getT_at B A n cap l _ (by omega) hn63 hnc hcm HBS.out).mono ?_
    rintro e w1 ⟨hgot, hb1⟩
    have hB1 := HB.out.below hb1 hg
    have hlt1 := hB1.lt
    have hc10 := hB1.cell 0
    have hc11 := hB1.cell 1
    have hf10 := hB1.frozen 0
    have hf11 := hB1.frozen 1
    cases ht : getT l with
    | error c =>
      rw [ht] at hgot
      obtain rfl := hgot
      have hc1 := getT_err ht
      have HE := Lib.hid (show gotS (.ok l) = ([], .error c) by simp only [gotS, ht])
      clear ht
      have HB1 := Lib.hid hB1
      clear hB1
      go_wp2
      refine bodyPost_ret (v := .string ⟨#[]⟩) (by simp [results, Try.results65, go_sem]) rfl ?_
      rw [HE.out]
      exact ⟨rfl, ⟨by omega, .slice none 0 0, (HB1.out.put 0 _).put 1 _⟩, (grown_below hb1 _).set 0 _ |>.set 1 _⟩
    | ok q =>
      obtain ⟨t, r⟩ := q
      rw [ht] at hgot
      obtain ⟨A2, n2, c2, rfl, hbs2, hn2, hc2⟩ := hgot
      have HE := Lib.hid (show gotS (.ok l) = (t, .ok r) by simp only [gotS, ht])
      clear ht
      have HB1 := Lib.hid hB1
      have HBS2 := Lib.hid hbs2
      clear hB1 hbs2
      generalize hst : (⟨t.toArray⟩ : ByteArray) = st
      have HST := Lib.hid hst
      clear hst
      go_wp2
      refine bodyPost_ret (v := .string st) (by simp [results, Try.results65, go_sem]) rfl ?_
      rw [HE.out]
      exact ⟨by rw [HST.out], ⟨A2, n2, c2, (HB1.out.put 0 _).put 1 _, ⟨HBS2.out.len, (HBS2.out.sl.setCell (by exact hBg) _).setCell (by exact hBg) _⟩, hn2, hc2⟩, (grown_below hb1 _).set 0 _ |>.set 1 _⟩
def GotU (w' : World) (B : Nat) (e : Ending) : Except Nat (Nat × List UInt8) → Prop
  | .ok (t, r) => ∃ A2 n2 c2, e = .returned (.tuple #[.int .i64 (t : Int), .slice A2 n2 c2, .int .i64 0]) ∧ Bs w' B A2 n2 r ∧ n2 ≤ c2 ∧ c2 ≤ 9223372036854775807
  | .error c => e = .returned (.tuple #[.int .i64 0, .slice none 0 0, .int .i64 (c : Int)])
theorem getU_at (B : Nat) (A : Option Addr) (n cap : Nat) (l : List UInt8) (w : World) (hBw : B ≤ w.heap.size) (hn : n ≤ 9223372036854775807) (hcn : n ≤ cap) (hcap : cap ≤ 9223372036854775807) (hb : Bs w B A n l) :
    Calls Try.prog 35 #[.slice A n cap] w fun e w' => GotU w' B e (getU l) ∧ Below w.heap.size w w' := by
  refine (getU_any A n cap l _ hn hcn hcap (hb.more hBw)).mono ?_
  rintro e w1 ⟨rfl, hb1⟩
  refine ⟨?_, hb1⟩
  cases hu : getU l with
  | error c => rfl
  | ok q =>
    obtain ⟨m, r⟩ := q
    obtain ⟨hl, hm60⟩ := getU_ok hu
    have hkl : r.length + (encU m).length = n := by have := congrArg List.length hl; rw [List.length_append, hb.len] at this; omega
    refine ⟨_, _, _, rfl, ?_, by omega, by omega⟩
    have := (hb.below (hb1.mono hBw)).lo (k := n - r.length) (cap := cap) (by omega) hcn
    have e1 : l.drop (n - r.length) = r := by rw [show n - r.length = (encU m).length by omega, hl, List.drop_left]
    have e2 : n - (n - r.length) = r.length := by omega
    rw [e1, e2] at this
    exact this
set_option maxRecDepth 100000 in
set_option maxHeartbeats 1600000 in
theorem gotN_any (g B : Nat) (st : Except Nat (List UInt8)) (w : World) (hBg : B ≤ g) (h : Rd w g B st) :
    Calls Try.prog 64 #[.pointer (some ⟨g, 0, none⟩), .func (.func 35) #[] #[]] w fun e w' => e = .returned (.int .i64 ((gotN st).1 : Int)) ∧ Rd w' g B (gotN st).2 ∧ w.grownBy w' (some g) := by
  have hg := h.lt
  cases st with
  | error c =>
    obtain ⟨hc1, v, hb⟩ := h
    have d : ((c : Int) == 0) = false := beq_eq_false_iff_ne.2 (by omega)
    have hc0 := hb.cell 0
    have hc1' := hb.cell 1
    have HB := Lib.hid hb; clear hb
    go_enter Try.func64, Try.ntmps64
    go_wp2
    go_ret
    exact ⟨rfl, ⟨hc1, v, HB.out⟩, World.grownBy.refl _ _⟩
  | ok l =>
    obtain ⟨A, n, cap, hb, hbs, hnc, hcm⟩ := h
    have hc0 := hb.cell 0
    have hc1' := hb.cell 1
    have HB := Lib.hid hb; clear hb
    have HBS := Lib.hid hbs; clear hbs
    have hn63 : n ≤ 9223372036854775807 := by omega
    go_enter Try.func64, Try.ntmps64
    go_wp2_with fail
    refine (getU_at B A n cap l _ (by omega) hn63 hnc hcm HBS.out).mono ?_
    rintro e w1 ⟨hgot, hb1⟩
    have hB1 := HB.out.below hb1 hg
    have hlt1 := hB1.lt
    have hc10 := hB1.cell 0
    have hc11 := hB1.cell 1
    have hf10 := hB1.frozen 0
    have hf11 := hB1.frozen 1
    cases ht : getU l with
    | error c =>
      rw [ht] at hgot
      obtain rfl := hgot
      have hc1 := getU_err ht
      have HE := Lib.hid (show gotN (.ok l) = (0, .error c) by simp only [gotN, ht])
      clear ht
      have HB1 := Lib.hid hB1
      clear hB1
      go_wp2
      refine bodyPost_ret (v := .int .i64 0) (by simp [results, Try.results64, go_sem]) rfl ?_
      rw [HE.out]
      exact ⟨rfl, ⟨by omega, .slice none 0 0, (HB1.out.put 0 _).put 1 _⟩, (grown_below hb1 _).set 0 _ |>.set 1 _⟩
    | ok q =>
      obtain ⟨t, r⟩ := q
      rw [ht] at hgot
      obtain ⟨A2, n2, c2, rfl, hbs2, hn2, hc2⟩ := hgot
      have HE := Lib.hid (show gotN (.ok l) = (t, .ok r) by simp only [gotN, ht])
      clear ht
      have HB1 := Lib.hid hB1
      have HBS2 := Lib.hid hbs2
      clear hB1 hbs2
      go_wp2
      refine bodyPost_ret (v := .int .i64 (t : Int)) (by simp [results, Try.results64, go_sem]) rfl ?_
      rw [HE.out]
      exact ⟨rfl, ⟨A2, n2, c2, (HB1.out.put 0 _).put 1 _, ⟨HBS2.out.len, (HBS2.out.sl.setCell (by exact hBg) _).setCell (by exact hBg) _⟩, hn2, hc2⟩, (grown_below hb1 _).set 0 _ |>.set 1 _⟩
end Go.Proofs.Ytkkbncgnobaliaa
