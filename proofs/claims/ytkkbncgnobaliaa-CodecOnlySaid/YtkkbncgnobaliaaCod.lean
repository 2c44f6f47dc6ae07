/-
  THE CODEC's WALKS: slices.Clone of octets, addUint, PutUint.
-/
import Derived.Test.YtkkbncgnobaliaaChecked
import Derived.WalkKit
import Derived.Test.YtkkbncgnobaliaaCodP
import Derived.Test.YtkkbncgnobaliaaCut
import Derived.Test.YtkkbncgnobaliaaApp
import Derived.Test.YtkkbncgnobaliaaBel
import Derived.Lib.Hide
import Derived.Laws.Cover3
import Derived.Laws.BitsAllLaws
namespace Go.Proofs.Ytkkbncgnobaliaa
open Go.RowKit
open CodP
set_option linter.unusedVariables false
theorem infoU8 : (Try.prog.info? 5).map (fun i => (i.zero, i.size, i.bytes)) = some (some (.int .u8 0), 1, 1) := by kernel_rfl
theorem oct1 {x : Nat} (h : x < 256) (z : Int) (hz : z = (x : Int)) : Value.int .u8 z = .int .u8 ((UInt8.ofNat x).toNat : Int) := by
  have e : (UInt8.ofNat x).toNat = x := UInt8.toNat_ofNat_of_lt' (by show _ < 256; omega)
  rw [e, hz]
theorem Bs.lit1 (w : World) (t : TypeId) (u : Value) (x : UInt8) (h : u = .int .u8 (x.toNat : Int)) : Bs (w.alloc (.cells #[u] t)) (w.heap.size + 1) (some ⟨w.heap.size, 0, none⟩) 1 [x] := by
  have := Bs.fresh w t #[u] (0, 0) [x] 1 rfl (by rw [h]; rfl)
  rwa [World.size_alloc] at this
set_option maxRecDepth 100000 in
set_option maxHeartbeats 800000 in
theorem addU_any (vb : Value) (l : List UInt8) (n : Int) (w : World) (base : Nat) (hbase : base ≤ w.heap.size) (hl : l.length ≤ 70368744177664) (hn : 0 ≤ n ∧ n ≤ 1152921504606846976) (hown : OwnB w base 5 vb l) :
    Calls Try.prog 61 #[vb, .int .i64 n] w fun e w' => (∃ v, e = .returned v ∧ OwnB w' base 5 v (l ++ encU n.toNat)) ∧ Below base w w' := by
  obtain ⟨n, rfl⟩ := Int.eq_ofNat_of_zero_le hn.1
  have hn2 : n ≤ 1152921504606846976 := by omega
  clear hn
  have hHO := Lib.hid hown; clear hown
  have hel := Lib.hid (encU_length_le 8 n (pow_le n hn2))
  have d1 : decide (1152921504606846976 < n) = false := decide_eq_false (by omega)
  go_enter Try.func61, Try.ntmps61
  go_wp2
  go_loopw [0, 1] (fun vo x wr => ∃ (m : Nat) (l' : List UInt8), m ≤ n ∧ x = .int .i64 m ∧ OwnB wr base 5 vo l' ∧ Hid (l' ++ encU m = l ++ encU n) ∧ Below base w wr) (fun _ x _ => (intOf x).toNat)
  case atStart => exact ⟨n, l, Nat.le_refl _, rfl, hHO.out, Lib.hid rfl, Below.refl _ _⟩
  case round =>
    obtain ⟨m, l', hmn, rfl, hown, hE, hB⟩ := hrel
    have hO := Lib.hid hown; clear hown
    have hll := Lib.hid (show l'.length ≤ l.length + 9 by have := congrArg List.length hE.out; have h2 := hel.out; have h3 := encU_pos m; simp at this; omega)
    by_cases hm : 128 ≤ m
    · have HN := Lib.hid (Bs.lit1 wr 5 (.int .u8 ((m : Int) % 128 + 128)) (UInt8.ofNat (m % 128 + 128)) (oct1 (by omega) _ (by omega)))
      have HO2 := Lib.hid (hO.out.alloc (.cells #[.int .u8 ((m : Int) % 128 + 128)] 5))
      have hsz := hB.size
      go_wp2_with ((refine wpList_append_b (by rfl) (.tmp 14) (.tmp 19) 22 (by rfl) base 5 Try.underlying22 infoU8 _ l' (by rfl) HO2.out (wr.heap.size + 1) (some ⟨wr.heap.size, 0, none⟩) 1 1 [UInt8.ofNat (m % 128 + 128)] (by rfl) HN.out (by have := hll.out; omega) (by simp; omega) ?_; intro v' w' hown' hgr hat))
      have hB2 : Below base w w' := (hB.alloc (by omega) _).grown hgr (by simp; omega) (fun g e => hO.out.base_le g e)
      have HE2 := Lib.hid (show (l' ++ [UInt8.ofNat (m % 128 + 128)]) ++ encU (m / 128) = l ++ encU n by rw [← hE.out, encU_ge (n := m) (by omega)]; simp)
      go_roundw
      case rel => exact ⟨m / 128, l' ++ [UInt8.ofNat (m % 128 + 128)], by omega, by rw [Int.natCast_ediv]; rfl, hown', HE2, hB2⟩
      case measure => simp [intOf]; omega
    · have HN := Lib.hid (Bs.lit1 wr 5 (.int .u8 (m : Int)) (UInt8.ofNat m) (oct1 (by omega) _ (by omega)))
      have HO2 := Lib.hid (hO.out.alloc (.cells #[.int .u8 (m : Int)] 5))
      have hsz := hB.size
      go_wp2_with ((refine wpList_append_b (by rfl) (.tmp 23) (.tmp 26) 22 (by rfl) base 5 Try.underlying22 infoU8 _ l' (by rfl) HO2.out (wr.heap.size + 1) (some ⟨wr.heap.size, 0, none⟩) 1 1 [UInt8.ofNat m] (by rfl) HN.out (by have := hll.out; omega) (by simp; omega) ?_; intro v' w' hown' hgr hat))
      have hB2 : Below base w w' := (hB.alloc (by omega) _).grown hgr (by simp; omega) (fun g e => hO.out.base_le g e)
      go_ret
      refine ⟨⟨_, rfl, ?_⟩, hB2⟩
      have e : l ++ encU n = l' ++ [UInt8.ofNat m] := by rw [← hE.out, encU_lt (n := m) (by omega)]
      show OwnB _ _ _ _ (l ++ encU n)
      rw [e]
      exact hown'
set_option maxRecDepth 100000 in
set_option maxHeartbeats 800000 in
theorem clone_any (A : Option Addr) (n cap : Nat) (l : List UInt8) (w : World) (hn : n ≤ 70368744177664) (hb : Bs w w.heap.size A n l) :
    Calls Try.prog 57 #[.slice A n cap] w fun e w' => (∃ v, e = .returned v ∧ OwnB w' w.heap.size 5 v l) ∧ Below w.heap.size w w' := by
  have hHb := Lib.hid hb; clear hb
  have hq : ∀ w, (binOp .eql 22 (.slice A n cap) (.slice none 0 0)).run Try.prog w = .ok (.bool A.isNone) w := fun w => by
    simp only [binOp]
    simp [run_equal_slice_nil w 22 5 A n cap Try.underlying22]
  cases A with
  | none =>
    have hl : l = [] := List.eq_nil_of_length_eq_zero (by
      rw [hHb.out.len]
      rcases Nat.eq_zero_or_pos n with h | h
      · exact h
      · obtain ⟨_, _, e, _⟩ := hHb.out.sl h; cases e)
    subst hl
    go_enter Try.func57, Try.ntmps57
    go_wp2
    go_ret
    exact ⟨⟨_, rfl, OwnB.nil_ _ _ _⟩, Below.refl _ _⟩
  | some a =>
    go_enter Try.func57, Try.ntmps57
    have HO : Hid (OwnB (w.alloc (.cells #[] 5)) w.heap.size 5 (.slice (some ⟨w.heap.size, 0, none⟩) 0 0) []) := OwnB.fresh w 5 [] #[] rfl 0 rfl (Nat.le_refl _) (Nat.zero_le _)
    have HS : Hid (Bs (w.alloc (.cells #[] 5)) w.heap.size (some a) n l) := ⟨hHb.out.len, hHb.out.sl.alloc (Nat.le_refl _) _⟩
    go_wp2_with ((refine wpList_append_b (by rfl) (.tmp 5) (.tmp 6) 22 (by rfl) w.heap.size 5 Try.underlying22 infoU8 _ [] (by rfl) HO.out w.heap.size (some a) n cap l (by rfl) HS.out (by simp; omega) (by simp) ?_; intro v' w' hown' hgr hat))
    go_ret
    exact ⟨⟨_, rfl, hown'⟩, ((Below.refl _ _).alloc (Nat.le_refl _) _).grown hgr (by simp) (fun g e => by cases e; exact Nat.le_refl _)⟩
set_option maxRecDepth 100000 in
set_option maxHeartbeats 800000 in
theorem addU_no (vb : Value) (n : Int) (w : World) (hn : ¬ (0 ≤ n ∧ n ≤ 1152921504606846976)) :
    Calls Try.prog 61 #[vb, .int .i64 n] w fun e w' => e = .returned vb ∧ w = w' := by
  by_cases h0 : n < 0
  · go_enter Try.func61, Try.ntmps61
    go_wp2
    go_ret
    exact ⟨rfl, rfl⟩
  · have h1 : 1152921504606846976 < n := by omega
    go_enter Try.func61, Try.ntmps61
    go_wp2
    go_ret
    exact ⟨rfl, rfl⟩
/-- What PutUint lays. -/
def putU (l : List UInt8) (n : Int) : List UInt8 := if 0 ≤ n ∧ n ≤ 1152921504606846976 then l ++ encU n.toNat else l
set_option maxRecDepth 100000 in
set_option maxHeartbeats 800000 in
theorem putU_any (A : Option Addr) (n cap : Nat) (l : List UInt8) (m : Int) (w : World) (hn : n ≤ 70368744177664) (hb : Bs w w.heap.size A n l) :
    Calls Try.prog 34 #[.slice A n cap, .int .i64 m] w fun e w' => (∃ v, e = .returned v ∧ OwnB w' w.heap.size 5 v (putU l m)) ∧ Below w.heap.size w w' := by
  have hlen := hb.len
  go_enter Try.func34, Try.ntmps34
  go_wp2_with fail
  refine (clone_any A n cap l _ hn hb).mono ?_
  rintro e w1 ⟨⟨v, rfl, hown⟩, hb1⟩
  by_cases h : 0 ≤ m ∧ m ≤ 1152921504606846976
  · have HP := Lib.hid (show putU l m = l ++ encU m.toNat from if_pos h)
    go_wp2_with fail
    refine (addU_any v l m _ w.heap.size hb1.size (by omega) h hown).mono ?_
    rintro e w2 ⟨⟨v2, rfl, hown2⟩, hb2⟩
    clear hown h hb
    go_wp2
    go_ret
    exact ⟨⟨_, rfl, by rw [HP.out]; exact hown2⟩, hb1.trans hb2⟩
  · have HP := Lib.hid (show putU l m = l from if_neg h)
    go_wp2_with fail
    refine (addU_no v m _ h).mono ?_
    rintro e w2 ⟨rfl, rfl⟩
    clear h hb
    go_wp2
    go_ret
    exact ⟨⟨_, rfl, by rw [HP.out]; exact hown⟩, hb1⟩
end Go.Proofs.Ytkkbncgnobaliaa
