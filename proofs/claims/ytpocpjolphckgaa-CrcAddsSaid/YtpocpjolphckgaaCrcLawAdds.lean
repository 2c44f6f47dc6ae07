/-
  CrcAdds' walk: the loop lays the octets' exclusive or; the last test draws its order: three cuts beside four calls.
-/
import Derived.Test.YtpocpjolphckgaaCrcAwake
import Derived.Test.YtpocpjolphckgaaCut
import Derived.Test.YtpocpjolphckgaaApp
import Derived.Deep.RegionHeld3
import Derived.WalkLawsBesides
namespace Go.Proofs.Ytpocpjolphckgaa
open Go.RowKit
open CrcP
set_option linter.unusedVariables false
theorem sizeU8 : (Try.prog.info? 5).map (·.size) = some 1 := by kernel_rfl
theorem infoU8 : (Try.prog.info? 5).map (fun i => (i.zero, i.size, i.bytes)) = some (some (.int .u8 0), 1, 1) := by kernel_rfl
theorem stp_xor3 (a b c x y z : Nat) : stp (a ^^^ b ^^^ c) (x ^^^ y ^^^ z) = stp a x ^^^ stp b y ^^^ stp c z := by
  unfold stp
  rw [← rds_xor, ← rds_xor]
  congr 1
  apply Nat.eq_of_testBit_eq; intro i
  simp only [Nat.testBit_xor]
  cases a.testBit i <;> cases b.testBit i <;> cases c.testBit i <;> cases x.testBit i <;> cases y.testBit i <;> cases z.testBit i <;> rfl
/-- What is changed by all three. -/
def allX (a b c : List UInt8) (k : Nat) : List UInt8 := (List.range k).map fun i => a.getD i 0 ^^^ b.getD i 0 ^^^ c.getD i 0
theorem allX_succ (a b c : List UInt8) (k : Nat) : allX a b c (k + 1) = allX a b c k ++ [a.getD k 0 ^^^ b.getD k 0 ^^^ c.getD k 0] := by
  simp [allX, List.range_succ]
theorem allX_len (a b c : List UInt8) (k : Nat) : (allX a b c k).length = k := by simp [allX]
theorem upd_all (a b c : List UInt8) (k : Nat) (ha : k ≤ a.length) (hb : k ≤ b.length) (hc : k ≤ c.length) :
    upd 4294967295 (nats (allX a b c k)) = upd 4294967295 (nats (a.take k)) ^^^ upd 4294967295 (nats (b.take k)) ^^^ upd 4294967295 (nats (c.take k)) := by
  induction k with
  | zero => simp [allX, nats, upd]
  | succ k ih =>
    have e : (a.getD k 0 ^^^ b.getD k 0 ^^^ c.getD k 0).toNat = (a.getD k 0).toNat ^^^ (b.getD k 0).toNat ^^^ (c.getD k 0).toNat := by
      rw [UInt8.toNat_xor, UInt8.toNat_xor]
    rw [allX_succ, nats_append, upd_append, upd_take _ a k (by omega), upd_take _ b k (by omega), upd_take _ c k (by omega), ← stp_xor3, ← ih (by omega) (by omega) (by omega), ← e]
    rfl
theorem sum_all (a b c : List UInt8) (k : Nat) (ha : k ≤ a.length) (hb : k ≤ b.length) (hc : k ≤ c.length) :
    sum (nats (allX a b c k)) = sum (nats (a.take k)) ^^^ sum (nats (b.take k)) ^^^ sum (nats (c.take k)) := by
  unfold sum
  rw [upd_all a b c k ha hb hc]
  generalize upd 4294967295 (nats (a.take k)) = x
  generalize upd 4294967295 (nats (b.take k)) = y
  generalize upd 4294967295 (nats (c.take k)) = z
  apply Nat.eq_of_testBit_eq; intro i
  simp only [Nat.testBit_xor]
  cases x.testBit i <;> cases y.testBit i <;> cases z.testBit i <;> cases (4294967295 : Nat).testBit i <;> rfl
theorem u8_xor (x y : UInt8) : bits .xor .u8 (x.toNat : Int) (y.toNat : Int) = ((x ^^^ y).toNat : Int) := by
  rw [UInt8.toNat_xor]; exact u8_xor_nat _ _ x.toNat_lt y.toNat_lt
theorem run_min4 (x y z : Nat) : ∃ m : Nat, m ≤ x ∧ m ≤ y ∧ m ≤ z ∧ m ≤ 1000 ∧ ∀ (ts : Array TypeId) (t : TypeId) (W : World), (Builtin.min_ ts t #[.int .i64 (x : Int), .int .i64 (y : Int), .int .i64 (z : Int), .int .i64 1000]).run Try.prog W = .ok (.int .i64 (m : Int)) W := by
  refine ⟨min (min (min x y) z) 1000, by omega, by omega, by omega, by omega, fun ts t W => ?_⟩
  simp [Builtin.min_, Builtin.min2]
  repeat' split
  all_goals omega
theorem ret_true {b : Bool} (h : b = true) : Ending.returned (.bool b) = .returned (.bool true) := by rw [h]
theorem cells3_grown {W w' : World} {row : Option Nat} {B b0 b1 b2 o0 o1 o2 : Nat} {v0 v1 v2 : Value} (hg : W.grownBy w' row) (hr : ∀ g, row = some g → B ≤ g) (hB : B ≤ W.heap.size) (h0 : b0 < B) (h1 : b1 < B) (h2 : b2 < B)
    (c0 : W.cell? ⟨b0, o0, none⟩ = some v0) (c1 : W.cell? ⟨b1, o1, none⟩ = some v1) (c2 : W.cell? ⟨b2, o2, none⟩ = some v2) :
    w'.cell? ⟨b0, o0, none⟩ = some v0 ∧ w'.cell? ⟨b1, o1, none⟩ = some v1 ∧ w'.cell? ⟨b2, o2, none⟩ = some v2 :=
  ⟨(World.cell?_of_block (hg.block b0 (by omega) (fun e => by have := hr _ e.symm; omega))).trans c0, (World.cell?_of_block (hg.block b1 (by omega) (fun e => by have := hr _ e.symm; omega))).trans c1, (World.cell?_of_block (hg.block b2 (by omega) (fun e => by have := hr _ e.symm; omega))).trans c2⟩
set_option maxRecDepth 100000 in
set_option maxHeartbeats 400000 in
theorem crcAdds_walk (w : World) (A0 : Option Addr) (n0 cap0 : Nat) (l0 : List UInt8) (hb0 : Bs w w.heap.size A0 n0 l0) (hcap0 : n0 ≤ cap0) (hm0 : cap0 ≤ 9223372036854775807)
    (A1 : Option Addr) (n1 cap1 : Nat) (l1 : List UInt8) (hb1' : Bs w w.heap.size A1 n1 l1) (hcap1 : n1 ≤ cap1) (hm1 : cap1 ≤ 9223372036854775807)
    (A2 : Option Addr) (n2 cap2 : Nat) (l2 : List UInt8) (hb2 : Bs w w.heap.size A2 n2 l2) (hcap2 : n2 ≤ cap2) (hm2 : cap2 ≤ 9223372036854775807) :
    Calls Try.prog 6 #[.slice A0 n0 cap0, .slice A1 n1 cap1, .slice A2 n2 cap2] w fun e w' => e = .returned (.bool true) ∧ Below w.heap.size w w' := by
  go_enter Try.func6, Try.ntmps6
  go_wp2_with fail
  refine (awake_any _).mono ?_
  rintro e w1 ⟨rfl, hb1⟩
  obtain ⟨m, hx0, hx1, hx2, hx3, hmin⟩ := run_min4 n0 n1 n2
  go_wp2_with fail
  clear hmin
  have H0 := Lib.hid (Bs.now hb0 hb1)
  have H1 := Lib.hid (Bs.now hb1' hb1)
  have H2 := Lib.hid (Bs.now hb2 hb1)
  clear hb0 hb1' hb2
  go_loopw [9, 10] (fun v i wr => ∃ k : Nat, k ≤ m ∧ i = .int .i64 k ∧ OwnB wr w1.heap.size 5 v (allX l0 l1 l2 k) ∧ Below w1.heap.size w1 wr) (fun _ i _ => m - (intOf i).toNat)
  case atStart => exact ⟨0, by omega, rfl, OwnB.nil_ _ _ _, Below.refl _ _⟩
  case round =>
    obtain ⟨k, hk, rfl, hown, hB⟩ := hrel
    by_cases hlt : k < m
    · obtain ⟨b0, o0, rfl, g0, c0⟩ := (H0.out.below hB).at_ (show k < n0 by omega)
      obtain ⟨b1, o1, rfl, g1, c1⟩ := (H1.out.below hB).at_ (show k < n1 by omega)
      obtain ⟨b2, o2, rfl, g2, c2⟩ := (H2.out.below hB).at_ (show k < n2 by omega)
      have HS := Lib.hid (allX_succ l0 l1 l2 k)
      generalize l0.getD k 0 = x0 at c0 HS
      generalize l1.getD k 0 = x1 at c1 HS
      generalize l2.getD k 0 = x2 at c2 HS
      have e1 := u8_xor x0 x1
      generalize x0 ^^^ x1 = y at e1 HS
      have e2 := u8_xor y x2
      generalize y ^^^ x2 = z at e2 HS
      go_wp2_with fail
      have hh : (allX l0 l1 l2 k).length + 1 ≤ 140737488355328 := by rw [allX_len]; omega
      have hsz := hB.size
      have i0 : (0 : Int) ≤ (k : Int) := by omega
      have i1 : (k : Int) < (n0 : Int) := by omega
      have i2 : (k : Int) < (n1 : Int) := by omega
      have i3 : (k : Int) < (n2 : Int) := by omega
      obtain ⟨A9, n9, c9, hv9, -, -, -⟩ := hown.bs
      subst hv9
      have HO := Lib.hid hown; clear hown
      have HN : Hid (Bs (wr.alloc (.cells #[.int .u8 (z.toNat : Int)] 5)).drew (wr.heap.size + 1) (some ⟨wr.heap.size, 0, none⟩) 1 [z]) := by
        have := (Bs.fresh wr 5 #[.int .u8 (z.toNat : Int)] (0, 0) [z] 1 rfl rfl).drew
        rwa [World.size_alloc] at this
      have HO2 : Hid (OwnB (wr.alloc (.cells #[.int .u8 (z.toNat : Int)] 5)).drew w1.heap.size 5 (.slice A9 n9 c9) (allX l0 l1 l2 k)) := (HO.out.alloc _).drew
      go_region_held3 (fun w' => w'.cell? ⟨b0, o0 + k, none⟩ = some (.int .u8 (x0.toNat : Int)) ∧ w'.cell? ⟨b1, o1 + k, none⟩ = some (.int .u8 (x1.toNat : Int)) ∧ w'.cell? ⟨b2, o2 + k, none⟩ = some (.int .u8 (x2.toNat : Int)))
        (first | go_keep | (go_split_ands; exact cells3_grown hgr (fun g hg => HO.out.base_le g hg) (by simp; omega) g0 g1 g2 (by assumption) (by assumption) (by assumption)))
        ((refine step_append_b (by rfl) (.tmp 24) (.tmp 39) 23 (by rfl) w1.heap.size 5 Try.underlying23 infoU8 (.slice A9 n9 c9) (allX l0 l1 l2 k) (by rfl) HO2.out (wr.heap.size + 1) (some ⟨wr.heap.size, 0, none⟩) 1 1 [z] (by rfl) HN.out hh (by simp; omega) ?_; intro v' w' hown' hgr hat))
      go_wp2
      have hB2 : Below w1.heap.size w1 w' := (((hB.alloc hB.size _).drew).grown hgr (by simp; omega) (fun g hg => HO.out.base_le g hg))
      go_roundw
      case rel => exact ⟨k + 1, by omega, by go_num, by rw [HS.out]; exact hown', hB2⟩
      case measure => simp [intOf]; omega
    · obtain rfl : k = m := by omega
      have HL := Lib.hid (allX_len l0 l1 l2 k)
      obtain ⟨A9, n9, c9, hv9, hb9, h91, h92⟩ := hown.bs
      subst hv9
      have hn9 : n9 ≤ 1000 := by have := hb9.len; rw [allX_len] at this; omega
      have HB9 := Lib.hid hb9
      have K0 := Lib.hid ((Bs.now H0.out hB).hi hx0)
      have K1 := Lib.hid ((Bs.now H1.out hB).hi hx1)
      have K2 := Lib.hid ((Bs.now H2.out hB).hi hx2)
      have HE := Lib.hid (sum_all l0 l1 l2 k (by rw [H0.out.len]; exact hx0) (by rw [H1.out.len]; exact hx1) (by rw [H2.out.len]; exact hx2))
      have s0 := sum_lt (nats_lt (l0.take k))
      have s1 := sum_lt (nats_lt (l1.take k))
      have s2 := sum_lt (nats_lt (l2.take k))
      have E1 := Lib.hid (u32_xor_nat _ _ s0 s1)
      have E2 := Lib.hid (u32_xor_nat _ _ (xor_lt32 s0 s1) s2)
      have r0 := run_cut_hi Try.underlying23 1 sizeU8 A0 n0 cap0 k (by omega)
      have r1 := run_cut_hi Try.underlying23 1 sizeU8 A1 n1 cap1 k (by omega)
      have r2 := run_cut_hi Try.underlying23 1 sizeU8 A2 n2 cap2 k (by omega)
      clear hown hb9
      go_wp2_with fail
      go_region_held3 (fun w' => Below wr.heap.size wr w') (first | exact (Below.refl _ _).drew | exact Below.step (by assumption) (by assumption))
        ((first
          | (go_at_call_of 14 (Value.slice A9 n9 c9); refine (sum_any A9 n9 c9 (allX l0 l1 l2 k) _ (by omega) (Bs.now HB9.out (by assumption))).mono ?_; rintro e w' ⟨rfl, hb'⟩; rw [HE.out])
          | (go_at_call_of 14 (Value.slice A0 k cap0); refine (sum_any A0 k cap0 (l0.take k) _ (by omega) (Bs.now K0.out (by assumption))).mono ?_; rintro e w' ⟨rfl, hb'⟩)
          | (go_at_call_of 14 (Value.slice A1 k cap1); refine (sum_any A1 k cap1 (l1.take k) _ (by omega) (Bs.now K1.out (by assumption))).mono ?_; rintro e w' ⟨rfl, hb'⟩)
          | (go_at_call_of 14 (Value.slice A2 k cap2); refine (sum_any A2 k cap2 (l2.take k) _ (by omega) (Bs.now K2.out (by assumption))).mono ?_; rintro e w' ⟨rfl, hb'⟩)))
      go_wp2
      go_ret
      refine ⟨?_, hb1.trans ((hB.trans (Below.mono (by assumption : Below wr.heap.size wr w') hB.size)).mono hb1.size)⟩
      exact ret_true (by rw [E1.out, E2.out]; simp)
end Go.Proofs.Ytpocpjolphckgaa
