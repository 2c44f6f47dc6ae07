/-
  CrcOne's walk: octet by octet; and octets with their own sum behind them.
-/
import Derived.Test.YtpocpjolphckgaaCrcAwake
import Derived.Test.YtpocpjolphckgaaCrcRef
import Derived.Test.YtpocpjolphckgaaApp
import Derived.Outline
import Derived.WalkSpells
namespace Go.Proofs.Ytpocpjolphckgaa
open Go.RowKit
open CrcP
set_option linter.unusedVariables false
theorem update_nat (c : Nat) (A : Option Addr) (n cap : Nat) (l : List UInt8) (w : World) (h : c < 4294967296) (hn : n ≤ 9223372036854775807) (hb : Bs w w.heap.size A n l) :
    Calls Try.prog 12 #[.int .u32 c, .slice A n cap] w fun e w' => e = .returned (.int .u32 (upd c (nats l) : Nat)) ∧ Below w.heap.size w w' :=
  update_any c A n cap l w (by omega) (by omega) hn hb
theorem infoU8 : (Try.prog.info? 5).map (fun i => (i.zero, i.size, i.bytes)) = some (some (.int .u8 0), 1, 1) := by kernel_rfl
/-- The four octets, as the walk spells them. -/
def tail4 (S : Nat) : List UInt8 := (four S).map fun x => UInt8.ofNat x
theorem and_255 (m : Nat) (h : m < 4294967296) : bits .and .u32 (m : Int) 255 = ((m % 256 : Nat) : Int) := by
  have := u32_and_nat m 255 h (by omega)
  rw [nat_mask8] at this
  exact this
theorem ofNat_toNat (x : Nat) (h : x < 256) : (UInt8.ofNat x).toNat = x := UInt8.toNat_ofNat_of_lt' h
theorem tail_nats (S : Nat) (h : S < 4294967296) : nats (tail4 S) = four S := by
  simp only [tail4, nats, four, List.map_cons, List.map_nil]
  rw [ofNat_toNat _ (by omega), ofNat_toNat _ (by omega), ofNat_toNat _ (by omega), ofNat_toNat _ (by omega)]
theorem tail_form (S : Nat) : ∃ x0 x1 x2 x3 : UInt8, x0 = UInt8.ofNat (S % 256) ∧ x1 = UInt8.ofNat (S / 256 % 256) ∧ x2 = UInt8.ofNat (S / 65536 % 256) ∧ x3 = UInt8.ofNat (S / 16777216) ∧ tail4 S = [x0, x1, x2, x3] :=
  ⟨_, _, _, _, rfl, rfl, rfl, rfl, rfl⟩
theorem four_eq (S : Nat) (h : S < 4294967296) : bits .and .u32 (S : Int) 255 = ((UInt8.ofNat (S % 256)).toNat : Int) ∧ bits .and .u32 ((S : Int) / 256) 255 = ((UInt8.ofNat (S / 256 % 256)).toNat : Int) ∧
    bits .and .u32 ((S : Int) / 65536) 255 = ((UInt8.ofNat (S / 65536 % 256)).toNat : Int) ∧ (S : Int) / 16777216 = ((UInt8.ofNat (S / 16777216)).toNat : Int) := by
  rw [ofNat_toNat _ (by omega), ofNat_toNat _ (by omega), ofNat_toNat _ (by omega), ofNat_toNat _ (by omega)]
  have a := and_255 (S / 256) (by omega)
  have b := and_255 (S / 65536) (by omega)
  rw [Int.natCast_ediv] at a b
  exact ⟨and_255 S h, a, b, by omega⟩
set_option maxRecDepth 100000 in
set_option maxHeartbeats 400000 in
theorem crcOne_walk (w : World) (c : Nat) (hc : c < 4294967296) (A : Option Addr) (n cap : Nat) (l : List UInt8) (hb : Bs w w.heap.size A n l) (hcap : n ≤ cap) (hm : cap ≤ 9223372036854775807) :
    Calls Try.prog 8 #[.int .u32 c, .slice A n cap] w fun e w' => e = .returned (.bool true) ∧ Below w.heap.size w w' := by
  by_cases hn : n ≤ 1000
  · go_enter Try.func8, Try.ntmps8
    go_wp2_with fail
    refine (awake_any _).mono ?_
    rintro e w1 ⟨rfl, hb1⟩
    have hbs := (hb.below hb1).more hb1.size
    have hHl := Lib.hid hb.len
    have HB := Lib.hid hbs; clear hb hbs
    go_wp2
    go_loop [6, 7] (fun s i => ∃ k : Nat, k ≤ n ∧ i = .int .i64 k ∧ s = .int .u32 (upd c (nats (l.take k)) : Nat)) (fun _ i => n - (intOf i).toNat)
    case atStart => exact ⟨0, by omega, rfl, rfl⟩
    case round =>
      obtain ⟨k, hk, rfl, rfl⟩ := hrel
      have hm := upd_lt (c := c) (l := nats (l.take k)) (by omega) (nats_lt _)
      by_cases hlt : k < n
      · obtain ⟨b, off, rfl, hbB, hx⟩ := HB.out.at_ hlt
        have HL : Hid _ := upd_take c l k (by rw [hHl.out]; exact hlt)
        have hx8 : (l.getD k 0).toNat < 256 := (l.getD k 0).toNat_lt
        generalize (l.getD k 0).toNat = x at hx hx8 HL
        generalize hg : upd c (nats (l.take k)) = m at hm HL
        have HG := Lib.hid hg; clear hg
        go_wp2_with fail
        refine (step_nat m x hm hx8 _).mono ?_
        rintro e w2 ⟨rfl, rfl⟩
        go_wp2
        go_round
        case rel => exact ⟨k + 1, by omega, by go_num, by rw [HL.out]⟩
        case measure => simp [intOf]; omega
      · obtain rfl : k = n := by omega
        have HT : Hid (l.take k = l) := List.take_of_length_le (by rw [hHl.out]; exact Nat.le_refl _)
        rw [HT.out] at hm ⊢
        generalize hg : upd c (nats l) = m at hm
        have HG := Lib.hid hg; clear hg
        go_wp2_with fail
        refine (sum_any _ _ _ l _ (by omega) HB.out).mono ?_
        rintro e w2 ⟨rfl, hb2⟩
        have hs := sum_lt (nats_lt l)
        generalize hg : sum (nats l) = S at hs
        have HS := Lib.hid hg; clear hg
        have HB2 := Lib.hid (HB.out.below hb2)
        go_wp2_with (at_builtin; refine wpList_append_b rfl (.tmp 30) (.tmp 31) 23 rfl w1.heap.size 5 Try.underlying23 infoU8 (.slice (some ⟨w2.heap.size, 0, none⟩) 0 0) [] rfl ?h1 w1.heap.size A k cap l rfl ?h2 ?h3 ?h4 ?_)
        case h1 => exact OwnB.fresh _ _ [] _ rfl _ rfl hb2.size (by simp)
        case h2 => exact (HB2.out.keep fun b o hb => World.cell?_alloc_lt _ _ _ (by have := hb2.size; simp only; omega))
        case h3 => simp; omega
        case h4 => have := hb2.size; simp; omega
        intro v3 w3 hown3 hgr3 hat3
        have hB3 : Below w1.heap.size w1 w3 := (hb2.alloc hb2.size _).grown hgr3 (by have := hb2.size; simp; omega) (by have := hb2.size; intro g hg; simp [Value.ownBlock] at hg; omega)
        obtain ⟨A3, n3, cap3, hv3, -, -, -⟩ := hown3.bs
        rw [hv3] at hown3 hat3 ⊢
        clear hat3 hgr3 hv3 hb2 HB2
        have h0 := (four_eq S hs).1
        have h1 := (four_eq S hs).2.1
        have h2 := (four_eq S hs).2.2.1
        have h3 := (four_eq S hs).2.2.2
        have HF := Lib.hid (tail_nats S hs)
        have HO := Lib.hid (sum_own (nats l))
        rw [HS.out] at HO
        obtain ⟨x0, x1, x2, x3, e0, e1, e2, e3, ht⟩ := tail_form S
        rw [← e0] at h0
        rw [← e1] at h1
        rw [← e2] at h2
        rw [← e3] at h3
        rw [ht] at HF
        clear e0 e1 e2 e3 ht
        have hx0 := x0.toNat_lt
        have hx1 := x1.toNat_lt
        have hx2 := x2.toNat_lt
        have hx3 := x3.toNat_lt
        have HH := Lib.hid hown3; clear hown3
        go_wp2_with (at_builtin; refine wpList_append_b rfl (.tmp 33) (.tmp 48) 23 rfl w1.heap.size 5 Try.underlying23 infoU8 (.slice A3 n3 cap3) l rfl ?h1 _ (some ⟨w3.heap.size, 0, none⟩) 4 4 [x0, x1, x2, x3] rfl (Bs.fresh _ _ _ _ _ _ rfl rfl) ?h3 ?h4 ?_)
        case h1 => exact HH.out.alloc _
        case h3 => rw [hHl.out]; omega
        case h4 => have := hB3.size; simp; omega
        intro v4 w4 hown4 hgr4 hat4
        have hB4 : Below w1.heap.size w1 w4 := (hB3.alloc hB3.size _).grown hgr4 (by have := hB3.size; simp; omega) (fun g hg => HH.out.base_le g hg)
        obtain ⟨A4, n4, cap4, hv4, hbs4, hc4, hm4⟩ := hown4.bs
        rw [hv4]
        clear hv4 hat4 hgr4 hown4
        have hm4' : cap4 ≤ 9223372036854775807 := hm4
        have hc2 := Lib.hid hc
        go_wp2_with fail
        refine (update_nat c _ _ _ l _ hc2.out (by omega) ((HB.out.below hB4).more hB4.size)).mono ?_
        rintro e w5 ⟨rfl, hb5⟩
        rw [HG.out]
        go_wp2_with fail
        refine (sum_any _ _ _ (l ++ [x0, x1, x2, x3]) _ (by omega) ((hbs4.below hb5).more hb5.size)).mono ?_
        rintro e w6 ⟨rfl, hb6⟩
        have HSum : Hid (sum (nats (l ++ [x0, x1, x2, x3])) = 558161692) := by
          rw [nats_append, HF.out]; exact HO.out
        rw [HSum.out]
        go_wp2
        go_ret
        exact ⟨by simp, hb1.trans ((hB4.trans ((hb5.mono hB4.size).trans (hb6.mono (by have := hb5.size; have := hB4.size; omega)))).mono hb1.size)⟩
  · have hn' : 1000 < n := by omega
    go_enter Try.func8, Try.ntmps8
    go_wp2_with fail
    refine (awake_any _).mono ?_
    rintro e w1 ⟨rfl, hb1⟩
    go_wp2
    go_ret
    exact ⟨rfl, hb1⟩
end Go.Proofs.Ytpocpjolphckgaa
