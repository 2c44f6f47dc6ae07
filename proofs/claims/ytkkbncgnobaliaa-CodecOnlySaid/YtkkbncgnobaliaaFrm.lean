/-
  THE FRAME's WALKS: Put.
-/
import Derived.Test.YtkkbncgnobaliaaCodG
import Derived.Test.YtkkbncgnobaliaaClip
import Derived.Test.YtkkbncgnobaliaaCrcSums
namespace Go.Proofs.Ytkkbncgnobaliaa
open Go.RowKit
open CodP
open CrcP
set_option linter.unusedVariables false
/-- The four octets of a sum, the least first. -/
def le4 (s : Nat) : List UInt8 := [UInt8.ofNat (s % 256), UInt8.ofNat (s / 256 % 256), UInt8.ofNat (s / 65536 % 256), UInt8.ofNat (s / 16777216)]
/-- A record. -/
def recd (p : List UInt8) : List UInt8 := encU p.length ++ p ++ le4 (sum (nats p))
def putF (l p : List UInt8) : List UInt8 := if p.length ≤ 65536 then l ++ recd p else l
theorem le4_bs (w : World) (t : TypeId) {s : Nat} (hs : s < 4294967296) : Bs (w.alloc (.cells #[.int .u8 ((s : Int) % 256), .int .u8 ((s : Int) / 256 % 256), .int .u8 ((s : Int) / 65536 % 256), .int .u8 ((s : Int) / 16777216)] t)) (w.heap.size + 1) (some ⟨w.heap.size, 0, none⟩) 4 (le4 s) := by
  have := Bs.fresh w t #[.int .u8 ((s : Int) % 256), .int .u8 ((s : Int) / 256 % 256), .int .u8 ((s : Int) / 65536 % 256), .int .u8 ((s : Int) / 16777216)] (0, 0) (le4 s) 4 rfl (by
    simp only [le4, List.map_cons, List.map_nil]
    rw [oct1 (x := s % 256) (by omega) ((s : Int) % 256) (by omega), oct1 (x := s / 256 % 256) (by omega) ((s : Int) / 256 % 256) (by omega), oct1 (x := s / 65536 % 256) (by omega) ((s : Int) / 65536 % 256) (by omega), oct1 (x := s / 16777216) (by omega) ((s : Int) / 16777216) (by omega)])
  rwa [World.size_alloc] at this
theorem enc_len3 {n : Nat} (h : n ≤ 65536) : (encU n).length ≤ 3 := by
  have h1 : (128 : Nat) ^ (2 + 1) = 2097152 := by simp
  exact encU_length_le 2 n (by omega)
theorem OwnB.less {w : World} {base base' e : Nat} {v : Value} {l : List UInt8} (h : OwnB w base e v l) (hb : base' ≤ base) : OwnB w base' e v l := by
  refine ⟨h.1, ?_⟩
  rcases h.2 with h1 | ⟨g, cap, cur, a, b, c⟩
  · exact .inl h1
  · exact .inr ⟨g, cap, cur, a, by omega, c⟩
theorem maxLen_eq' : maxLen = 9223372036854775807 := rfl
set_option maxRecDepth 100000 in
set_option maxHeartbeats 1600000 in
theorem fput_any (A : Option Addr) (n cap : Nat) (l : List UInt8) (A2 : Option Addr) (m c2 : Nat) (p : List UInt8) (w : World) (hn : n ≤ 1099511627776) (hm63 : m ≤ 9223372036854775807) (hb : Bs w w.heap.size A n l) (hb2 : Bs w w.heap.size A2 m p) :
    Calls Try.prog 22 #[.slice A n cap, .slice A2 m c2] w fun e w' => (∃ v, e = .returned v ∧ OwnB w' w.heap.size 5 v (putF l p)) ∧ Below w.heap.size w w' := by
  have hHb := Lib.hid hb; clear hb
  have hHp := Lib.hid hb2; clear hb2
  by_cases hm : m ≤ 65536
  · have hPF := Lib.hid (show putF l p = l ++ recd p from if_pos (by rw [hHp.out.len]; exact hm))
    have hlen := Lib.hid (show (encU m).length ≤ 3 from enc_len3 hm)
    have hmi := Lib.hid (show putU l (m : Int) = l ++ encU m from by unfold putU; rw [if_pos ⟨by omega, by omega⟩]; rfl)
    have hs32 := sum_lt (nats_lt p)
    go_enter Try.func22, Try.ntmps22
    go_wp2_with fail
    refine (sum_any A2 m c2 p _ hm63 hHp.out).mono ?_
    rintro e w1 ⟨rfl, hb1⟩
    have hRC := Lib.hid (show recd p = encU m ++ p ++ le4 (sum (nats p)) from by unfold recd; rw [hHp.out.len])
    generalize sum (nats p) = s at hs32 hRC ⊢
    go_wp2_with fail
    refine (putU_any A n cap l m _ (by omega) (hHb.out.now hb1)).mono ?_
    rintro e w2 ⟨⟨v, rfl, hown⟩, hb2⟩
    rw [hmi.out] at hown
    rcases hown.form with ⟨-, h⟩ | ⟨g, cap3, rfl, hg1, hg2, hg3, hg4⟩
    · exfalso
      have := congrArg List.length h
      have h3 := encU_pos m
      rw [List.length_append] at this
      simp only [List.length_nil] at this
      omega
    have hB2 := hb1.trans (hb2.mono hb1.size)
    generalize hk : (l ++ encU m).length = k at hown hg3 hg4 ⊢
    have HK := Lib.hid hk; clear hk
    have hBs : Bs w2 w2.heap.size (some ⟨g, 0, none⟩) k (l ++ encU m) := by
      obtain ⟨A', n', c', e, h1, -, -⟩ := hown.bs
      cases e
      exact h1
    have hBs' := Lib.hid hBs; clear hBs hown
    have hkb := Lib.hid (show k ≤ n + 3 by rw [← HK.out, List.length_append, hHb.out.len]; have := hlen.out; omega)
    have r3 := run_cut3_hi Try.underlying22 1 sizeU8 (some ⟨g, 0, none⟩) k cap3 k hg3
    have hP2 := Lib.hid (hHp.out.now hB2)
    rw [maxLen_eq'] at hg4
    have hL4 := Lib.hid (le4_bs w2 5 hs32)
    by_cases hm0 : m = 0
    · have hp0 := Lib.hid (show p = [] from List.eq_nil_of_length_eq_zero (by rw [hHp.out.len, hm0]))
      have hm00 := Lib.hid hm0
      subst hm0
      have hBa := Lib.hid (show Bs (w2.alloc (.cells #[.int .u8 ((s : Int) % 256), .int .u8 ((s : Int) / 256 % 256), .int .u8 ((s : Int) / 65536 % 256), .int .u8 ((s : Int) / 16777216)] 5)) w2.heap.size (some ⟨g, 0, none⟩) k (l ++ encU 0) from ⟨hBs'.out.len, hBs'.out.sl.alloc (Nat.le_refl _) _⟩)
      go_wp2_with (first
        | (refine wpList_append_clip0 (by rfl) (.tmp 22) (.tmp 23) 22 (by rfl) 5 Try.underlying22 infoU8 g 0 k (by rfl) A2 c2 (by rfl) ?_)
        | (refine wpList_append_clip1 (by rfl) (.tmp 25) (.tmp 37) 22 (by rfl) 5 Try.underlying22 infoU8 g 0 k (l ++ encU 0) (by rfl) _ hBa.out _ (some ⟨w2.heap.size, 0, none⟩) 4 4 (le4 s) (by rfl) hL4.out (by omega) (by have := hkb.out; omega) ?_; intro v' w' hown' hgr))
      go_ret
      have hz2 := hB2.size
      refine ⟨⟨_, rfl, ?_⟩, (hB2.alloc hB2.size _).grown hgr (by simp; omega) (fun g e => by cases e)⟩
      rw [hPF.out, hRC.out, hp0.out]
      have e : l ++ (encU 0 ++ [] ++ le4 s) = l ++ encU 0 ++ le4 s := by simp
      rw [e]
      exact OwnB.less hown' (by simp; omega)
    · have hmp : 0 < m := by omega
      have hlk := Lib.hid (show (l ++ encU m ++ p).length = k + m by rw [List.length_append, HK.out, hHp.out.len])
      go_wp2_with (first
        | (refine wpList_append_clip1 (by rfl) (.tmp 22) (.tmp 23) 22 (by rfl) 5 Try.underlying22 infoU8 g 0 k (l ++ encU m) (by rfl) _ hBs'.out _ A2 m c2 p (by rfl) hP2.out hmp (by have := hkb.out; omega) ?_; intro v' w' hown' hgr; have hO1 := Lib.hid hown'; clear hown'; have hL5 := Lib.hid (le4_bs w' 5 hs32); have hO2 := Lib.hid (hO1.out.alloc (.cells #[.int .u8 ((s : Int) % 256), .int .u8 ((s : Int) / 256 % 256), .int .u8 ((s : Int) / 65536 % 256), .int .u8 ((s : Int) / 16777216)] 5)); have hws := hgr.size)
        | (refine wpList_append_b (by rfl) (.tmp 25) (.tmp 37) 22 (by rfl) w2.heap.size 5 Try.underlying22 infoU8 v' (l ++ encU m ++ p) (by rfl) hO2.out (w'.heap.size + 1) (some ⟨w'.heap.size, 0, none⟩) 4 4 (le4 s) (by rfl) hL5.out (by rw [hlk.out]; have := hkb.out; omega) (by simp; omega) ?_; intro v'' w'' hown'' hgr' hat'))
      go_ret
      have hz2 := hB2.size
      have hB3 := hB2.grown hgr hz2 (fun g e => by cases e)
      refine ⟨⟨_, rfl, ?_⟩, (hB3.alloc hB3.size _).grown hgr' (by simp; omega) (fun g e => by have := hO1.out.base_le g e; omega)⟩
      rw [hPF.out, hRC.out]
      have e : l ++ (encU m ++ p ++ le4 s) = l ++ encU m ++ p ++ le4 s := by simp
      rw [e]
      exact OwnB.less hown'' (by omega)
  · have hPF := Lib.hid (show putF l p = l from if_neg (by rw [hHp.out.len]; exact hm))
    have hm2 : 65536 < m := by omega
    go_enter Try.func22, Try.ntmps22
    go_wp2_with fail
    refine (clone_any A n cap l _ (by omega) hHb.out).mono ?_
    rintro e w1 ⟨⟨v, rfl, hown⟩, hb1⟩
    go_wp2
    go_ret
    exact ⟨⟨_, rfl, by rw [hPF.out]; exact hown⟩, hb1⟩
end Go.Proofs.Ytkkbncgnobaliaa
