/-
  DiskSeen's walk.
-/
import Derived.Test.YtkkbncgnobaliaaDskA
import Derived.Test.YtkkbncgnobaliaaFrmS
namespace Go.Proofs.Ytkkbncgnobaliaa
open Go.RowKit
open CodP
open CrcP
set_option linter.unusedVariables false
theorem wholeD_own (g : Nat) (p : List UInt8) (hg : g ≤ 9007199254740992) (hp : p.length ≤ 100) : (1 ≤ (encU g ++ p).length ∧ (encU g ++ p).length ≤ 110) ∧ recD (g : Int) p = recd (encU g ++ p) := by
  have ho := okD_small g p hg (by omega)
  have h := recD_yes ho
  have e : ((g : Int)).toNat = g := by omega
  rw [e] at h
  refine ⟨?_, h⟩
  have := encU_length_le 8 g (pow_le _ (by omega))
  have := encU_pos g
  rw [List.length_append]; omega
set_option maxRecDepth 100000 in
set_option maxHeartbeats 1600000 in
theorem diskSeen_walk (w : World) (gen : Int) (hgen1 : -9223372036854775808 ≤ gen) (hgen2 : gen ≤ 9223372036854775807) (A : Option Addr) (n cap : Nat) (l : List UInt8) (hb : Bs w w.heap.size A n l) (hcap : n ≤ cap) (hm : cap ≤ 9223372036854775807) (at_ : Int) (hat1 : -9223372036854775808 ≤ at_) (hat2 : at_ ≤ 9223372036854775807) (x : Nat) (hx : x < 4294967296) :
    Calls Try.prog 14 #[.int .i64 gen, .slice A n cap, .int .i64 at_, .int .u32 x] w fun e w' => e = .returned (.bool true) ∧ Below w.heap.size w w' := by
  by_cases hn : 100 < n
  · go_enter Try.func14, Try.ntmps14
    go_wp2_with fail
    refine (dawake_any _).mono ?_
    rintro e w1 ⟨rfl, hb1⟩
    go_wp2
    go_ret
    exact ⟨rfl, hb1⟩
  have dn : decide (100 < n) = false := decide_eq_false hn
  by_cases hg0 : gen < 0
  · go_enter Try.func14, Try.ntmps14
    go_wp2_with fail
    refine (dawake_any _).mono ?_
    rintro e w1 ⟨rfl, hb1⟩
    go_wp2
    go_ret
    exact ⟨rfl, hb1⟩
  have dg0 : decide (gen < 0) = false := decide_eq_false hg0
  by_cases hg1 : 9007199254740992 < gen
  · go_enter Try.func14, Try.ntmps14
    go_wp2_with fail
    refine (dawake_any _).mono ?_
    rintro e w1 ⟨rfl, hb1⟩
    go_wp2
    go_ret
    exact ⟨rfl, hb1⟩
  have dg1 : decide (9007199254740992 < gen) = false := decide_eq_false hg1
  obtain ⟨g, rfl⟩ : ∃ g : Nat, gen = g := ⟨gen.toNat, by omega⟩
  obtain ⟨m, hmask, hm'⟩ := and_mask at_ 16777215 (by omega)
  have hmask' : bits .and .i64 at_ 16777215 = (m : Int) := hmask
  clear hmask
  have hHb := Lib.hid hb; clear hb
  have HQ := Lib.hid (wholeD_own g l (by omega) (by rw [hHb.out.len]; omega))
  have HW := Lib.hid (wholeD_rec g l (by omega) (by have := HQ.out.1.2; omega))
  generalize hq : encU g ++ l = q at HQ HW
  clear hq
  have hrl : (recd q).length = q.length + 5 := recd_len (by have := HQ.out.1.2; omega)
  generalize hK : (recd q).length = K at hrl
  have HK := Lib.hid hK; clear hK
  have hq1 := HQ.out.1.2
  have hq0 := HQ.out.1.1
  generalize q.length = L at hrl hq1 hq0
  have hKa : K ≤ L + 5 := by omega
  have hKb : L + 5 ≤ K := by omega
  clear hrl
  have hmod : (m : Int) % (8 * (K : Int) - 39) = ((m % (8 * L + 1) : Nat) : Int) := by
    rw [show (8 * (K : Int) - 39) = ((8 * L + 1 : Nat) : Int) by omega, Int.natCast_emod]
  have hbit0 : m % (8 * L + 1) ≤ 8 * L := by have := Nat.mod_lt m (show 0 < 8 * L + 1 by omega); omega
  generalize m % (8 * L + 1) = bit0 at hmod hbit0
  go_enter Try.func14, Try.ntmps14
  go_wp2_with fail
  refine (dawake_any _).mono ?_
  rintro e w1 ⟨rfl, hb1⟩
  have HB := Lib.hid (hHb.out.now hb1)
  clear hHb
  have HO0 : Hid (OwnB (w1.alloc (.cells #[] 5)) w1.heap.size 5 (.slice (some ⟨w1.heap.size, 0, none⟩) 0 0) []) := OwnB.fresh w1 5 [] #[] rfl 0 rfl (Nat.le_refl _) (Nat.zero_le _)
  have HB0 := Lib.hid (show Bs (w1.alloc (.cells #[] 5)) (w1.alloc (.cells #[] 5)).heap.size A n l from ⟨HB.out.len, (HB.out.sl.alloc (Nat.le_refl _) _).more (by simp)⟩)
  go_wp2_with fail
  refine (record_any g A n cap l _ (by omega) HB0.out).mono ?_
  rintro e w2 ⟨⟨v2, rfl, hown2⟩, hb2⟩
  rw [HQ.out.2] at hown2
  obtain ⟨A2, n2, c2, rfl, hs2, hc2, hd2⟩ := hown2.bs
  obtain rfl : n2 = K := by rw [← hs2.len, HK.out]
  have HO1 := Lib.hid (HO0.out.below hb2)
  have hB12 : Below w1.heap.size w1 w2 := ((Below.refl w1.heap.size w1).alloc (Nat.le_refl _) (.cells #[] 5)).trans (hb2.mono (by simp))
  have hS2 := Lib.hid hs2
  clear hown2 hs2 HO0 HB0 hb2
  go_wp2_with ((refine wpList_append_b (by rfl) (.tmp 30) (.tmp 33) 22 (by rfl) w1.heap.size 5 Try.underlying22 infoU8 (.slice (some ⟨w1.heap.size, 0, none⟩) 0 0) [] (by rfl) HO1.out w2.heap.size A2 n2 c2 (recd q) (by rfl) hS2.out (by rw [List.length_nil]; omega) hB12.size ?_))
  intro v3 w3 hown3 hgr3 hat3
  have hB3 : Below w1.heap.size w1 w3 := hB12.grown hgr3 hB12.size (by intro g hg; simp [Value.ownBlock] at hg; omega)
  rcases hown3.form with ⟨_, hnil⟩ | ⟨gg, cap3, hv3, hg3, -, hc3, hm3⟩
  · have := HK.out; rw [hnil] at this; simp at this; omega

  rw [HK.out] at hv3 hc3
  rw [hv3] at hown3 ⊢
  clear hat3 hgr3 hv3
  have ht : 8 * (n2 : Int) - 39 ≠ 0 := by omega
  have k1 : decide (n2 < 6) = false := decide_eq_false (by omega)
  have k2 : decide (120 < n2) = false := decide_eq_false (by omega)
  go_wp2_with fail
  clear hmod hmask' ht hm' k1 k2
  go_loopw [12, 13] (fun i _ wr => ∃ k : Nat, k ≤ 32 ∧ i = .int .i64 k ∧ OwnB wr w1.heap.size 5 (.slice (some ⟨gg, 0, none⟩) n2 cap3) (flips (recd q) (8 + bit0) x k) ∧ Below w1.heap.size w1 wr) (fun i _ _ => 32 - (intOf i).toNat)
  case atStart => exact ⟨0, by omega, rfl, hown3, hB3⟩
  case round =>
    obtain ⟨k, hk, rfl, hown, hB⟩ := hrel
    by_cases hlt : k < 32
    · have HS := Lib.hid (flips_succ (recd q) (8 + bit0) x k)
      by_cases ho : x / 2 ^ k % 2 = 1
      · have hand : bits .and .u32 ((x : Int) / 2 ^ k) 1 = 1 := by rw [bit_and x k hx, ho]; rfl
        have hj : (8 + bit0 + k) / 8 < n2 := by omega
        have hcell := hown.cell (by rw [flips_len, HK.out]; exact hj)
        have hfro := hown.frozen ((8 + bit0 + k) / 8)
        have HO := Lib.hid hown; clear hown
        have HF := Lib.hid ho; clear ho
        generalize hu : (flips (recd q) (8 + bit0) x k).getD ((8 + bit0 + k) / 8) 0 = u at hcell
        have HU := Lib.hid hu; clear hu
        go_wp2
        rw [flip_val u (8 + bit0 + k)]
        go_roundw
        case rel =>
          refine ⟨k + 1, by omega, by go_num, ?_, hB.setCell hg3 _⟩
          rw [HS.out, if_pos HF.out, ← flip1_set _ _ u HU.out]
          exact HO.out.stored _ _
        case measure => simp [intOf]; omega
      · have hand : bits .and .u32 ((x : Int) / 2 ^ k) 1 = 0 := by rw [bit_and x k hx]; omega
        have HF := Lib.hid ho; clear ho
        go_wp2
        go_roundw
        case rel => exact ⟨k + 1, by omega, by go_num, by rw [HS.out, if_neg HF.out]; exact hown, hB⟩
        case measure => simp [intOf]; omega
    · obtain rfl : k = 32 := by omega
      obtain ⟨A9, n9, c9, hv9, hb9, h91, h92⟩ := hown.bs
      injection hv9 with e1 e2 e3
      subst e1 e2 e3
      rw [maxLen_eq'] at h92
      have HB9 := Lib.hid hb9
      clear hb9 hown
      go_wp2_with fail
      refine (whole_any _ _ _ (flips (recd q) (8 + bit0) x 32) _ (by omega) h91 h92 HB9.out).mono ?_
      rintro e w4 ⟨hG, hb4⟩
      have hB4 := hB.trans (hb4.mono hB.size)
      by_cases hx0 : x = 0
      · rw [hx0, flips_zero, HW.out] at hG
        obtain ⟨A3, n3, c3, rfl, -, -, -⟩ := hG
        have hx00 : ((x : Int) == 0) = true := by rw [hx0]; rfl
        have HX := Lib.hid hx0
        clear hx0
        go_wp2
        go_ret
        exact ⟨rfl, hb1.trans (hB4.mono hb1.size)⟩
      · rw [wholeD_err (seen q (by have := HQ.out.1.2; omega) (8 + bit0) x hx hx0 (by omega) (by have h1 := HK.out; have h2 := recd_len (p := q) (by have := HQ.out.1.2; omega); omega))] at hG
        obtain rfl := hG
        have hx00 : ((x : Int) == 0) = false := beq_false_of_ne (by omega)
        have HX := Lib.hid hx0
        clear hx0
        go_wp2
        go_ret
        exact ⟨rfl, hb1.trans (hB4.mono hb1.size)⟩
end Go.Proofs.Ytkkbncgnobaliaa
