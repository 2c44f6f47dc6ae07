/-
  THE DISK's WALKS: Read and Gen.
-/
import Derived.Test.YtkkbncgnobaliaaDskW
namespace Go.Proofs.Ytkkbncgnobaliaa
open Go.RowKit
open CodP
open CrcP
set_option linter.unusedVariables false
/-- A slot's own, if its generation's parity is the slot's. -/
def ofSlot (i : Nat) (l : List UInt8) : Option (Nat × List UInt8) := match wholeD l with
  | some (g, p) => if g % 2 = i then some (g, p) else none
  | none => none
def later (a b : Option (Nat × List UInt8)) : Option (Nat × List UInt8) := match a, b with
  | none, b => b
  | some x, none => some x
  | some x, some y => if x.1 < y.1 then some y else some x
/-- What is read of two slots. -/
def readD (s0 s1 : List UInt8) : Option (Nat × List UInt8) := later (ofSlot 0 s0) (ofSlot 1 s1)
/-- How the walk holds it. -/
def StD (w' : World) (B : Nat) (x y z : Value) : Option (Nat × List UInt8) → Prop
  | none => x = .int .i64 0 ∧ y = .slice none 0 0 ∧ z = .bool false
  | some (g, p) => x = .int .i64 (g : Int) ∧ (∃ A n c, y = .slice A n c ∧ Bs w' B A n p ∧ n ≤ c ∧ c ≤ 9223372036854775807) ∧ z = .bool true
def seenD (s0 s1 : List UInt8) : Nat → Option (Nat × List UInt8)
  | 0 => none
  | 1 => ofSlot 0 s0
  | _ => readD s0 s1
theorem StD.below {w' w'' : World} {B : Nat} {x y z : Value} {o : Option (Nat × List UInt8)} (h : StD w' B x y z o) (hb : Below B w' w'') : StD w'' B x y z o := by
  cases o with
  | none => exact h
  | some gp =>
    obtain ⟨g, p⟩ := gp
    obtain ⟨h1, ⟨A, n, c, h2, h3, h4⟩, h5⟩ := h
    exact ⟨h1, ⟨A, n, c, h2, h3.below hb, h4⟩, h5⟩
set_option maxRecDepth 100000 in
set_option maxHeartbeats 1600000 in
theorem read_any (A0 A1 : Option Addr) (n0 c0 n1 c1 : Nat) (s0 s1 : List UInt8) (w : World) (hn0 : n0 ≤ 9223372036854775807) (hn1 : n1 ≤ 9223372036854775807) (hc0 : n0 ≤ c0) (hc1 : n1 ≤ c1) (hm0 : c0 ≤ 9223372036854775807) (hm1 : c1 ≤ 9223372036854775807) (hb0 : Bs w w.heap.size A0 n0 s0) (hb1 : Bs w w.heap.size A1 n1 s1) :
    Calls Try.prog 44 #[.agg #[.slice A0 n0 c0, .slice A1 n1 c1]] w fun e w' => GotW w' w'.heap.size e (readD s0 s1) ∧ Below w.heap.size w w' := by
  have H0 := Lib.hid hb0; clear hb0
  have H1 := Lib.hid hb1; clear hb1
  have K := Blk.new w 58 #[.slice A0 n0 c0, .slice A1 n1 c1]
  have k0 : (w.alloc (.cells #[.slice A0 n0 c0, .slice A1 n1 c1] 58)).cell? ⟨w.heap.size, 0, none⟩ = some (.slice A0 n0 c0) := K.cell 0
  have k1 : (w.alloc (.cells #[.slice A0 n0 c0, .slice A1 n1 c1] 58)).cell? ⟨w.heap.size, 1, none⟩ = some (.slice A1 n1 c1) := K.cell 1
  clear K
  have ix0 : ∀ W, (Instr.index 56 (.agg #[.slice A0 n0 c0, .slice A1 n1 c1]) (.int .i64 0)).run Try.prog W = .ok (.slice A0 n0 c0) W := fun W => by kernel_rfl
  have ix1 : ∀ W, (Instr.index 56 (.agg #[.slice A0 n0 c0, .slice A1 n1 c1]) (.int .i64 1)).run Try.prog W = .ok (.slice A1 n1 c1) W := fun W => by kernel_rfl
  go_enter Try.func44, Try.ntmps44
  go_wp2
  go_loopw [5, 6, 7, 15] (fun x y z i wr => ∃ k : Nat, k ≤ 2 ∧ i = .int .i64 k ∧ StD wr wr.heap.size x y z (seenD s0 s1 k) ∧ Below w.heap.size w wr) (fun _ _ _ i _ => 2 - (intOf i).toNat)
  case atStart => exact ⟨0, by omega, rfl, ⟨rfl, rfl, rfl⟩, (Below.refl _ _).alloc (Nat.le_refl _) _⟩
  case round =>
    obtain ⟨k, hk, rfl, hst, hB⟩ := hrel
    by_cases hlt : k < 2
    · rcases (show k = 0 ∨ k = 1 by omega) with rfl | rfl
      · obtain ⟨rfl, rfl, rfl⟩ := hst
        go_wp2_with fail
        refine (whole_any A0 n0 c0 s0 _ hn0 hc0 hm0 (H0.out.now hB)).mono ?_
        rintro e w2 ⟨hG, hb2⟩
        have hB2 := hB.trans (hb2.mono hB.size)
        cases hw : wholeD s0 with
        | none =>
          have hE := Lib.hid (show seenD s0 s1 1 = none by show ofSlot 0 s0 = none; unfold ofSlot; rw [hw])
          rw [hw] at hG
          obtain rfl := hG
          clear hw
          go_wp2
          go_roundw
          case rel => exact ⟨1, by omega, by go_num, by rw [hE.out]; exact ⟨rfl, rfl, rfl⟩, hB2⟩
          case measure => simp [intOf]
        | some gp =>
          obtain ⟨g, p⟩ := gp
          rw [hw] at hG
          obtain ⟨A9, n9, c9, rfl, hp, h1, h2⟩ := hG
          have HP := Lib.hid (hp.more hb2.size); clear hp
          by_cases hg : g % 2 = 0
          · have hE := Lib.hid (show seenD s0 s1 1 = some (g, p) by show ofSlot 0 s0 = _; unfold ofSlot; rw [hw]; simp [hg])
            have hg2 : ((g : Int) % 2 != 0) = false := by have : (g : Int) % 2 = 0 := (by omega); simp [this]
            have HGG := Lib.hid hg
            clear hw hg
            go_wp2
            go_roundw
            case rel => exact ⟨1, by omega, by go_num, by rw [hE.out]; exact ⟨rfl, ⟨A9, n9, c9, rfl, HP.out, h1, h2⟩, rfl⟩, hB2⟩
            case measure => simp [intOf]
          · have hE := Lib.hid (show seenD s0 s1 1 = none by show ofSlot 0 s0 = _; unfold ofSlot; rw [hw]; simp [hg])
            have hg2 : ((g : Int) % 2 != 0) = true := bne_iff_ne.2 (by omega)
            have HGG := Lib.hid hg
            clear hw hg
            go_wp2
            go_roundw
            case rel => exact ⟨1, by omega, by go_num, by rw [hE.out]; exact ⟨rfl, rfl, rfl⟩, hB2⟩
            case measure => simp [intOf]
      · have hs1 : seenD s0 s1 1 = ofSlot 0 s0 := rfl
        have hs2 : seenD s0 s1 2 = later (ofSlot 0 s0) (ofSlot 1 s1) := rfl
        rw [hs1] at hst
        have HS2 := Lib.hid hs2
        clear hs1 hs2
        cases ho : ofSlot 0 s0 with
        | none =>
          rw [ho] at hst
          have HO := Lib.hid ho; clear ho
          obtain ⟨rfl, rfl, rfl⟩ := hst
          go_wp2_with fail
          refine (whole_any A1 n1 c1 s1 _ hn1 hc1 hm1 (H1.out.now hB)).mono ?_
          rintro e w2 ⟨hG, hb2⟩
          have hB2 := hB.trans (hb2.mono hB.size)
          cases hw : wholeD s1 with
          | none =>
            have hE := Lib.hid (show seenD s0 s1 2 = none by rw [HS2.out, HO.out]; show ofSlot 1 s1 = none; unfold ofSlot; rw [hw])
            rw [hw] at hG
            obtain rfl := hG
            clear hw
            go_wp2
            go_roundw
            case rel => exact ⟨2, by omega, by go_num, by rw [hE.out]; exact ⟨rfl, rfl, rfl⟩, hB2⟩
            case measure => simp [intOf]
          | some gp =>
            obtain ⟨g, p⟩ := gp
            rw [hw] at hG
            obtain ⟨A9, n9, c9, rfl, hp, h1, h2⟩ := hG
            have HP := Lib.hid (hp.more hb2.size); clear hp
            by_cases hg : g % 2 = 1
            · have hE := Lib.hid (show seenD s0 s1 2 = some (g, p) by rw [HS2.out, HO.out]; show ofSlot 1 s1 = _; unfold ofSlot; rw [hw]; simp [hg])
              have hg2 : ((g : Int) % 2 != 1) = false := by have : (g : Int) % 2 = 1 := (by omega); simp [this]
              have HGG := Lib.hid hg
              clear hw hg
              go_wp2
              go_roundw
              case rel => exact ⟨2, by omega, by go_num, by rw [hE.out]; exact ⟨rfl, ⟨A9, n9, c9, rfl, HP.out, h1, h2⟩, rfl⟩, hB2⟩
              case measure => simp [intOf]
            · have hE := Lib.hid (show seenD s0 s1 2 = none by rw [HS2.out, HO.out]; show ofSlot 1 s1 = _; unfold ofSlot; rw [hw]; simp [hg])
              have hg2 : ((g : Int) % 2 != 1) = true := bne_iff_ne.2 (by omega)
              have HGG := Lib.hid hg
              clear hw hg
              go_wp2
              go_roundw
              case rel => exact ⟨2, by omega, by go_num, by rw [hE.out]; exact ⟨rfl, rfl, rfl⟩, hB2⟩
              case measure => simp [intOf]
        | some gp0 =>
          obtain ⟨g0, p0⟩ := gp0
          rw [ho] at hst
          have HO := Lib.hid ho; clear ho
          obtain ⟨rfl, ⟨A8, n8, c8, rfl, hp8, h8, h9⟩, rfl⟩ := hst
          go_wp2_with fail
          refine (whole_any A1 n1 c1 s1 _ hn1 hc1 hm1 (H1.out.now hB)).mono ?_
          rintro e w2 ⟨hG, hb2⟩
          have hB2 := hB.trans (hb2.mono hB.size)
          have HP8 := Lib.hid ((hp8.below hb2).more hb2.size); clear hp8
          cases hw : wholeD s1 with
          | none =>
            have hE := Lib.hid (show seenD s0 s1 2 = some (g0, p0) by rw [HS2.out, HO.out]; have : ofSlot 1 s1 = none := (by unfold ofSlot; rw [hw]); rw [this]; rfl)
            rw [hw] at hG
            obtain rfl := hG
            clear hw
            go_wp2
            go_roundw
            case rel => exact ⟨2, by omega, by go_num, by rw [hE.out]; exact ⟨rfl, ⟨A8, n8, c8, rfl, HP8.out, h8, h9⟩, rfl⟩, hB2⟩
            case measure => simp [intOf]
          | some gp =>
            obtain ⟨g, p⟩ := gp
            rw [hw] at hG
            obtain ⟨A9, n9, c9, rfl, hp, h1, h2⟩ := hG
            have HP := Lib.hid (hp.more hb2.size); clear hp
            by_cases hg : g % 2 = 1
            · have hof := Lib.hid (show ofSlot 1 s1 = some (g, p) by unfold ofSlot; rw [hw]; simp [hg])
              have hg2 : ((g : Int) % 2 != 1) = false := by have : (g : Int) % 2 = 1 := (by omega); simp [this]
              have HGG := Lib.hid hg
              clear hw hg
              by_cases hgg : g0 < g
              · have hE := Lib.hid (show seenD s0 s1 2 = some (g, p) by rw [HS2.out, HO.out, hof.out]; simp [later, hgg])
                go_wp2
                go_roundw
                case rel => exact ⟨2, by omega, by go_num, by rw [hE.out]; exact ⟨rfl, ⟨A9, n9, c9, rfl, HP.out, h1, h2⟩, rfl⟩, hB2⟩
                case measure => simp [intOf]
              · have hE := Lib.hid (show seenD s0 s1 2 = some (g0, p0) by rw [HS2.out, HO.out, hof.out]; simp [later, hgg])
                have dgg : decide (g0 < g) = false := decide_eq_false hgg
                go_wp2
                go_roundw
                case rel => exact ⟨2, by omega, by go_num, by rw [hE.out]; exact ⟨rfl, ⟨A8, n8, c8, rfl, HP8.out, h8, h9⟩, rfl⟩, hB2⟩
                case measure => simp [intOf]
            · have hE := Lib.hid (show seenD s0 s1 2 = some (g0, p0) by rw [HS2.out, HO.out]; have : ofSlot 1 s1 = none := (by unfold ofSlot; rw [hw]; simp [hg]); rw [this]; rfl)
              have hg2 : ((g : Int) % 2 != 1) = true := bne_iff_ne.2 (by omega)
              have HGG := Lib.hid hg
              clear hw hg
              go_wp2
              go_roundw
              case rel => exact ⟨2, by omega, by go_num, by rw [hE.out]; exact ⟨rfl, ⟨A8, n8, c8, rfl, HP8.out, h8, h9⟩, rfl⟩, hB2⟩
              case measure => simp [intOf]
    · obtain rfl : k = 2 := by omega
      have hs : seenD s0 s1 2 = readD s0 s1 := rfl
      rw [hs] at hst
      clear hs
      cases ho : readD s0 s1 with
      | none =>
        rw [ho] at hst
        obtain ⟨rfl, rfl, rfl⟩ := hst
        have HO := Lib.hid ho; clear ho
        go_wp2
        refine bodyPost_ret (v := .tuple #[.int .i64 0, .slice none 0 0, .bool false]) (by simp [results, Try.results44, go_sem]) rfl ⟨?_, ?_⟩
        · rw [HO.out]; rfl
        · exact hB
      | some gp =>
        obtain ⟨g, p⟩ := gp
        rw [ho] at hst
        obtain ⟨rfl, ⟨A8, n8, c8, rfl, hp8, h8, h9⟩, rfl⟩ := hst
        have HO := Lib.hid ho; clear ho
        have HP := Lib.hid hp8; clear hp8
        go_wp2
        refine bodyPost_ret (v := .tuple #[.int .i64 (g : Int), .slice A8 n8 c8, .bool true]) (by simp [results, Try.results44, go_sem]) rfl ⟨?_, ?_⟩
        · rw [HO.out]; exact ⟨A8, n8, c8, rfl, HP.out, h8, h9⟩
        · exact hB
/-- The next generation. -/
def genD (s0 s1 : List UInt8) : Nat := match readD s0 s1 with
  | none => 0
  | some (g, _) => g + 1
theorem readD_bd {s0 s1 : List UInt8} {g : Nat} {p : List UInt8} (h : readD s0 s1 = some (g, p)) : g ≤ 9007199254740992 := by
  have hw : ∀ l g p, wholeD l = some (g, p) → g ≤ 9007199254740992 := by
    intro l g p h
    unfold wholeD at h
    split at h
    · split at h
      · split at h
        · cases h; assumption
        · cases h
      · cases h
    · cases h
  have ho : ∀ i l g p, ofSlot i l = some (g, p) → g ≤ 9007199254740992 := by
    intro i l g p h
    unfold ofSlot at h
    split at h
    · rename_i g' p' h'
      split at h
      · cases h; exact hw _ _ _ h'
      · cases h
    · cases h
  unfold readD later at h
  split at h
  · exact ho _ _ _ _ h
  · rename_i h1 h2
    cases h; exact ho _ _ _ _ h1
  · rename_i h1 h2
    split at h
    · cases h; exact ho _ _ _ _ h2
    · cases h; exact ho _ _ _ _ h1
set_option maxRecDepth 100000 in
set_option maxHeartbeats 1600000 in
theorem gen_any (A0 A1 : Option Addr) (n0 c0 n1 c1 : Nat) (s0 s1 : List UInt8) (w : World) (hn0 : n0 ≤ 9223372036854775807) (hn1 : n1 ≤ 9223372036854775807) (hc0 : n0 ≤ c0) (hc1 : n1 ≤ c1) (hm0 : c0 ≤ 9223372036854775807) (hm1 : c1 ≤ 9223372036854775807) (hb0 : Bs w w.heap.size A0 n0 s0) (hb1 : Bs w w.heap.size A1 n1 s1) :
    Calls Try.prog 42 #[.agg #[.slice A0 n0 c0, .slice A1 n1 c1]] w fun e w' => e = .returned (.int .i64 (genD s0 s1 : Nat)) ∧ Below w.heap.size w w' := by
  have hA : Below w.heap.size w (w.alloc (.cells #[.slice A0 n0 c0, .slice A1 n1 c1] 58)) := (Below.refl _ _).alloc (Nat.le_refl _) _
  have H0 := Lib.hid (hb0.now hA); clear hb0
  have H1 := Lib.hid (hb1.now hA); clear hb1
  have K := Blk.new w 58 #[.slice A0 n0 c0, .slice A1 n1 c1]
  have k0 : (w.alloc (.cells #[.slice A0 n0 c0, .slice A1 n1 c1] 58)).cell? ⟨w.heap.size, 0, none⟩ = some (.slice A0 n0 c0) := K.cell 0
  have k1 : (w.alloc (.cells #[.slice A0 n0 c0, .slice A1 n1 c1] 58)).cell? ⟨w.heap.size, 1, none⟩ = some (.slice A1 n1 c1) := K.cell 1
  clear K
  go_enter Try.func42, Try.ntmps42
  go_wp2_with fail
  refine (read_any A0 A1 n0 c0 n1 c1 s0 s1 _ hn0 hn1 hc0 hc1 hm0 hm1 H0.out H1.out).mono ?_
  rintro e w1 ⟨hG, hb⟩
  have hB := hA.trans (hb.mono hA.size)
  cases hr : readD s0 s1 with
  | none =>
    have hE := Lib.hid (show genD s0 s1 = 0 by unfold genD; rw [hr])
    rw [hr] at hG
    obtain rfl := hG
    clear hr
    go_wp2
    go_ret
    exact ⟨by rw [hE.out]; rfl, hB⟩
  | some gp =>
    obtain ⟨g, p⟩ := gp
    have hE := Lib.hid (show genD s0 s1 = g + 1 by unfold genD; rw [hr])
    have hbd := readD_bd hr
    rw [hr] at hG
    obtain ⟨A9, n9, c9, rfl, -, -, -⟩ := hG
    clear hr
    go_wp2
    go_ret
    exact ⟨by rw [hE.out]; rfl, hB⟩
end Go.Proofs.Ytkkbncgnobaliaa
