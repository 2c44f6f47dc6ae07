/-
  THE DISK's WALKS: Record and Whole.
-/
import Derived.Test.YtkkbncgnobaliaaFrmA
namespace Go.Proofs.Ytkkbncgnobaliaa
open Go.RowKit
open CodP
open CrcP
set_option linter.unusedVariables false
/-- May a record of this generation be? -/
def okD (gen : Int) (p : List UInt8) : Prop := (0 ≤ gen ∧ gen ≤ 9007199254740992) ∧ (encU gen.toNat ++ p).length ≤ 65536
open Classical in
/-- What is written of a generation. -/
noncomputable def recD (gen : Int) (p : List UInt8) : List UInt8 := if okD gen p then recd (encU gen.toNat ++ p) else []
theorem recD_yes {gen : Int} {p : List UInt8} (h : okD gen p) : recD gen p = recd (encU gen.toNat ++ p) := if_pos h
theorem recD_no {gen : Int} {p : List UInt8} (h : ¬ okD gen p) : recD gen p = [] := if_neg h
theorem putF0 (p : List UInt8) (h : p.length ≤ 65536) : putF [] p = recd p := by unfold putF; rw [if_pos h]; rfl
set_option maxRecDepth 100000 in
set_option maxHeartbeats 1600000 in
theorem record_any (gen : Int) (A : Option Addr) (n cap : Nat) (p : List UInt8) (w : World) (hn : n ≤ 70368744177664) (hb : Bs w w.heap.size A n p) :
    Calls Try.prog 43 #[.int .i64 gen, .slice A n cap] w fun e w' => (∃ v, e = .returned v ∧ OwnB w' w.heap.size 5 v (recD gen p)) ∧ Below w.heap.size w w' := by
  have hHb := Lib.hid hb; clear hb
  by_cases h0 : gen < 0
  · have hR := Lib.hid (recD_no (gen := gen) (p := p) (fun h => by have := h.1.1; omega))
    go_enter Try.func43, Try.ntmps43
    go_wp2
    go_ret
    exact ⟨⟨_, rfl, by rw [hR.out]; exact OwnB.nil_ _ _ _⟩, Below.refl _ _⟩
  by_cases h1 : 9007199254740992 < gen
  · have hR := Lib.hid (recD_no (gen := gen) (p := p) (fun h => by have := h.1.2; omega))
    go_enter Try.func43, Try.ntmps43
    go_wp2
    go_ret
    exact ⟨⟨_, rfl, by rw [hR.out]; exact OwnB.nil_ _ _ _⟩, Below.refl _ _⟩
  have d0 : decide (gen < 0) = false := decide_eq_false h0
  have d1 : decide (9007199254740992 < gen) = false := decide_eq_false h1
  have hpu := Lib.hid (show putU [] gen = encU gen.toNat from by unfold putU; rw [if_pos ⟨by omega, by omega⟩]; rfl)
  have hel := Lib.hid (encU_length_le 8 gen.toNat (pow_le _ (by omega)))
  go_enter Try.func43, Try.ntmps43
  go_wp2_with fail
  refine (putU_any none 0 0 [] gen _ (by omega) (Bs.nil_ _ _ _)).mono ?_
  rintro e w1 ⟨⟨v, rfl, hown⟩, hb1⟩
  rw [hpu.out] at hown
  have hO := Lib.hid hown; clear hown
  have hP1 := Lib.hid (hHb.out.now hb1)
  clear d0 d1
  go_wp2_with ((refine wpList_append_b (by rfl) (.tmp 13) (.tmp 14) 22 (by rfl) w.heap.size 5 Try.underlying22 infoU8 v (encU gen.toNat) (by rfl) hO.out w1.heap.size A n cap p (by rfl) hP1.out (by have := hel.out; omega) hb1.size ?_))
  intro v2 w2 hown2 hgr hat
  have hB2 := hb1.grown hgr hb1.size (fun g e => hO.out.base_le g e)
  obtain ⟨A2, n2, c2, rfl, hs2, hc2, hd2⟩ := hown2.bs
  rw [maxLen_eq'] at hd2
  have hlen := hs2.len
  by_cases h6 : n2 ≤ 65536
  · have hR := Lib.hid (recD_yes (gen := gen) (p := p) ⟨⟨by omega, by omega⟩, by rw [hlen]; exact h6⟩)
    have hS2 := Lib.hid hs2
    have hlen' := Lib.hid hlen
    clear hown2 hs2 hlen hat
    go_wp2_with fail
    refine (fput_any none 0 0 [] A2 n2 c2 (encU gen.toNat ++ p) _ (by omega) (by omega) (Bs.nil_ _ _ _) hS2.out).mono ?_
    rintro e w3 ⟨⟨v3, rfl, hown3⟩, hb3⟩
    rw [putF0 _ (by rw [hlen'.out]; exact h6)] at hown3
    go_wp2
    go_ret
    exact ⟨⟨_, rfl, by rw [hR.out]; exact OwnB.less hown3 hB2.size⟩, hB2.trans (hb3.mono hB2.size)⟩
  · have hR := Lib.hid (recD_no (gen := gen) (p := p) (fun h => by have := h.2; rw [hlen] at this; exact h6 this))
    have h7 : 65536 < n2 := by omega
    clear hown2 hs2 hlen hat
    go_wp2
    go_ret
    exact ⟨⟨_, rfl, by rw [hR.out]; exact OwnB.nil_ _ _ _⟩, hB2⟩
/-- The generation of a slot, and what stands in it. -/
def wholeD (l : List UInt8) : Option (Nat × List UInt8) := match getF l with
  | .ok (q, []) => match getU q with
    | .ok (g, p) => if g ≤ 9007199254740992 then some (g, p) else none
    | .error _ => none
  | _ => none
def GotW (w' : World) (B : Nat) (e : Ending) : Option (Nat × List UInt8) → Prop
  | some (g, p) => ∃ A n c, e = .returned (.tuple #[.int .i64 (g : Int), .slice A n c, .bool true]) ∧ Bs w' B A n p ∧ n ≤ c ∧ c ≤ 9223372036854775807
  | none => e = .returned (.tuple #[.int .i64 0, .slice none 0 0, .bool false])
theorem getF_err {l : List UInt8} {c : Nat} (h : getF l = .error c) : c ≠ 0 := by
  unfold getF at h
  cases hg : getU l with
  | error c' => rw [hg] at h; cases h; exact getU_err hg
  | ok mr =>
    obtain ⟨m, q⟩ := mr
    rw [hg] at h
    simp only at h
    split at h
    · cases h; omega
    · split at h
      · cases h; omega
      · split at h
        · cases h
        · cases h; omega
set_option maxRecDepth 100000 in
set_option maxHeartbeats 1600000 in
theorem whole_any (A : Option Addr) (n cap : Nat) (l : List UInt8) (w : World) (hn : n ≤ 9223372036854775807) (hcn : n ≤ cap) (hcap : cap ≤ 9223372036854775807) (hb : Bs w w.heap.size A n l) :
    Calls Try.prog 46 #[.slice A n cap] w fun e w' => GotW w' w.heap.size e (wholeD l) ∧ Below w.heap.size w w' := by
  have hHb := Lib.hid hb; clear hb
  go_enter Try.func46, Try.ntmps46
  go_wp2_with fail
  refine (fget_any A n cap l _ hn hcn hcap hHb.out).mono ?_
  rintro e w1 ⟨hG, hb1⟩
  cases hg : getF l with
  | error c =>
    have hE := Lib.hid (show wholeD l = none by unfold wholeD; rw [hg])
    rw [hg] at hG
    obtain rfl := hG
    have hc : ((c : Int) != 0) = true := bne_iff_ne.2 (by have := getF_err hg; omega)
    clear hg
    go_wp2
    refine bodyPost_ret (v := .tuple #[.int .i64 0, .slice none 0 0, .bool false]) (by simp [results, Try.results46, go_sem]) rfl ⟨?_, ?_⟩
    · rw [hE.out]; rfl
    · exact hb1
  | ok qr =>
    obtain ⟨q, r⟩ := qr
    rw [hg] at hG
    obtain ⟨A1, n1, c1, A2, n2, c2, rfl, hq, hr, h1, h2, h3, h4⟩ := hG
    have hql := Lib.hid (show n1 ≤ n by
      obtain ⟨e, -⟩ := getF_ok hg
      have := congrArg List.length e
      rw [hHb.out.len] at this
      rw [← hq.len]
      unfold recd at this
      simp at this
      omega)
    by_cases hr0 : n2 = 0
    · have hrn : r = [] := List.eq_nil_of_length_eq_zero (by rw [hr.len, hr0])
      subst hrn
      have HQ := Lib.hid hq
      have hG2 := Lib.hid hg
      subst hr0
      clear hq hr hg
      go_wp2_with fail
      refine (getU_any A1 n1 c1 q _ (by have := hql.out; omega) h1 h2 (HQ.out.more hb1.size)).mono ?_
      rintro e w2 ⟨rfl, hb2⟩
      have hB2 := hb1.trans (hb2.mono hb1.size)
      cases hu : getU q with
      | error c =>
        have hE := Lib.hid (show wholeD l = none by unfold wholeD; rw [hG2.out]; simp only [hu])
        have hc : ((c : Int) != 0) = true := bne_iff_ne.2 (by have := getU_err hu; omega)
        simp only [gotU]
        clear hu
        go_wp2
        refine bodyPost_ret (v := .tuple #[.int .i64 0, .slice none 0 0, .bool false]) (by simp [results, Try.results46, go_sem]) rfl ⟨?_, ?_⟩
        · rw [hE.out]; rfl
        · exact hB2
      | ok gp =>
        obtain ⟨g, p⟩ := gp
        obtain ⟨he, -⟩ := getU_ok hu
        simp only [gotU]
        have hpl : n1 - p.length + p.length = n1 := by have := congrArg List.length he; rw [List.length_append, HQ.out.len] at this; omega
        have hbp : Bs w2 w.heap.size (cutAt A1 c1 (n1 - p.length) 1) p.length p := by
          have := ((HQ.out.below (hb2.mono hb1.size))).lo (k := n1 - p.length) (cap := c1) (by omega) h1
          have e1 : q.drop (n1 - p.length) = p := by
            have := congrArg List.length he
            rw [List.length_append, HQ.out.len] at this
            rw [show n1 - p.length = (encU g).length by omega, he, List.drop_left]
          rw [e1, show n1 - (n1 - p.length) = p.length by omega] at this
          exact this
        have HBP := Lib.hid hbp; clear hbp
        have hcc : p.length ≤ c1 - (n1 - p.length) := by omega
        have hcc2 : c1 - (n1 - p.length) ≤ 9223372036854775807 := by omega
        by_cases hgm : g ≤ 9007199254740992
        · have hE := Lib.hid (show wholeD l = some (g, p) by unfold wholeD; rw [hG2.out]; simp only [hu]; rw [if_pos hgm])
          have dg : decide (9007199254740992 < g) = false := decide_eq_false (by omega)
          clear hu he hpl
          generalize cutAt A1 c1 (n1 - p.length) 1 = A9 at HBP ⊢
          generalize c1 - (n1 - p.length) = c9 at hcc hcc2 ⊢
          generalize hk : p.length = k at *
          clear hk
          go_wp2
          refine bodyPost_ret (v := .tuple #[.int .i64 (g : Int), .slice A9 k c9, .bool true]) (by simp [results, Try.results46, go_sem]) rfl ⟨?_, ?_⟩
          · rw [hE.out]; exact ⟨A9, k, c9, rfl, HBP.out, hcc, hcc2⟩
          · exact hB2
        · have hE := Lib.hid (show wholeD l = none by unfold wholeD; rw [hG2.out]; simp only [hu]; rw [if_neg hgm])
          have dg : 9007199254740992 < g := by omega
          clear hu he hpl
          generalize cutAt A1 c1 (n1 - p.length) 1 = A9 at HBP ⊢
          generalize c1 - (n1 - p.length) = c9 at hcc hcc2 ⊢
          go_wp2
          refine bodyPost_ret (v := .tuple #[.int .i64 0, .slice none 0 0, .bool false]) (by simp [results, Try.results46, go_sem]) rfl ⟨?_, ?_⟩
          · rw [hE.out]; rfl
          · exact hB2
    · have hE := Lib.hid (show wholeD l = none by
        unfold wholeD; rw [hg]
        cases r with
        | nil => exact absurd hr.len.symm hr0
        | cons a r => rfl)
      have hn2 : 0 < n2 := by omega
      clear hq hr hg hr0
      go_wp2
      refine bodyPost_ret (v := .tuple #[.int .i64 0, .slice none 0 0, .bool false]) (by simp [results, Try.results46, go_sem]) rfl ⟨?_, ?_⟩
      · rw [hE.out]; rfl
      · exact hb1
end Go.Proofs.Ytkkbncgnobaliaa
