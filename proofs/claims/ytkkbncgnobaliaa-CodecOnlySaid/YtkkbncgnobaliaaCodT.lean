/-
  codec: numbers with a sign, and texts: put and got.
-/
import Derived.Test.YtkkbncgnobaliaaCodG
import Derived.Test.YtkkbncgnobaliaaFrmA
import Derived.Lib.AppendStr
namespace Go.Proofs.Ytkkbncgnobaliaa
open Go.RowKit
open CodP
set_option linter.unusedVariables false
/-- A number with a sign as one without. -/
def encI (n : Int) : Nat := if n < 0 then (-2 * n - 1).toNat else (2 * n).toNat
def decI (u : Nat) : Int := if u % 2 = 1 then -(((u + 1) / 2 : Nat) : Int) else ((u / 2 : Nat) : Int)
theorem decI_encI (n : Int) : decI (encI n) = n := by
  unfold decI encI
  by_cases h : n < 0
  · rw [if_pos h, if_pos (by omega)]; omega
  · rw [if_neg h, if_neg (by omega)]; omega
theorem encI_decI (u : Nat) : encI (decI u) = u := by
  unfold decI encI
  by_cases h : u % 2 = 1
  · rw [if_pos h, if_pos (by omega)]; omega
  · rw [if_neg h, if_neg (by omega)]; omega
theorem decI_bd {u : Nat} (h : u ≤ 1152921504606846976) : -576460752303423488 ≤ decI u ∧ decI u ≤ 576460752303423488 := by
  unfold decI; split <;> omega
def putI (l : List UInt8) (n : Int) : List UInt8 := if -576460752303423488 ≤ n ∧ n ≤ 576460752303423488 then l ++ encU (encI n) else l
def getI (l : List UInt8) : Except Nat (Int × List UInt8) := match getU l with
  | .error c => .error c
  | .ok (u, r) => .ok (decI u, r)
theorem getI_putI (n : Int) (t : List UInt8) (h : -576460752303423488 ≤ n ∧ n ≤ 576460752303423488) : getI (encU (encI n) ++ t) = .ok (n, t) := by
  unfold getI
  rw [getU_encU _ _ (by unfold encI; split <;> omega)]
  simp only [decI_encI]
set_option maxRecDepth 100000 in
set_option maxHeartbeats 800000 in
theorem putI_any (A : Option Addr) (n cap : Nat) (l : List UInt8) (m : Int) (w : World) (hn : n ≤ 70368744177664) (hb : Bs w w.heap.size A n l) :
    Calls Try.prog 33 #[.slice A n cap, .int .i64 m] w fun e w' => (∃ v, e = .returned v ∧ OwnB w' w.heap.size 5 v (putI l m)) ∧ Below w.heap.size w w' := by
  have HB := Lib.hid hb; clear hb
  by_cases h0 : m < -576460752303423488
  · have HP := Lib.hid (show putI l m = l from if_neg (fun h => by omega))
    go_enter Try.func33, Try.ntmps33
    go_wp2_with fail
    refine (clone_any A n cap l _ hn HB.out).mono ?_
    rintro e w1 ⟨⟨v, rfl, hown⟩, hb1⟩
    go_wp2
    go_ret
    exact ⟨⟨_, rfl, by rw [HP.out]; exact hown⟩, hb1⟩
  have d0 : decide (m < -576460752303423488) = false := decide_eq_false h0
  by_cases h1 : 576460752303423488 < m
  · have HP := Lib.hid (show putI l m = l from if_neg (fun h => by omega))
    go_enter Try.func33, Try.ntmps33
    go_wp2_with fail
    refine (clone_any A n cap l _ hn HB.out).mono ?_
    rintro e w1 ⟨⟨v, rfl, hown⟩, hb1⟩
    go_wp2
    go_ret
    exact ⟨⟨_, rfl, by rw [HP.out]; exact hown⟩, hb1⟩
  have d1 : decide (576460752303423488 < m) = false := decide_eq_false h1
  have HP := Lib.hid (show putI l m = l ++ encU (encI m) from if_pos ⟨by omega, by omega⟩)
  by_cases hneg : m < 0
  · have HE := Lib.hid (show putU l (-2 * m - 1) = l ++ encU (encI m) from by unfold putU encI; rw [if_pos (by omega), if_pos hneg])
    go_enter Try.func33, Try.ntmps33
    go_wp2_with fail
    refine (putU_any A n cap l (-2 * m - 1) _ hn HB.out).mono ?_
    rintro e w1 ⟨⟨v, rfl, hown⟩, hb1⟩
    go_wp2
    go_ret
    exact ⟨⟨_, rfl, by rw [HP.out, ← HE.out]; exact hown⟩, hb1⟩
  · have HE := Lib.hid (show putU l (2 * m) = l ++ encU (encI m) from by unfold putU encI; rw [if_pos (by omega), if_neg hneg])
    have dn : decide (m < 0) = false := decide_eq_false hneg
    go_enter Try.func33, Try.ntmps33
    go_wp2_with fail
    refine (putU_any A n cap l (2 * m) _ hn HB.out).mono ?_
    rintro e w1 ⟨⟨v, rfl, hown⟩, hb1⟩
    go_wp2
    go_ret
    exact ⟨⟨_, rfl, by rw [HP.out, ← HE.out]; exact hown⟩, hb1⟩
def gotI (A : Option Addr) (n cap : Nat) : Except Nat (Int × List UInt8) → Array Value
  | .ok (m, r) => #[.int .i64 m, .slice (cutAt A cap (n - r.length) 1) r.length (cap - (n - r.length)), .int .i64 0]
  | .error c => #[.int .i64 0, .slice none 0 0, .int .i64 (c : Int)]
set_option maxRecDepth 100000 in
set_option maxHeartbeats 1600000 in
theorem getI_any (A : Option Addr) (n cap : Nat) (l : List UInt8) (w : World) (hn : n ≤ 9223372036854775807) (hcn : n ≤ cap) (hcap : cap ≤ 9223372036854775807) (hb : Bs w w.heap.size A n l) :
    Calls Try.prog 36 #[.slice A n cap] w fun e w' => e = .returned (.tuple (gotI A n cap (getI l))) ∧ Below w.heap.size w w' := by
  have HB := Lib.hid hb; clear hb
  go_enter Try.func36, Try.ntmps36
  go_wp2_with fail
  refine (getU_any A n cap l _ hn hcn hcap HB.out).mono ?_
  rintro e w1 ⟨rfl, hb1⟩
  cases hu : getU l with
  | error c =>
    have HE := Lib.hid (show getI l = .error c by unfold getI; rw [hu])
    have hc : ((c : Int) != 0) = true := bne_iff_ne.2 (by have := getU_err hu; omega)
    simp only [gotU]
    clear hu
    go_wp2
    refine bodyPost_ret (v := .tuple #[.int .i64 0, .slice none 0 0, .int .i64 (c : Int)]) (by simp [results, Try.results36, go_sem]) rfl ⟨?_, hb1⟩
    rw [HE.out]; rfl
  | ok ur =>
    obtain ⟨u, r⟩ := ur
    obtain ⟨-, hu60⟩ := getU_ok hu
    have HE := Lib.hid (show getI l = .ok (decI u, r) by unfold getI; rw [hu])
    simp only [gotU]
    clear hu
    generalize hx1 : cutAt A cap (n - r.length) 1 = A2 at *
    generalize hx2 : cap - (n - r.length) = c2 at *
    have HX1 := Lib.hid hx1
    have HX2 := Lib.hid hx2
    clear hx1 hx2
    by_cases hodd : u % 2 = 1
    · have hm : (u : Int) % 2 = 1 := by omega
      have hmt : (u : Int).tmod 2 = 1 := by rw [show (2 : Int) = ((2 : Nat) : Int) from rfl]; exact congrArg Int.ofNat hodd
      have hq : (-((u : Int) + 1)).tdiv 2 = decI u := by
        unfold decI; rw [if_pos hodd]
        rw [Int.neg_tdiv, show (2 : Int) = ((2 : Nat) : Int) from rfl, show (u : Int) + 1 = ((u + 1 : Nat) : Int) by push_cast; rfl]
        rfl
      have hwr : wrap64 (decI u) = decI u := by have := decI_bd hu60; unfold wrap64; omega
      have HO := Lib.hid hodd; clear hodd
      go_wp2
      refine bodyPost_ret (v := .tuple #[.int .i64 (decI u), .slice A2 r.length c2, .int .i64 0]) (by simp [results, Try.results36, go_sem, hwr]) rfl ⟨?_, hb1⟩
      rw [HE.out, ← HX1.out, ← HX2.out]; rfl
    · have hm : (u : Int) % 2 = 0 := by omega
      have hmt : (u : Int).tmod 2 = 0 := by rw [show (2 : Int) = ((2 : Nat) : Int) from rfl]; exact congrArg Int.ofNat (show u % 2 = 0 by omega)
      have hq : (u : Int) / 2 = decI u := by
        unfold decI; rw [if_neg hodd]; omega
      have HO := Lib.hid hodd; clear hodd
      go_wp2
      refine bodyPost_ret (v := .tuple #[.int .i64 (decI u), .slice A2 r.length c2, .int .i64 0]) (by simp [results, Try.results36, go_sem]) rfl ⟨?_, hb1⟩
      rw [HE.out, ← HX1.out, ← HX2.out]; rfl
/-- A text's octets. -/
def chs (s : ByteArray) : List UInt8 := s.data.toList
theorem chs_len (s : ByteArray) : (chs s).length = s.size := Array.length_toList
theorem chs_mk (l : List UInt8) : chs ⟨l.toArray⟩ = l := by simp [chs]
theorem mk_chs (s : ByteArray) : (⟨(chs s).toArray⟩ : ByteArray) = s := by
  apply ByteArray.ext; simp [chs]
def addT (l : List UInt8) (s : ByteArray) : List UInt8 := if s.size ≤ 65536 then l ++ encU s.size ++ chs s else l
set_option maxRecDepth 100000 in
set_option maxHeartbeats 1600000 in
theorem addT_any (vb : Value) (l : List UInt8) (s : ByteArray) (w : World) (base : Nat) (hbase : base ≤ w.heap.size) (hl : l.length ≤ 70368744177664) (hs63 : s.size ≤ 9223372036854775807) (hown : OwnB w base 5 vb l) :
    Calls Try.prog 63 #[vb, .string s] w fun e w' => (∃ v, e = .returned v ∧ OwnB w' base 5 v (addT l s)) ∧ Below base w w' := by
  have HO := Lib.hid hown; clear hown
  by_cases hs : s.size ≤ 65536
  · have HP := Lib.hid (show addT l s = l ++ encU s.size ++ chs s from if_pos hs)
    have d : decide ((65536 : Int) < (s.size : Int)) = false := decide_eq_false (by omega)
    have hel := Lib.hid (encU_length_le 8 s.size (pow_le _ (by omega)))
    obtain ⟨i0, hi, hz0, hz1, hz2⟩ := info_parts infoU8
    go_enter Try.func63, Try.ntmps63
    go_wp2_with fail
    refine (addU_any vb l (s.size : Int) w base hbase hl ⟨by omega, by omega⟩ HO.out).mono ?_
    rintro e w1 ⟨⟨v1, rfl, hown1⟩, hb1⟩
    have H1 : Hid (w1.ownsRow base 5 1 v1 (l ++ encU s.size).length ((l ++ encU s.size).map b8)) := Lib.hid hown1
    clear hown1
    go_wp2_with ((refine Lib.wpList_append_own_string w1 (by rfl) (.tmp 12) (.tmp 13) 22 9 (by rfl) base 5 i0 Try.underlying22 Try.underlying9 hi hz0 hz1 hz2 _ _ _ (by rfl) H1.out s (by rfl) (by rw [List.length_append]; have := hel.out; unfold maxLen; omega) (by rw [List.length_append]; have := hel.out; omega) (by have := hb1.size; omega) ?_; intro v2 w2 hown2 hgr2 _))
    go_ret
    refine ⟨⟨_, rfl, ?_⟩, hb1.grown hgr2 (by have := hb1.size; omega) (fun g e => (World.ownsRow.lt H1.out g e).1)⟩
    rw [HP.out]
    unfold OwnB
    rw [List.length_append, chs_len, List.map_append]
    exact hown2
  · have HP := Lib.hid (show addT l s = l from if_neg hs)
    have d : (65536 : Int) < (s.size : Int) := by omega
    go_enter Try.func63, Try.ntmps63
    go_wp2
    go_ret
    exact ⟨⟨_, rfl, by rw [HP.out]; exact HO.out⟩, Below.refl _ _⟩
theorem putT_any (A : Option Addr) (n cap : Nat) (l : List UInt8) (s : ByteArray) (w : World) (hn : n ≤ 70368744177664) (hs63 : s.size ≤ 9223372036854775807) (hb : Bs w w.heap.size A n l) :
    Calls Try.prog 32 #[.slice A n cap, .string s] w fun e w' => (∃ v, e = .returned v ∧ OwnB w' w.heap.size 5 v (addT l s)) ∧ Below w.heap.size w w' := by
  have hlen := hb.len
  go_enter Try.func32, Try.ntmps32
  go_wp2_with fail
  refine (clone_any A n cap l _ hn hb).mono ?_
  rintro e w1 ⟨⟨v, rfl, hown⟩, hb1⟩
  go_wp2_with fail
  refine (addT_any v l s _ w.heap.size hb1.size (by omega) hs63 hown).mono ?_
  rintro e w2 ⟨⟨v2, rfl, hown2⟩, hb2⟩
  clear hown hb
  go_wp2
  go_ret
  exact ⟨⟨_, rfl, hown2⟩, hb1.trans hb2⟩
/-- The text that stands first, and the rest. -/
def getT (l : List UInt8) : Except Nat (List UInt8 × List UInt8) := match getU l with
  | .error c => .error c
  | .ok (n, r) => if 65536 < n then .error 4 else if r.length < n then .error 3 else .ok (r.take n, r.drop n)
def GotT (w' : World) (B : Nat) (e : Ending) : Except Nat (List UInt8 × List UInt8) → Prop
  | .ok (t, r) => ∃ A2 n2 c2, e = .returned (.tuple #[.string ⟨t.toArray⟩, .slice A2 n2 c2, .int .i64 0]) ∧ Bs w' B A2 n2 r ∧ n2 ≤ c2 ∧ c2 ≤ 9223372036854775807
  | .error c => e = .returned (.tuple #[.string ⟨#[]⟩, .slice none 0 0, .int .i64 (c : Int)])
set_option maxRecDepth 100000 in
set_option maxHeartbeats 1600000 in
theorem getT_at (B : Nat) (A : Option Addr) (n cap : Nat) (l : List UInt8) (w : World) (hBw : B ≤ w.heap.size) (hn : n ≤ 9223372036854775807) (hcn : n ≤ cap) (hcap : cap ≤ 9223372036854775807) (hb : Bs w B A n l) :
    Calls Try.prog 37 #[.slice A n cap] w fun e w' => GotT w' B e (getT l) ∧ Below w.heap.size w w' := by
  have HB := Lib.hid hb; clear hb
  go_enter Try.func37, Try.ntmps37
  go_wp2_with fail
  refine (getU_any A n cap l _ hn hcn hcap (HB.out.more hBw)).mono ?_
  rintro e w1 ⟨rfl, hb1⟩
  cases hu : getU l with
  | error c =>
    have HE := Lib.hid (show getT l = .error c by unfold getT; rw [hu])
    have hc : ((c : Int) != 0) = true := bne_iff_ne.2 (by have := getU_err hu; omega)
    simp only [gotU]
    clear hu
    go_wp2
    refine bodyPost_ret (v := .tuple #[.string ⟨#[]⟩, .slice none 0 0, .int .i64 (c : Int)]) (by simp [results, Try.results37, go_sem]) rfl ⟨?_, hb1⟩
    rw [HE.out]; rfl
  | ok mr =>
    obtain ⟨m, r⟩ := mr
    obtain ⟨hl, hm60⟩ := getU_ok hu
    simp only [gotU]
    have HU := Lib.hid hu; clear hu
    have hkl : r.length + (encU m).length = n := by have := congrArg List.length hl; rw [List.length_append, HB.out.len] at this; omega
    have hr1 : Bs w1 B (cutAt A cap (n - r.length) 1) r.length r := by
      have := (HB.out.below (hb1.mono hBw)).lo (k := n - r.length) (cap := cap) (by omega) hcn
      have e1 : l.drop (n - r.length) = r := by rw [show n - r.length = (encU m).length by omega, hl, List.drop_left]
      have e2 : n - (n - r.length) = r.length := by omega
      rw [e1, e2] at this
      exact this
    have hrcap : r.length ≤ cap - (n - r.length) := by omega
    have hrc2 : cap - (n - r.length) ≤ 9223372036854775807 := by omega
    have HR := Lib.hid hr1; clear hr1 hl hkl
    generalize cutAt A cap (n - r.length) 1 = A3 at HR ⊢
    generalize cap - (n - r.length) = c3 at hrcap hrc2 ⊢
    generalize hrl : r.length = k at *
    have HRL := Lib.hid hrl; clear hrl
    by_cases h1 : 65536 < m
    · have HE := Lib.hid (show getT l = .error 4 by unfold getT; rw [HU.out]; simp only; rw [if_pos h1])
      go_wp2
      refine bodyPost_ret (v := .tuple #[.string ⟨#[]⟩, .slice none 0 0, .int .i64 4]) (by simp [results, Try.results37, go_sem]) rfl ⟨?_, hb1⟩
      rw [HE.out]; rfl
    have d1 : decide (65536 < m) = false := decide_eq_false h1
    by_cases h2 : k < m
    · have HE := Lib.hid (show getT l = .error 3 by unfold getT; rw [HU.out]; simp only; rw [if_neg h1, if_pos (by rw [HRL.out]; exact h2)])
      go_wp2
      refine bodyPost_ret (v := .tuple #[.string ⟨#[]⟩, .slice none 0 0, .int .i64 3]) (by simp [results, Try.results37, go_sem]) rfl ⟨?_, hb1⟩
      rw [HE.out]; rfl
    have d2 : decide (k < m) = false := decide_eq_false h2
    have HE := Lib.hid (show getT l = .ok (r.take m, r.drop m) by unfold getT; rw [HU.out]; simp only; rw [if_neg h1, if_neg (by rw [HRL.out]; exact h2)])
    have s1 : ∀ w, (Instr.slice 22 (.slice A3 k c3) none (some (.int .i64 (m : Int))) none).run Try.prog w = .ok (.slice A3 m c3) w := run_cut_hi Try.underlying22 1 sizeU8 A3 k c3 m (by omega)
    have s2 : ∀ w, (Instr.slice 22 (.slice A3 k c3) (some (.int .i64 (m : Int))) none none).run Try.prog w = .ok (.slice (cutAt A3 c3 m 1) (k - m) (c3 - m)) w := run_cut_lo Try.underlying22 1 sizeU8 A3 k c3 m (by omega)
    have st : ∀ p : Bel w1, (convert 22 9 (.slice A3 m c3)).run Try.prog p.now = .ok (.string ⟨(r.take m).toArray⟩) p.now := fun p => run_str p.now c3 ((HR.out.below (p.bel.mono (by have := hb1.size; omega))).hi (show m ≤ k by omega))
    have HT := Lib.hid (HR.out.lo (show m ≤ k by omega) hrcap)
    generalize cutAt A3 c3 m 1 = A5 at s2 HT
    generalize hsx : (⟨(r.take m).toArray⟩ : ByteArray) = sx at st
    have HSX := Lib.hid hsx; clear hsx
    go_wp2_with fail
    refine wp_region_bel (by kernel_rfl) (by kernel_rfl) ?_
    repeat (
      refine WQ.step (fun KK hKK => ?_)
      go_simp
      refine hKK _ ?_; clear hKK KK)
    refine WQ.nil_ ?_
    rintro wq1 ⟨⟨wq, hq⟩, hwq⟩
    obtain rfl : wq = wq1 := hwq.symm
    clear hwq
    go_wp2
    refine bodyPost_ret (v := .tuple #[.string sx, .slice A5 (k - m) (c3 - m), .int .i64 0]) (by simp [results, Try.results37, go_sem]) rfl ⟨?_, hb1.trans (hq.mono hb1.size)⟩
    rw [HE.out]
    exact ⟨A5, _, _, by rw [HSX.out], HT.out.below (hq.mono (by have := hb1.size; omega)), by omega, by omega⟩
end Go.Proofs.Ytkkbncgnobaliaa
