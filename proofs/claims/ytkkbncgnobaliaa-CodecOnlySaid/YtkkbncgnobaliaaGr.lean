/-
  codec: what is appended to a slice of the call's own changes that slice's row alone; a region with two calls; labels put.
-/
import Derived.Test.YtkkbncgnobaliaaCodL
import Derived.Test.YtkkbncgnobaliaaMid
namespace Go.Proofs.Ytkkbncgnobaliaa
open Go.RowKit
open CodP
set_option linter.unusedVariables false
/-- From w to w' every block that is no row of octets stays as it was. -/
def notOct : Obj → Prop
  | .cells _ t _ => t ≠ 5
  | _ => True
structure Kp (w w' : World) : Prop where
  size : w.heap.size ≤ w'.heap.size
  block : ∀ (k : Nat) (obj : Obj), w.heap[k]? = some obj → notOct obj → w'.heap[k]? = some obj
theorem Kp.refl (w : World) : Kp w w := ⟨Nat.le_refl _, fun _ _ h _ => h⟩
theorem Kp.trans {a b c : World} (h : Kp a b) (k : Kp b c) : Kp a c := ⟨Nat.le_trans h.size k.size, fun i o h1 h2 => k.block i o (h.block i o h1 h2) h2⟩
theorem Kp.alloc {a b : World} (h : Kp a b) (o : Obj) : Kp a (b.alloc o) := h.trans ⟨by simp, fun k obj hk _ => (heap_alloc_old b o (Array.getElem?_eq_some_iff.1 hk).1).trans hk⟩
theorem Kp.step {b c : World} {v : Value} {base : Nat} {l : List UInt8} (h : b.grownBy c v.ownBlock) (ho : OwnB b base 5 v l) : Kp b c := ⟨h.size, fun k obj hk hn => by
  refine (h.block k (Array.getElem?_eq_some_iff.1 hk).1 (fun e => ?_)).trans hk
  rcases ho.2 with ⟨h1, h2⟩ | ⟨g, cap, cur, hv, hg, hh, -⟩
  · rw [h1] at e; simp [Value.ownBlock] at e
  · rw [hv] at e; simp [Value.ownBlock] at e
    subst e
    rw [hk] at hh
    cases hh
    exact hn rfl⟩
theorem Kp.blk {a b : World} {g : Nat} {t : TypeId} {cs : Array Value} (h : Kp a b) (hb : Blk a g t cs) (ht : t ≠ 5) : Blk b g t cs := h.block g _ hb ht
theorem Kp.below {a b : World} (h : Below a.heap.size a b) : Kp a b := ⟨h.size, fun k obj hk _ => (h.block k (Array.getElem?_eq_some_iff.1 hk).1).trans hk⟩
theorem Kp.drew (a : World) : Kp a a.drew := ⟨Nat.le_refl _, fun _ _ h _ => h⟩
set_option maxRecDepth 100000 in
set_option maxHeartbeats 800000 in
theorem addU_gr (vb : Value) (l : List UInt8) (n : Int) (w : World) (base : Nat) (hbase : base ≤ w.heap.size) (hl : l.length ≤ 70368744177664) (hn : 0 ≤ n ∧ n ≤ 1152921504606846976) (hown : OwnB w base 5 vb l) :
    Calls Try.prog 61 #[vb, .int .i64 n] w fun e w' => (∃ v, e = .returned v ∧ OwnB w' base 5 v (l ++ encU n.toNat)) ∧ Below base w w' ∧ Kp w w' := by
  obtain ⟨n, rfl⟩ := Int.eq_ofNat_of_zero_le hn.1
  have hn2 : n ≤ 1152921504606846976 := by omega
  clear hn
  have hHO := Lib.hid hown; clear hown
  have hel := Lib.hid (encU_length_le 8 n (pow_le n hn2))
  have d1 : decide (1152921504606846976 < n) = false := decide_eq_false (by omega)
  go_enter Try.func61, Try.ntmps61
  go_wp2
  go_loopw [0, 1] (fun vo x wr => ∃ (m : Nat) (l' : List UInt8), m ≤ n ∧ x = .int .i64 m ∧ OwnB wr base 5 vo l' ∧ Hid (l' ++ encU m = l ++ encU n) ∧ Below base w wr ∧ Hid (Kp w wr)) (fun _ x _ => (intOf x).toNat)
  case atStart => exact ⟨n, l, Nat.le_refl _, rfl, hHO.out, Lib.hid rfl, Below.refl _ _, Lib.hid (Kp.refl _)⟩
  case round =>
    obtain ⟨m, l', hmn, rfl, hown, hE, hB, hG⟩ := hrel
    have hO := Lib.hid hown; clear hown
    have hsz := hB.size
    have hll := Lib.hid (show l'.length ≤ l.length + 9 by have := congrArg List.length hE.out; have h2 := hel.out; have h3 := encU_pos m; simp at this; omega)
    by_cases hm : 128 ≤ m
    · have HN := Lib.hid (Bs.lit1 wr 5 (.int .u8 ((m : Int) % 128 + 128)) (UInt8.ofNat (m % 128 + 128)) (oct1 (by omega) _ (by omega)))
      have HO2 := Lib.hid (hO.out.alloc (.cells #[.int .u8 ((m : Int) % 128 + 128)] 5))
      go_wp2_with ((refine wpList_append_b (by rfl) (.tmp 14) (.tmp 19) 22 (by rfl) base 5 Try.underlying22 infoU8 _ l' (by rfl) HO2.out (wr.heap.size + 1) (some ⟨wr.heap.size, 0, none⟩) 1 1 [UInt8.ofNat (m % 128 + 128)] (by rfl) HN.out (by have := hll.out; omega) (by simp; omega) ?_; intro v' w' hown' hgr hat))
      have hB2 : Below base w w' := (hB.alloc (by omega) _).grown hgr (by simp; omega) (fun g e => hO.out.base_le g e)
      have hG2 := Lib.hid ((hG.out.alloc _).trans (Kp.step hgr HO2.out))
      have HE2 := Lib.hid (show (l' ++ [UInt8.ofNat (m % 128 + 128)]) ++ encU (m / 128) = l ++ encU n by rw [← hE.out, encU_ge (n := m) (by omega)]; simp)
      clear hgr hat
      go_roundw
      case rel => exact ⟨m / 128, l' ++ [UInt8.ofNat (m % 128 + 128)], by omega, by rw [Int.natCast_ediv]; rfl, hown', HE2, hB2, hG2⟩
      case measure => simp [intOf]; omega
    · have HN := Lib.hid (Bs.lit1 wr 5 (.int .u8 (m : Int)) (UInt8.ofNat m) (oct1 (by omega) _ (by omega)))
      have HO2 := Lib.hid (hO.out.alloc (.cells #[.int .u8 (m : Int)] 5))
      go_wp2_with ((refine wpList_append_b (by rfl) (.tmp 23) (.tmp 26) 22 (by rfl) base 5 Try.underlying22 infoU8 _ l' (by rfl) HO2.out (wr.heap.size + 1) (some ⟨wr.heap.size, 0, none⟩) 1 1 [UInt8.ofNat m] (by rfl) HN.out (by have := hll.out; omega) (by simp; omega) ?_; intro v' w' hown' hgr hat))
      have hB2 : Below base w w' := (hB.alloc (by omega) _).grown hgr (by simp; omega) (fun g e => hO.out.base_le g e)
      have hG2 := Lib.hid ((hG.out.alloc _).trans (Kp.step hgr HO2.out))
      clear hgr hat
      go_ret
      refine ⟨⟨_, rfl, ?_⟩, hB2, hG2.out⟩
      have e : l ++ encU n = l' ++ [UInt8.ofNat m] := by rw [← hE.out, encU_lt (n := m) (by omega)]
      show OwnB _ _ _ _ (l ++ encU n)
      rw [e]
      exact hown'
set_option maxRecDepth 100000 in
set_option maxHeartbeats 1600000 in
theorem addT_gr (vb : Value) (l : List UInt8) (s : ByteArray) (w : World) (base : Nat) (hbase : base ≤ w.heap.size) (hl : l.length ≤ 70368744177664) (hs : s.size ≤ 65536) (hown : OwnB w base 5 vb l) :
    Calls Try.prog 63 #[vb, .string s] w fun e w' => (∃ v, e = .returned v ∧ OwnB w' base 5 v (addT l s)) ∧ Below base w w' ∧ Kp w w' := by
  have HO := Lib.hid hown; clear hown
  have HP := Lib.hid (show addT l s = l ++ encU s.size ++ chs s from if_pos hs)
  have d : decide ((65536 : Int) < (s.size : Int)) = false := decide_eq_false (by omega)
  have hel := Lib.hid (encU_length_le 8 s.size (pow_le _ (by omega)))
  obtain ⟨i0, hi, hz0, hz1, hz2⟩ := info_parts infoU8
  go_enter Try.func63, Try.ntmps63
  go_wp2_with fail
  refine (addU_gr vb l (s.size : Int) w base hbase hl ⟨by omega, by omega⟩ HO.out).mono ?_
  rintro e w1 ⟨⟨v1, rfl, hown1⟩, hb1, hg1⟩
  have H1 : Hid (w1.ownsRow base 5 1 v1 (l ++ encU s.size).length ((l ++ encU s.size).map b8)) := Lib.hid hown1
  have HG1 := Lib.hid hg1
  have hsz := hb1.size
  clear hown1 hg1
  go_wp2_with ((refine Lib.wpList_append_own_string w1 (by rfl) (.tmp 12) (.tmp 13) 22 9 (by rfl) base 5 i0 Try.underlying22 Try.underlying9 hi hz0 hz1 hz2 _ _ _ (by rfl) H1.out s (by rfl) (by rw [List.length_append]; have := hel.out; unfold maxLen; omega) (by rw [List.length_append]; have := hel.out; omega) (by omega) ?_; intro v2 w2 hown2 hgr2 hat))
  have HB2 := hb1.grown hgr2 (by omega) (fun g e => (World.ownsRow.lt H1.out g e).1)
  have HG2 := Lib.hid (HG1.out.trans (Kp.step hgr2 (show OwnB w1 base 5 v1 (l ++ encU s.size) from H1.out)))
  clear hgr2 hat
  go_ret
  refine ⟨⟨_, rfl, ?_⟩, HB2, HG2.out⟩
  rw [HP.out]
  unfold OwnB
  rw [List.length_append, chs_len, List.map_append]
  exact hown2
section
variable {P : Program} {QQ : Exit → Act → World → Prop}
def mid2B (ops : Array Oper) (is : List Nat) (i0 i1 : Nat) (ks : List Nat) : Bool :=
  Region.noSelect ops && takesB .any ops is (Array.replicate ops.size false) && (Region.ready .any ops (afterB is (Array.replicate ops.size false)) == [i0]) &&
    (Region.ready .any ops ((afterB is (Array.replicate ops.size false)).setIfInBounds i0 true) == [i1]) &&
    takesB .any ops ks (((afterB is (Array.replicate ops.size false)).setIfInBounds i0 true).setIfInBounds i1 true) && (Region.ready .any ops (afterB ks (((afterB is (Array.replicate ops.size false)).setIfInBounds i0 true).setIfInBounds i1 true)) == []) && (ks.length + 1 + 1 + is.length == ops.size)
/-- TWO OPERATIONS IN THE MIDDLE, one behind the other. -/
theorem wp_region_mid2 {id : Nat} {a : Act} {w : World} {l : List Oper} (C : World → Prop) (hC : C w.drew) (is : List Nat) (i0 i1 : Nat) (ks : List Nat) (o0 o1 : Oper) (ho0 : l.toArray[i0]? = some o0) (ho1 : l.toArray[i1]? = some o1) (hm : P.follows .mixedOrders = true) (hB : mid2B l.toArray is i0 i1 ks = true)
    (hQ : ∀ c a d v w, QQ (.panic c) (Act.put a d v) w → QQ (.panic c) a w)
    (h : TK P l.toArray C (fun a1 => ∀ K : Act → World → Prop, (∀ a2 w2, C w2 → (∀ K2 : Act → World → Prop, (∀ a3 w3, C w3 → TK P l.toArray (fun w' => w' = w3) (fun a4 => QQ .normal a4 w3) ks a3 → K2 a3 w3) →
        if Region.wanted o1 (yielded l.toArray a2.tmps) = true then Oper.wp P o1 a2 w2 K2 QQ else K2 (a2.put o1.dst undef) w2) → K a2 w2) →
      if Region.wanted o0 (yielded l.toArray a1.tmps) = true then Oper.wp P o0 a1 w.drew K QQ else K (a1.put o0.dst undef) w.drew) is a) :
    (Code.region id l.toArray true).wp P QQ a w := by
  simp only [mid2B, Bool.and_eq_true, beq_iff_eq] at hB
  obtain ⟨⟨⟨⟨⟨⟨hs, h1⟩, h2⟩, h2'⟩, h3⟩, h4⟩, h5⟩ := hB
  refine wp_region_held (S := C) hm ?_
  generalize Array.replicate l.toArray.size false = L at h1 h2 h2' h3 h4 ⊢
  rw [← h5]
  refine takes (Q := _) hs hQ hC is _ a h1 h.out ?_
  intro a1 ha1
  refine wpAnyH_all h2 (by simp) fun i hi => ?_
  obtain rfl : i = i0 := by simpa using hi
  refine wpOp_step ho0 (fun K' hK' => ?_)
  refine ha1 K' fun a2 w2 hb2 hnext => hK' a2 w2 ⟨hb2, ?_⟩
  refine wpAnyH_all h2' (by simp) fun j hj => ?_
  obtain rfl : j = i1 := by simpa using hj
  refine wpOp_step ho1 (fun K2 hK2 => ?_)
  refine hnext K2 fun a3 w3 hb3 ht => hK2 a3 w3 ⟨hb3, ?_⟩
  refine wpAnyH_sub (S' := fun w' => w' = w3) (fun w' e => by rw [e]; exact hb3) _ _ _ _ ?_
  have := takes (P := P) (md := .any) (QQ := QQ) (fuel := 0) hs hQ (C := fun w' => w' = w3) (w := w3) rfl ks _ a3 h3 ht.out (fun a' ha' => ⟨h4, ha'⟩)
  simpa using this
end
set_option maxRecDepth 100000 in
set_option maxHeartbeats 1600000 in
theorem addU_clip (A : Option Addr) (n : Nat) (l : List UInt8) (k : Nat) (w : World) (hn : n ≤ 70368744177664) (hk : k < 128) (hA : A = none ∧ n = 0 ∨ 0 < n) (hb : Bs w w.heap.size A n l) :
    Calls Try.prog 61 #[.slice A n n, .int .i64 (k : Int)] w fun e w' => (∃ v, e = .returned v ∧ OwnB w' w.heap.size 5 v (l ++ encU k)) ∧ Below w.heap.size w w' := by
  have hlen := hb.len
  rcases hA with ⟨rfl, rfl⟩ | hn0
  · obtain rfl := List.eq_nil_of_length_eq_zero hlen
    simpa using addU_any (.slice none 0 0) [] (k : Int) w w.heap.size (Nat.le_refl _) (by simp) ⟨by omega, by omega⟩ (OwnB.nil_ _ _ _)
  · obtain ⟨b, off, rfl, hbB, -⟩ := hb.at_ (k := 0) (by omega)
    have HB := Lib.hid hb; clear hb
    have d1 : decide (128 ≤ k) = false := decide_eq_false (by omega)
    have d2 : decide (1152921504606846976 < k) = false := decide_eq_false (by omega)
    have HN := Lib.hid (Bs.lit1 w 5 (.int .u8 (k : Int)) (UInt8.ofNat k) (oct1 (by omega) _ (by omega)))
    have HB2 := Lib.hid (HB.out.alloc' (Nat.le_refl _) (.cells #[.int .u8 (k : Int)] 5))
    go_enter Try.func61, Try.ntmps61
    go_wp2
    go_loopw [0, 1] (fun vo x wr => vo = .slice (some ⟨b, off, none⟩) n n ∧ x = .int .i64 (k : Int) ∧ wr = w) (fun _ _ _ => 0)
    case atStart => exact ⟨rfl, rfl, rfl⟩
    case round =>
      obtain ⟨rfl, rfl, rfl⟩ := hrel
      generalize hvv : (Value.slice (some ⟨b, off, none⟩) n n) = vv
      have hvv2 := Lib.hid hvv; clear hvv
      go_wp2_with ((refine wpList_append_clip1 (by rfl) (.tmp 23) (.tmp 26) 22 (by rfl) 5 Try.underlying22 infoU8 b off n l hvv2.out.symm _ HB2.out _ _ 1 1 [UInt8.ofNat k] (by rfl) HN.out (by omega) (by omega) ?_; intro v' w' hown' hgr))
      have hB2 : Below wr.heap.size wr w' := ((Below.refl wr.heap.size wr).alloc (Nat.le_refl _) _).grown hgr (by simp) (fun g e => by cases e)
      go_ret
      exact ⟨⟨_, rfl, by rw [encU_lt (n := k) hk]; exact OwnB.less hown' (by simp)⟩, hB2⟩
/-- A world that agrees with w on all blocks that are no rows of octets. -/
structure KpW (w : World) where
  now : World
  kp : Kp w now
instance (w : World) : Inhabited (KpW w) := ⟨⟨w, Kp.refl _⟩⟩
/-- Labels as octets. -/
def cat2 (L : Lab) : List UInt8 := L.flatMap fun q => encU q.1.size ++ chs q.1 ++ (encU q.2.size ++ chs q.2)
def labB (L : Lab) : List UInt8 := encU L.length ++ cat2 L
noncomputable def okLab (L : Lab) : Lab := if saneL L = true then L else []
theorem take_snoc2 {L : Lab} {k : Nat} (hk : k < L.length) : L.take (k + 1) = L.take k ++ [(nm L k, vl L k)] := by
  rw [List.take_add_one, List.getElem?_eq_getElem hk, nm_at hk]; rfl
theorem cat2_snoc (L : Lab) (a b : ByteArray) (ha : a.size ≤ 65536) (hb : b.size ≤ 65536) (l : List UInt8) : addT (addT (l ++ cat2 L) a) b = l ++ cat2 (L ++ [(a, b)]) := by
  unfold addT cat2
  rw [if_pos hb, if_pos ha, List.flatMap_append]
  simp
theorem cat2_len (L : Lab) (h : ∀ i, i < L.length → (nm L i).size ≤ 64 ∧ (vl L i).size ≤ 64) : ∀ k, k ≤ L.length → (cat2 (L.take k)).length ≤ 200 * k
  | 0, _ => by simp [cat2]
  | k + 1, hk => by
    have ih := cat2_len L h k (by omega)
    rw [take_snoc2 (by omega)]
    have e : cat2 (L.take k ++ [(nm L k, vl L k)]) = cat2 (L.take k) ++ (encU (nm L k).size ++ chs (nm L k) ++ (encU (vl L k).size ++ chs (vl L k))) := by unfold cat2; rw [List.flatMap_append]; simp
    rw [e]
    obtain ⟨h1, h2⟩ := h k (by omega)
    have e1 := encU_length_le 8 (nm L k).size (pow_le _ (by omega))
    have e2 := encU_length_le 8 (vl L k).size (pow_le _ (by omega))
    simp only [List.length_append, chs_len]
    omega
set_option maxRecDepth 100000 in
set_option maxHeartbeats 6400000 in
theorem putL_any (A : Option Addr) (n cap : Nat) (l : List UInt8) (A2 : Option Addr) (m c2 : Nat) (L : Lab) (w : World) (hn : n ≤ 1099511627776) (hnc : n ≤ cap) (hA : A = none ∧ n = 0 ∧ cap = 0 ∨ 0 < n) (hm : m ≤ 9223372036854775807) (hb : Bs w w.heap.size A n l) (hL : Prs w w.heap.size A2 m L) :
    Calls Try.prog 31 #[.slice A n cap, .slice A2 m c2] w fun e w' => (∃ v, e = .returned v ∧ OwnB w' w.heap.size 5 v (l ++ labB (okLab L))) ∧ Below w.heap.size w w' := by
  have HB := Lib.hid hb; clear hb
  have HLL := Lib.hid hL; clear hL
  have hll := HB.out.len
  have HM := Lib.hid HLL.out.len
  have hclip : ∀ W, Calls Try.prog 62 #[.slice A n cap] W fun e w' => e = .returned (.slice A n n) ∧ w' = W := by
    intro W
    rcases hA with ⟨rfl, rfl, rfl⟩ | h0
    · go_enter Try.func62, Try.ntmps62
      go_wp2
      go_ret
      exact ⟨rfl, rfl⟩
    · obtain ⟨b, off, rfl, -, -⟩ := HB.out.at_ h0
      go_enter Try.func62, Try.ntmps62
      go_wp2
      go_ret
      exact ⟨rfl, rfl⟩
  have HCL := Lib.hid hclip; clear hclip
  have hA' := hA
  go_enter Try.func31, Try.ntmps31
  go_wp2_with fail
  refine (lsane_any A2 m c2 L _ hm HLL.out).mono ?_
  rintro e w1 ⟨rfl, hb1⟩
  go_upto_if 9 with (fail)
  go_cut [1] from 7 (fun s wr => (∃ A3 m3 c3, s = .slice A3 m3 c3 ∧ Hid (Prs wr wr.heap.size A3 m3 (okLab L))) ∧ wr = w1)
  case first =>
    cases hs : saneL L
    · have HE := Lib.hid (show okLab L = [] by unfold okLab; rw [hs]; rfl)
      go_wp2
      go_meet
      case rel => exact ⟨⟨none, 0, 0, rfl, Lib.hid (by rw [HE.out]; exact Prs.nil_ _ _ _)⟩, rfl⟩
    · have HE := Lib.hid (show okLab L = L by unfold okLab; rw [hs]; rfl)
      go_wp2
      go_meet
      case rel => exact ⟨⟨A2, m, c2, rfl, Lib.hid (by rw [HE.out]; exact HLL.out.now hb1)⟩, rfl⟩
  case rest =>
    obtain ⟨⟨A3, m3, c3, rfl, HL3⟩, rfl⟩ := hcut
    have hsm := Lib.hid (show ∀ i, i < (okLab L).length → (nm (okLab L) i).size ≤ 64 ∧ (vl (okLab L) i).size ≤ 64 from fun i hi => by
      unfold okLab at hi ⊢
      cases hs : saneL L
      · rw [hs] at hi; simp at hi
      · rw [hs] at hi
        simp only [if_true] at hi ⊢
        obtain ⟨h1, h2, -⟩ := (saneL_iff.1 hs).2 i hi
        exact ⟨h1.2.1, h2⟩)
    have h16 : m3 ≤ 16 := by
      rw [← HL3.out.len]
      unfold okLab
      cases hs : saneL L
      · simp
      · simp only [if_true]; exact (saneL_iff.1 hs).1
    obtain ⟨M, HMM⟩ : ∃ M, Hid (okLab L = M) := ⟨_, Lib.hid rfl⟩
    have HL3 := Lib.hid (show Prs wc wc.heap.size A3 m3 M by rw [← HMM.out]; exact HL3.out)
    have hsm := Lib.hid (show ∀ i, i < m3 → (nm M i).size ≤ 64 ∧ (vl M i).size ≤ 64 by rw [← HMM.out]; intro i hi; exact hsm.out i (by have := HL3.out.len; rw [← HMM.out] at this; omega))
    have HM3 := Lib.hid HL3.out.len
    go_wp2_with fail
    refine (HCL.out _).mono ?_
    rintro e w2 ⟨rfl, rfl⟩
    go_wp2_with fail
    refine (addU_clip A n l m3 _ (by omega) (by omega) (by rcases hA' with ⟨h1, h2, -⟩ | h; exact .inl ⟨h1, h2⟩; exact .inr h) (HB.out.now hb1)).mono ?_
    rintro e w3 ⟨⟨v0, rfl, hown0⟩, hb2⟩
    have hsz1 := hb1.size
    have hO0 := Lib.hid hown0; clear hown0
    have hB0 : Below w2.heap.size w2 w3 := hb2
    have hme := Lib.hid (encU_length_le 8 m3 (pow_le _ (by omega)))
    have hcl := Lib.hid (cat2_len M (fun i hi => hsm.out i (by rw [← HM3.out]; exact hi)))
    go_wp2
    go_loopw [0, 17] (fun vo x wr => ∃ k : Nat, k ≤ m3 ∧ x = .int .i64 (k : Int) ∧ Hid (OwnB wr w2.heap.size 5 vo (l ++ encU m3 ++ cat2 (M.take k))) ∧ Below w2.heap.size w2 wr) (fun _ x _ => m3 - (intOf x).toNat)
    case atStart => exact ⟨0, by omega, rfl, Lib.hid (by have := hO0.out; simpa [cat2] using this), hB0⟩
    case round =>
      obtain ⟨k, hk, rfl, hO, hB⟩ := hrel
      have hszr := hB.size
      by_cases hlt : k < m3
      · obtain ⟨b, off, rfl, hbB, hc⟩ := HL3.out.q (by omega)
        obtain ⟨s0, HZ0⟩ : ∃ s, Hid (nm M k = s) := ⟨_, Lib.hid rfl⟩
        obtain ⟨s1, HZ1⟩ : ∃ s, Hid (vl M k = s) := ⟨_, Lib.hid rfl⟩
        have hx0 : wr.cell? ⟨b, off + k * 2, none⟩ = some (.string s0) := by rw [← HZ0.out]; exact (hB.cell (p := ⟨b, off + k * 2, none⟩) hbB).trans (hc k hlt).1
        have hx1 : wr.cell? ⟨b, off + k * 2 + 1, none⟩ = some (.string s1) := by rw [← HZ1.out]; exact (hB.cell (p := ⟨b, off + k * 2 + 1, none⟩) hbB).trans (hc k hlt).2
        clear hc
        have hz0 : s0.size ≤ 64 := by rw [← HZ0.out]; exact (hsm.out k hlt).1
        have hz1 : s1.size ≤ 64 := by rw [← HZ1.out]; exact (hsm.out k hlt).2
        have HSN := Lib.hid (show M.take (k + 1) = M.take k ++ [(s0, s1)] by rw [take_snoc2 (by rw [HM3.out]; exact hlt), HZ0.out, HZ1.out])
        have HBk := Lib.hid (Blk.new wr 100 #[.string s0, .string s1])
        have r0 : ∀ p : KpW (wr.alloc (.cells #[.string s0, .string s1] 100)), p.now.cell? ⟨wr.heap.size, 0, none⟩ = some (.string s0) := fun p => (p.kp.blk HBk.out (by decide)).cell 0
        have r1 : ∀ p : KpW (wr.alloc (.cells #[.string s0, .string s1] 100)), p.now.cell? ⟨wr.heap.size, 1, none⟩ = some (.string s1) := fun p => (p.kp.blk HBk.out (by decide)).cell 1
        have hOa := Lib.hid (hO.out.alloc (.cells #[.string s0, .string s1] 100)).drew
        have hlen1 := Lib.hid (show (l ++ encU m3 ++ cat2 (M.take k)).length ≤ 1099511627776 + 9 + 200 * 16 by
          have h1 := hcl.out k (by rw [HM3.out]; exact hk)
          have h2 := hme.out
          simp only [List.length_append]
          omega)
        have hlen2 := Lib.hid (show (addT (l ++ encU m3 ++ cat2 (M.take k)) s0).length ≤ 70368744177664 by
          have h1 := hlen1.out
          have h2 := encU_length_le 8 s0.size (pow_le _ (by omega))
          unfold addT; rw [if_pos (by omega)]
          rw [List.length_append, List.length_append, chs_len]
          omega)
        have HCT := Lib.hid (cat2_snoc (M.take k) s0 s1 (by omega) (by omega) (l ++ encU m3))
        have hBa := hB.alloc hszr (.cells #[.string s0, .string s1] 100)
        go_wp2_with fail
        refine wp_region_mid2 (fun w' => ∃ p : KpW (wr.alloc (.cells #[.string s0, .string s1] 100)), w' = p.now) ⟨⟨_, Kp.drew _⟩, rfl⟩ [0, 1, 2, 4, 5] 3 6 [7] _ _ (by rfl) (by rfl) (by kernel_rfl) (by kernel_rfl) (fun _ _ dd _ _ h => by cases dd <;> exact h) ?_
        repeat (
          refine TK.step (by rfl) (fun KK hKK => ?_)
          go_simp
          refine hKK _ ?_; clear hKK KK)
        refine TK.nil_ ?_
        intro KM hKM
        go_simp
        go_at_call 63
        refine (addT_gr _ _ s0 _ w2.heap.size (by simp; omega) (by have := hlen1.out; omega) (by omega) hOa.out).mono ?_
        rintro e w5 ⟨⟨v5, rfl, hown5⟩, hb5, hk5⟩
        refine hKM _ _ ⟨⟨w5, (Kp.drew _).trans hk5⟩, rfl⟩ ?_
        clear hKM KM
        have hOa5 := Lib.hid hown5; clear hown5
        have hs5 := hb5.size
        intro KM hKM
        go_simp
        go_at_call 63
        refine (addT_gr _ _ s1 _ w2.heap.size (by simp at hs5; omega) hlen2.out (by omega) hOa5.out).mono ?_
        rintro e w6 ⟨⟨v6, rfl, hown6⟩, hb6, hk6⟩
        refine hKM _ _ ⟨⟨w6, ((Kp.drew _).trans hk5).trans hk6⟩, rfl⟩ ?_
        clear hKM KM
        have hOa6 := Lib.hid hown6; clear hown6
        repeat (
          refine TK.step (by rfl) (fun KK hKK => ?_)
          go_simp
          refine hKK _ ?_; clear hKK KK)
        refine TK.nil_ ?_
        have hB6 : Below w2.heap.size w2 w6 := (hBa.drew.trans hb5).trans hb6
        clear hb5 hb6 hk5 hk6
        go_wp2
        go_roundw
        case rel => exact ⟨k + 1, by omega, by go_num, Lib.hid (by rw [HSN.out, ← HCT.out]; exact hOa6.out), hB6⟩
        case measure => simp [intOf]; omega
      · obtain rfl : k = m3 := by omega
        have HF := Lib.hid (show l ++ encU k ++ cat2 (M.take k) = l ++ labB M by rw [List.take_of_length_le (by rw [HM3.out]; omega)]; unfold labB; rw [HM3.out]; simp)
        go_wp2
        go_ret
        exact ⟨⟨_, rfl, by rw [HMM.out, ← HF.out]; exact OwnB.less hO.out hsz1⟩, hb1.trans (hB.mono hsz1)⟩
end Go.Proofs.Ytkkbncgnobaliaa
