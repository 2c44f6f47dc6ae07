/-
  The law CodecOnly.
-/
import Derived.Test.YtkkbncgnobaliaaCodL4
import Derived.Test.YtkkbncgnobaliaaMid3
namespace Go.Proofs.Ytkkbncgnobaliaa
open Go.RowKit
open CodP
set_option linter.unusedVariables false
theorem getT_errU {l : List UInt8} {c : Nat} (h : getU l = .error c) : getT l = .error c := by unfold getT; rw [h]
theorem getL_errU {l : List UInt8} {c : Nat} (h : getU l = .error c) : getL l = .error c := by unfold getL; rw [h]
theorem add_back (X R l : List UInt8) (h : l = X ++ R) (hl : l.length ≤ 1000) : ∀ W, (Op.stringOp .add (⟨X.toArray⟩ : ByteArray) ⟨R.toArray⟩).run Try.prog W = .ok (.string ⟨l.toArray⟩) W := fun W => by
  rw [run_string_add_sum, cat_str, ← h]
  have h1 := congrArg List.length h
  rw [List.length_append] at h1
  show X.toArray.size + R.toArray.size ≤ _
  simp; omega
set_option maxRecDepth 100000 in
set_option maxHeartbeats 12800000 in
theorem codecOnly_err (c : Nat) (w : World) (A : Option Addr) (n cap : Nat) (l : List UInt8) (hb : Bs w w.heap.size A n l) (hcap : n ≤ cap) (hm : cap ≤ 9223372036854775807) (hu : getU l = .error c) :
    Calls Try.prog 8 #[.slice A n cap] w fun e w' => e = .returned (.bool true) ∧ Below w.heap.size w w' := by
  have HU := Lib.hid hu; clear hu
  have HB := Lib.hid hb; clear hb
  have hHl := Lib.hid HB.out.len
  have hn63 : n ≤ 9223372036854775807 := by omega
  go_enter Try.func8, Try.ntmps8
  go_wp2_with fail
  refine (cawake_any _).mono ?_
  rintro e w1 ⟨rfl, hb1⟩
  by_cases hn : 1000 < n
  · go_wp2
    go_ret
    exact ⟨rfl, hb1⟩
  have dn : decide (1000 < n) = false := decide_eq_false hn
  go_wp2_with fail
  refine (getU_at _ A n cap l _ (Nat.le_refl _) hn63 hcap hm (HB.out.now hb1)).mono ?_
  rintro e w2 ⟨hg2, hb2⟩
  have hB2 := hb1.trans (hb2.mono hb1.size)
  have hu := HU.out
  rw [hu] at hg2
  obtain rfl := hg2
  have hc : ((c : Int) == 0) = false := beq_false_of_ne (by have := getU_err hu; omega)
  have hc2 : ((c : Int) != 0) = true := bne_iff_ne.2 (by have := getU_err hu; omega)
  have hI : getI l = .error c := by unfold getI; rw [hu]
  have hT := getT_errU hu
  have hL := getL_errU hu
  clear hu hb2
  go_wp2_with fail
  refine (getI_at _ A n cap l _ (Nat.le_refl _) hn63 hcap hm (HB.out.now hB2)).mono ?_
  rintro e w3 ⟨hg3, hb3⟩
  rw [hI] at hg3
  obtain rfl := hg3
  have hB3 := hB2.trans (hb3.mono hB2.size)
  clear hb3 hI
  go_wp2_with fail
  refine (getT_at _ A n cap l _ (Nat.le_refl _) hn63 hcap hm (HB.out.now hB3)).mono ?_
  rintro e w4 ⟨hg4, hb4⟩
  rw [hT] at hg4
  obtain rfl := hg4
  have hB4 := hB3.trans (hb4.mono hB3.size)
  clear hb4 hT
  go_wp2_with fail
  refine (getL_at _ A n cap l _ (Nat.le_refl _) hn63 hcap hm (HB.out.now hB4)).mono ?_
  rintro e w5 ⟨hg5, hb5⟩
  rw [hL] at hg5
  obtain ⟨rfl, -⟩ := hg5
  have hB5 := hB4.trans (hb5.mono hB4.size)
  clear hb5 hL
  go_wp2_with fail
  refine wp_region_bel (by kernel_rfl) (by kernel_rfl) ?_
  repeat (
    refine WQ.step (fun KK hKK => ?_)
    go_simp
    refine hKK _ ?_; clear hKK KK)
  refine WQ.nil_ ?_
  rintro wq1 ⟨⟨wq, hq⟩, hwq⟩
  obtain rfl : wq = wq1 := hwq.symm
  clear hwq
  have hB6 := hB5.trans (hq.mono hB5.size)
  clear hq
  generalize wq = w6 at hB6 ⊢
  go_wp2_with fail
  refine wp_region_bel (by kernel_rfl) (by kernel_rfl) ?_
  repeat (
    refine WQ.step (fun KK hKK => ?_)
    go_simp
    refine hKK _ ?_; clear hKK KK)
  refine WQ.nil_ ?_
  rintro wq1 ⟨⟨wq, hq⟩, hwq⟩
  obtain rfl : wq = wq1 := hwq.symm
  clear hwq
  have hB7 := hB6.trans (hq.mono hB6.size)
  clear hq
  generalize wq = w7 at hB7 ⊢
  go_wp2_with fail
  refine wp_region_bel (by kernel_rfl) (by kernel_rfl) ?_
  repeat (
    refine WQ.step (fun KK hKK => ?_)
    go_simp
    refine hKK _ ?_; clear hKK KK)
  refine WQ.nil_ ?_
  rintro wq1 ⟨⟨wq, hq⟩, hwq⟩
  obtain rfl : wq = wq1 := hwq.symm
  clear hwq
  have hB8 := hB7.trans (hq.mono hB7.size)
  clear hq
  go_wp2
  go_ret
  exact ⟨rfl, hB8⟩
end Go.Proofs.Ytkkbncgnobaliaa
