/-
  labels: a name.
-/
import Derived.Test.YtkkbncgnobaliaaCodT
import Derived.Test.YtkkbncgnobaliaaOwn
import Derived.Laws.StructEq
namespace Go.Proofs.Ytkkbncgnobaliaa
open Go.RowKit
open CodP
set_option linter.unusedVariables false
theorem rbL {a b : Bool} (h : a = b) : Ending.returned (.bool a) = .returned (.bool b) := by rw [h]
/-- An octet that may stand in a name. -/
def okc (first : Bool) (c : Nat) : Prop := (97 ≤ c ∧ c ≤ 122) ∨ (65 ≤ c ∧ c ≤ 90) ∨ c = 95 ∨ (48 ≤ c ∧ c ≤ 57 ∧ first = false)
def oct (s : ByteArray) (i : Nat) : Nat := if h : i < s.size then (s[i]'h).toNat else 0
def IsName (s : ByteArray) : Prop := 1 ≤ s.size ∧ s.size ≤ 64 ∧ ∀ i, i < s.size → okc (decide (i = 0)) (oct s i)
open Classical in
noncomputable def nameB (s : ByteArray) : Bool := decide (IsName s)
theorem nameB_iff {s : ByteArray} : nameB s = true ↔ IsName s := by unfold nameB; simp
theorem nameB_no {s : ByteArray} : nameB s = false ↔ ¬ IsName s := by unfold nameB; simp
theorem okc_succ {s : ByteArray} {k : Nat} (h : ∀ j, j < k → okc (decide (j = 0)) (oct s j)) (hk : okc (decide (k = 0)) (oct s k)) : ∀ j, j < k + 1 → okc (decide (j = 0)) (oct s j) := fun j hj => by
  rcases Nat.lt_or_ge j k with h' | h'
  · exact h j h'
  · obtain rfl : j = k := by omega
    exact hk
set_option maxRecDepth 100000 in
set_option maxHeartbeats 1600000 in
theorem name_any (s : ByteArray) (w : World) (hs : s.size ≤ 9223372036854775807) :
    Calls Try.prog 60 #[.string s] w fun e w' => e = .returned (.bool (nameB s)) ∧ w' = w := by
  by_cases h0 : s.size < 1
  · have HN := Lib.hid (show nameB s = false from nameB_no.2 fun h => by have := h.1; omega)
    go_enter Try.func60, Try.ntmps60
    go_wp2
    go_ret
    exact ⟨rbL HN.out.symm, rfl⟩
  have d0 : decide (s.size < 1) = false := decide_eq_false h0
  by_cases h1 : 64 < s.size
  · have HN := Lib.hid (show nameB s = false from nameB_no.2 fun h => by have := h.2.1; omega)
    go_enter Try.func60, Try.ntmps60
    go_wp2
    go_ret
    exact ⟨rbL HN.out.symm, rfl⟩
  have d1 : decide (64 < s.size) = false := decide_eq_false h1
  go_enter Try.func60, Try.ntmps60
  go_wp2
  go_loopw [3] (fun i wr => ∃ k : Nat, k ≤ s.size ∧ i = .int .i64 k ∧ Hid (∀ j, j < k → okc (decide (j = 0)) (oct s j)) ∧ wr = w) (fun i _ => s.size - (intOf i).toNat)
  case atStart => exact ⟨0, by omega, rfl, Lib.hid (fun j hj => absurd hj (Nat.not_lt_zero _)), rfl⟩
  case round =>
    obtain ⟨k, hk, rfl, hall, rfl⟩ := hrel
    by_cases hlt : k < s.size
    · obtain ⟨c, hc⟩ : ∃ c, oct s k = c := ⟨_, rfl⟩
      have hc2 : (s[k]'hlt).toNat = c := by rw [← hc]; unfold oct; rw [dif_pos hlt]
      have HC := Lib.hid hc; clear hc
      go_wp2
      all_goals try simp only [Bool.not_eq_true', Bool.not_eq_false', decide_eq_true_eq, decide_eq_false_iff_not, beq_iff_eq, beq_eq_false_iff_ne, ne_eq] at *
      all_goals first
        | (have hck : okc (decide (k = 0)) c := by simp only [okc, decide_eq_false_iff_not]; omega
           refine ⟨⟨k + 1, by omega, by go_num, Lib.hid (okc_succ hall.out (by rw [HC.out]; exact hck)), trivial⟩, by simp [intOf]; omega⟩)
        | (have HN := Lib.hid (show nameB s = false from nameB_no.2 fun h => by
             have h2 := h.2.2 k hlt
             rw [HC.out] at h2
             simp only [okc, decide_eq_false_iff_not] at h2
             omega)
           go_ret
           exact ⟨rbL HN.out.symm, rfl⟩)
        | (exfalso; omega)
    · obtain rfl : k = s.size := by omega
      have HN := Lib.hid (show nameB s = true from nameB_iff.2 ⟨by omega, by omega, hall.out⟩)
      go_wp2
      go_ret
      exact ⟨rbL HN.out.symm, rfl⟩
end Go.Proofs.Ytkkbncgnobaliaa
