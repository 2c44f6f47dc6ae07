/-
  codec: the plain law: what is put is got; labels.
-/
import Derived.Test.YtkkbncgnobaliaaGr
import Derived.Test.YtkkbncgnobaliaaDskP
namespace Go.Proofs.Ytkkbncgnobaliaa
open Go.RowKit
open CodP
set_option linter.unusedVariables false
theorem getT_put (s : ByteArray) (t : List UInt8) (hs : s.size ≤ 65536) : getT (encU s.size ++ chs s ++ t) = .ok (chs s, t) := by
  unfold getT
  rw [List.append_assoc, getU_encU _ _ (by omega)]
  simp only
  rw [if_neg (by omega), if_neg (by rw [List.length_append, chs_len]; omega)]
  rw [← chs_len s, List.take_left, List.drop_left]
theorem loopL_cat : ∀ (M : Lab) (t : List UInt8) (ps : Lab), (∀ q ∈ M, q.1.size ≤ 65536 ∧ q.2.size ≤ 65536) → loopL M.length (cat2 M ++ t) ps = .ok (ps ++ M, t)
  | [], t, ps, _ => by simp [loopL, cat2]
  | q :: M, t, ps, h => by
    obtain ⟨a, b⟩ := q
    obtain ⟨h1, h2⟩ := h (a, b) (by simp)
    have e : cat2 ((a, b) :: M) ++ t = encU a.size ++ chs a ++ (encU b.size ++ chs b ++ (cat2 M ++ t)) := by unfold cat2; simp
    rw [e, List.length_cons, loopL, getT_put a _ h1]
    simp only
    rw [getT_put b _ h2]
    simp only
    rw [mk_chs, mk_chs, loopL_cat M t _ (fun q hq => h q (by simp [hq]))]
    simp
theorem sane_small {L : Lab} (h : IsSane L) : ∀ q ∈ L, q.1.size ≤ 64 ∧ q.2.size ≤ 64 := by
  intro q hq
  obtain ⟨i, hi, rfl⟩ := List.getElem_of_mem hq
  have := h.2 i hi
  have e := nm_at hi
  rw [← e]
  exact ⟨this.1.2.1, this.2.1⟩
theorem getL_put (L : Lab) (t : List UInt8) (h : saneL L = true) : getL (labB L ++ t) = .ok (L, t) := by
  have hs := saneL_iff.1 h
  unfold getL labB
  rw [List.append_assoc, getU_encU _ _ (by have := hs.1; omega)]
  simp only
  rw [if_neg (by have := hs.1; omega), loopL_cat L t [] (fun q hq => by have := sane_small hs q hq; omega)]
  simp only [List.nil_append]
  rw [if_pos h]
theorem nil_sane : saneL [] = true := saneL_iff.2 ⟨by simp, fun i hi => absurd hi (by simp)⟩
theorem okLab_sane (L : Lab) : saneL (okLab L) = true := by
  unfold okLab
  cases h : saneL L
  · exact nil_sane
  · exact h
theorem one_sane : saneL [(⟨#[97]⟩, ⟨#[49]⟩)] = true := saneL_iff.2 ⟨by simp, fun i hi => by
  obtain rfl : i = 0 := by simp at hi; omega
  refine ⟨⟨by decide, by decide, fun j hj => ?_⟩, by decide, fun h => absurd h (by omega)⟩
  obtain rfl : j = 0 := by have : j < 1 := hj; omega
  left; decide⟩
/-- What is got, was put. -/
theorem getU_was {l : List UInt8} {n : Nat} {r : List UInt8} (h : getU l = .ok (n, r)) : l = encU n ++ r := (getU_ok h).1
theorem getT_was {l a r : List UInt8} (h : getT l = .ok (a, r)) : l = encU a.length ++ a ++ r ∧ a.length ≤ 65536 := by
  refine ⟨?_, getT_small h⟩
  unfold getT at h
  cases hu : getU l with
  | error c' => rw [hu] at h; cases h
  | ok q =>
    rw [hu] at h
    obtain ⟨n, r'⟩ := q
    simp only at h
    by_cases h1 : 65536 < n
    · rw [if_pos h1] at h; cases h
    · rw [if_neg h1] at h
      by_cases h2 : r'.length < n
      · rw [if_pos h2] at h; cases h
      · rw [if_neg h2] at h
        simp at h
        obtain ⟨rfl, rfl⟩ := h
        have hl : (r'.take n).length = n := by rw [List.length_take]; omega
        rw [hl, List.append_assoc, List.take_append_drop]
        exact getU_was hu
theorem loopL_was : ∀ (k : Nat) (l : List UInt8) (ps : Lab) (qs : Lab) (r : List UInt8), loopL k l ps = .ok (qs, r) → ∃ M : Lab, qs = ps ++ M ∧ M.length = k ∧ l = cat2 M ++ r
  | 0, l, ps, qs, r, h => by simp [loopL] at h; obtain ⟨rfl, rfl⟩ := h; exact ⟨[], by simp, rfl, by simp [cat2]⟩
  | k + 1, l, ps, qs, r, h => by
    rw [loopL] at h
    cases ha : getT l with
    | error c => rw [ha] at h; cases h
    | ok q =>
      obtain ⟨a, r1⟩ := q
      rw [ha] at h
      simp only at h
      cases hb : getT r1 with
      | error c => rw [hb] at h; cases h
      | ok q2 =>
        obtain ⟨b, r2⟩ := q2
        rw [hb] at h
        simp only at h
        obtain ⟨M, h1, h2, h3⟩ := loopL_was k r2 _ qs r h
        obtain ⟨e1, -⟩ := getT_was ha
        obtain ⟨e2, -⟩ := getT_was hb
        refine ⟨(⟨a.toArray⟩, ⟨b.toArray⟩) :: M, by rw [h1]; simp, by simp [h2], ?_⟩
        rw [e1, e2, h3]
        have s1 : (⟨a.toArray⟩ : ByteArray).size = a.length := List.size_toArray
        have s2 : (⟨b.toArray⟩ : ByteArray).size = b.length := List.size_toArray
        unfold cat2
        simp [s1, s2, chs_mk]
theorem getL_was {l : List UInt8} {L : Lab} {r : List UInt8} (h : getL l = .ok (L, r)) : saneL L = true ∧ l = labB L ++ r := by
  unfold getL at h
  cases hu : getU l with
  | error c => rw [hu] at h; cases h
  | ok q =>
    obtain ⟨n, r0⟩ := q
    rw [hu] at h
    simp only at h
    by_cases h1 : 16 < n
    · rw [if_pos h1] at h; cases h
    · rw [if_neg h1] at h
      cases hl : loopL n r0 [] with
      | error c => rw [hl] at h; cases h
      | ok q2 =>
        obtain ⟨ps, r2⟩ := q2
        rw [hl] at h
        simp only at h
        cases hs : saneL ps
        · rw [hs] at h; simp at h
        · rw [hs] at h
          simp at h
          obtain ⟨rfl, rfl⟩ := h
          obtain ⟨M, e1, e2, e3⟩ := loopL_was _ _ _ _ _ hl
          simp at e1
          subst e1
          refine ⟨hs, ?_⟩
          rw [getU_was hu, e3]
          unfold labB
          rw [e2]; simp
/-- Cut short: short. -/
theorem getT_cut (s : ByteArray) (hs : s.size ≤ 65536) (k : Nat) (hk : k < (encU s.size ++ chs s).length) : getT ((encU s.size ++ chs s).take k) = .error 3 := by
  unfold getT
  by_cases h : k < (encU s.size).length
  · rw [List.take_append_of_le_length (by omega), getU_short (by omega) h]
  · have e : (encU s.size ++ chs s).take k = encU s.size ++ (chs s).take (k - (encU s.size).length) := by rw [List.take_append]; rw [List.take_of_length_le (by omega)]
    rw [e, getU_encU _ _ (by omega)]
    simp only
    rw [if_neg (by omega), if_pos (by rw [List.length_take, chs_len]; rw [List.length_append, chs_len] at hk; omega)]
theorem loopL_cut : ∀ (M : Lab) (ps : Lab), (∀ q ∈ M, q.1.size ≤ 65536 ∧ q.2.size ≤ 65536) → ∀ k, k < (cat2 M).length → loopL M.length ((cat2 M).take k) ps = .error 3
  | [], ps, _, k, hk => by simp [cat2] at hk
  | q :: M, ps, h, k, hk => by
    obtain ⟨a, b⟩ := q
    obtain ⟨h1, h2⟩ := h (a, b) (by simp)
    have e : cat2 ((a, b) :: M) = (encU a.size ++ chs a) ++ ((encU b.size ++ chs b) ++ cat2 M) := by unfold cat2; simp
    rw [e] at hk ⊢
    rw [List.length_cons, loopL]
    by_cases ha : k < (encU a.size ++ chs a).length
    · rw [List.take_append_of_le_length (by omega), getT_cut a h1 k ha]
    · have e1 : ((encU a.size ++ chs a) ++ ((encU b.size ++ chs b) ++ cat2 M)).take k = (encU a.size ++ chs a) ++ ((encU b.size ++ chs b) ++ cat2 M).take (k - (encU a.size ++ chs a).length) := by rw [List.take_append]; rw [List.take_of_length_le (by omega)]
      rw [e1, getT_put a _ h1]
      simp only
      generalize hj : k - (encU a.size ++ chs a).length = j
      by_cases hb : j < (encU b.size ++ chs b).length
      · rw [List.take_append_of_le_length (by omega), getT_cut b h2 j hb]
      · have e2 : ((encU b.size ++ chs b) ++ cat2 M).take j = (encU b.size ++ chs b) ++ (cat2 M).take (j - (encU b.size ++ chs b).length) := by rw [List.take_append]; rw [List.take_of_length_le (by omega)]
        rw [e2, getT_put b _ h2]
        simp only
        exact loopL_cut M _ (fun q hq => h q (by simp [hq])) _ (by simp only [List.length_append] at hk hj hb ha ⊢; omega)
theorem getL_cut (L : Lab) (h : saneL L = true) (k : Nat) (hk : k < (labB L).length) : getL ((labB L).take k) = .error 3 := by
  have hs := saneL_iff.1 h
  unfold getL
  unfold labB at hk ⊢
  by_cases h1 : k < (encU L.length).length
  · rw [List.take_append_of_le_length (by omega), getU_short (by have := hs.1; omega) h1]
  · have e : (encU L.length ++ cat2 L).take k = encU L.length ++ (cat2 L).take (k - (encU L.length).length) := by rw [List.take_append]; rw [List.take_of_length_le (by omega)]
    rw [e, getU_encU _ _ (by have := hs.1; omega)]
    simp only
    rw [if_neg (by have := hs.1; omega), loopL_cut L [] (fun q hq => by have := sane_small hs q hq; omega) _ (by rw [List.length_append] at hk; omega)]
end Go.Proofs.Ytkkbncgnobaliaa
