/-
  queues: the plain law: what may be stays so.
-/
import Derived.Test.YtkkbncgnobaliaaQueG
namespace Go.Proofs.Ytkkbncgnobaliaa
open Go.RowKit
open CodP
set_option linter.unusedVariables false
theorem okNs_iff {ns : List Nt} : okNs ns.length ns ↔ ∀ y ∈ ns, okN y := ⟨fun h y hy => by obtain ⟨i, hi, rfl⟩ := mem_nt hy; exact h i hi, fun h i hi => h _ (nt_mem hi)⟩
theorem near_time (t : Int) : timeB (near t) = true := timeB_iff.2 (near_b t)
theorem near_id {t : Int} (h : timeB t = true) : near t = t := by have := timeB_iff.1 h; unfold near; omega
theorem ok_new (A : Option Addr) (n c : Nat) {L : Lab} (f : Bool) (t : Int) (h : saneL L = true) : okN ⟨A, n, c, L, f, near t, 0, near t⟩ := ⟨h, near_time t, near_time t, by simp, by simp⟩
theorem push_sane {ns : List Nt} {d l : Int} {L : Lab} {y : Nt} (h : IsQ ns d l) (hy : saneL L = true → okN y) : IsQ (psNs ns L y) (psD ns L d) l := by
  obtain ⟨h1, h2, h3, h4⟩ := h
  have h4 := okNs_iff.1 h4
  unfold psNs psD
  refine ⟨?_, ?_, h3, okNs_iff.2 ?_⟩
  · split
    · simp; omega
    · exact h1
  · split
    · have := timeB_iff.1 h2; exact timeB_iff.2 (by omega)
    · exact h2
  · split
    · intro z hz
      rcases List.mem_append.1 hz with hz | hz
      · exact h4 z hz
      · simp at hz; subst hz; exact hy (by simp_all)
    · exact h4
theorem bc_ok {y : Nt} (h : okN y) (ok : Bool) (now : Int) : ∀ z ∈ bcN y ok now, okN z := by
  intro z hz
  unfold bcN at hz
  split at hz
  · simp at hz
  · split at hz
    · simp at hz
    · simp at hz
      subst hz
      obtain ⟨h1, h2, h3, h4, h5⟩ := h
      exact ⟨h1, h2, near_time _, by simp; omega, by simp; omega⟩
theorem bc_len (y : Nt) (ok : Bool) (now : Int) : (bcN y ok now).length ≤ 1 := by unfold bcN; split; simp; split <;> simp
theorem rdB_pos {ns : List Nt} {t : Int} (h : rdB ns t = true) : 0 < ns.length := by unfold rdB at h; simp at h; exact h.1
theorem sent_sane {ns : List Nt} {d l : Int} (h : IsQ ns d l) (ok : Bool) (t : Int) : IsQ (snNs ns ok t) d (snL ns ok t l) := by
  obtain ⟨h1, h2, h3, h4⟩ := h
  have h4' := okNs_iff.1 h4
  unfold snNs snL
  cases hr : rdB ns t
  · exact ⟨h1, h2, h3, h4⟩
  · have hp := rdB_pos hr
    simp only [if_true]
    refine ⟨?_, h2, ?_, okNs_iff.2 ?_⟩
    · have := bc_len (nt ns 0) ok (near t); simp; omega
    · have := timeB_iff.1 h3
      unfold bcL
      split
      · exact h3
      · split
        · exact timeB_iff.2 (by omega)
        · exact h3
    · intro z hz
      rcases List.mem_append.1 hz with hz | hz
      · exact bc_ok (h4 0 hp) _ _ z hz
      · exact h4' z (List.mem_of_mem_drop hz)
/-- What is put is got. -/
theorem get_put (L : Lab) (f : Bool) (t : Nat) (h : saneL L = true) (ht : timeB (t : Int) = true) : getN (putN L f (t : Int)) = .ok (L, f, t) := by
  have hb := bod_len L f (t : Int) h ht
  have e : putN L f (t : Int) = recd (bodN L f (t : Int)) ++ [] := by
    unfold putN; rw [if_pos ⟨h, ht⟩]; unfold putF; rw [if_pos (by omega)]; simp
  have ht2 := timeB_iff.1 ht
  unfold getN
  rw [e, getF_recd _ _ (by omega)]
  simp only [List.length_nil, Nat.lt_irrefl, if_false]
  have e2 : bodN L f (t : Int) = labB L ++ (encU (if f then 1 else 0) ++ encU t) := by unfold bodN; simp
  rw [e2, getL_put L _ h]
  simp only
  rw [getU_encU _ _ (by split <;> omega)]
  simp only
  rw [if_neg (by split <;> omega)]
  have := getU_encU t [] (by omega)
  rw [List.append_nil] at this
  rw [this]
  simp only [List.length_nil]
  rw [if_pos ⟨ht, trivial⟩]
  cases f <;> rfl
/-- What is got was put. -/
theorem get_was {b : List UInt8} {L : Lab} {f : Bool} {t : Nat} (h : getN b = .ok (L, f, t)) : saneL L = true ∧ timeB (t : Int) = true ∧ b = putN L f (t : Int) := by
  unfold getN at h
  cases hF : getF b with
  | error c => rw [hF] at h; cases h
  | ok q =>
  obtain ⟨p, r⟩ := q
  rw [hF] at h
  simp only at h
  split at h
  · cases h
  rename_i hr
  cases hL : getL p with
  | error c => rw [hL] at h; cases h
  | ok q =>
  obtain ⟨L', s⟩ := q
  rw [hL] at h
  simp only at h
  cases hU : getU s with
  | error c => rw [hU] at h; cases h
  | ok q =>
  obtain ⟨k, s2⟩ := q
  rw [hU] at h
  simp only at h
  split at h
  · cases h
  rename_i hk
  cases hU2 : getU s2 with
  | error c => rw [hU2] at h; cases h
  | ok q =>
  obtain ⟨a, u⟩ := q
  rw [hU2] at h
  simp only at h
  split at h
  case isFalse => cases h
  rename_i ht
  injection h with h
  injection h with h1 h
  injection h with h2 h3
  subst h1 h3
  obtain ⟨e1, e2⟩ := getF_ok hF
  obtain ⟨e3, e4⟩ := getL_was hL
  have e5 := getU_was hU
  have e6 := getU_was hU2
  have hu : u = [] := List.eq_nil_of_length_eq_zero ht.2
  have hr0 : r = [] := List.eq_nil_of_length_eq_zero (by omega)
  subst hu hr0
  refine ⟨e3, ht.1, ?_⟩
  have hbod : p = bodN L' f (a : Int) := by
    rw [e4, e5, e6]
    unfold bodN
    have : (if f then 1 else 0) = k := by subst h2; have : k = 0 ∨ k = 1 := by omega
                                          rcases this with rfl | rfl <;> simp
    rw [this]; simp
  unfold putN
  rw [if_pos ⟨e3, ht.1⟩, ← hbod]
  unfold putF
  rw [if_pos e2, e1]; simp
/-- Cut short it is too little. -/
theorem get_cut (L : Lab) (f : Bool) (t : Nat) (h : saneL L = true) (ht : timeB (t : Int) = true) (k : Nat) (hk : k < (putN L f (t : Int)).length) : getN ((putN L f (t : Int)).take k) = .error 3 := by
  have hb := bod_len L f (t : Int) h ht
  have e : putN L f (t : Int) = recd (bodN L f (t : Int)) ++ [] := by
    unfold putN; rw [if_pos ⟨h, ht⟩]; unfold putF; rw [if_pos (by omega)]; simp
  have e0 : (putN L f (t : Int)).length = (recd (bodN L f (t : Int))).length := by rw [e]; simp
  unfold getN
  rw [e, getF_take (by omega), if_neg (by omega)]
theorem putN_pos (L : Lab) (f : Bool) (t : Nat) (h : saneL L = true) (ht : timeB (t : Int) = true) : 0 < (putN L f (t : Int)).length ∧ (putN L f (t : Int)).length ≤ 4010 := by
  have hb := bod_len L f (t : Int) h ht
  unfold putN; rw [if_pos ⟨h, ht⟩]; unfold putF; rw [if_pos (by omega), List.nil_append]
  exact ⟨recd_pos _, by have := recd_le (p := bodN L f (t : Int)) (by omega); omega⟩
end Go.Proofs.Ytkkbncgnobaliaa
