/-
  THE FRAME: what is put is got; octets as a string; and the laws' awake.
-/
import Derived.Test.YtkkbncgnobaliaaFrmG
import Derived.Laws.IdiomStrings
namespace Go.Proofs.Ytkkbncgnobaliaa
open Go.RowKit
open CodP
open CrcP
set_option linter.unusedVariables false
theorem ofNat_toNat {x : Nat} (h : x < 256) : (UInt8.ofNat x).toNat = x := UInt8.toNat_ofNat_of_lt' (by show _ < 256; omega)
theorem val4_le4 {s : Nat} (hs : s < 4294967296) (t : List UInt8) : val4 (le4 s ++ t) = s := by
  simp only [val4, le4, List.cons_append, List.nil_append, List.getD_cons_zero, List.getD_cons_succ]
  rw [ofNat_toNat (x := s % 256) (by omega), ofNat_toNat (x := s / 256 % 256) (by omega), ofNat_toNat (x := s / 65536 % 256) (by omega), ofNat_toNat (x := s / 16777216) (by omega)]
  omega
theorem le4_len (s : Nat) : (le4 s).length = 4 := rfl
theorem le4_val4 {l : List UInt8} (h : l.length = 4) : le4 (val4 l) = l := by
  match l, h with
  | [a, b, c, d], _ =>
    have ha := a.toNat_lt
    have hb := b.toNat_lt
    have hc := c.toNat_lt
    have hd := d.toNat_lt
    simp only [val4, le4, List.getD_cons_zero, List.getD_cons_succ]
    have e : ∀ (x : UInt8) (z : Nat), z = x.toNat → UInt8.ofNat z = x := fun x z h => by rw [h]; exact UInt8.ofNat_toNat
    rw [e a _ (by omega), e b _ (by omega), e c _ (by omega), e d _ (by omega)]
/-- WHAT IS PUT IS GOT. -/
theorem getF_recd (p t : List UInt8) (hp : p.length ≤ 65536) : getF (recd p ++ t) = .ok (p, t) := by
  have hs := sum_lt (nats_lt p)
  unfold getF recd
  rw [List.append_assoc, List.append_assoc, getU_encU _ _ (by omega)]
  simp only
  have e1 : (p ++ (le4 (sum (nats p)) ++ t)).take p.length = p := List.take_left
  have e2 : (p ++ (le4 (sum (nats p)) ++ t)).drop p.length = le4 (sum (nats p)) ++ t := List.drop_left
  have e3 : (p ++ (le4 (sum (nats p)) ++ t)).drop (p.length + 4) = t := by
    rw [← List.drop_drop, e2]; rfl
  rw [if_neg (by omega), if_neg (by simp [le4_len]), e1, e2, e3, if_pos (val4_le4 hs t).symm]
/-- WHAT IS GOT WAS PUT. -/
theorem getF_ok {l p r : List UInt8} (h : getF l = .ok (p, r)) : l = recd p ++ r ∧ p.length ≤ 65536 := by
  unfold getF at h
  cases hg : getU l with
  | error c => rw [hg] at h; cases h
  | ok mr =>
    obtain ⟨m, q⟩ := mr
    rw [hg] at h
    simp only at h
    split at h
    · cases h
    · split at h
      · cases h
      · split at h
        · rename_i h1 h2 h3
          injection h with h
          injection h with hp hr
          obtain ⟨e, -⟩ := getU_ok hg
          have hlen : p.length = m := by rw [← hp, List.length_take]; omega
          refine ⟨?_, by omega⟩
          have h4 : (q.drop m).take 4 = le4 (sum (nats p)) := by
            have : val4 (q.drop m) = val4 ((q.drop m).take 4) := by
              simp [val4, List.getD_eq_getElem?_getD]
            rw [← hp, h3, this, le4_val4 (by rw [List.length_take, List.length_drop]; omega)]
          unfold recd
          rw [hlen, ← h4, ← hp, ← hr, e]
          have e5 : q.drop (m + 4) = (q.drop m).drop 4 := by rw [List.drop_drop]
          rw [e5, List.append_assoc, List.append_assoc, List.take_append_drop, List.take_append_drop]
        · cases h
theorem run_str (w : World) {B n : Nat} {A : Option Addr} {l : List UInt8} (cap : Nat) (h : Bs w B A n l) : (convert 22 9 (.slice A n cap)).run Try.prog w = .ok (.string ⟨l.toArray⟩) w := by
  cases A with
  | none =>
    have hn : n = 0 := by
      rcases Nat.eq_zero_or_pos n with h0 | h0
      · exact h0
      · obtain ⟨_, _, e, _⟩ := h.sl h0; cases e
    have hl : l = [] := List.eq_nil_of_length_eq_zero (by rw [h.len, hn])
    subst hl; subst hn
    rw [run_convert_bytes_string w _ _ 5 none 0 cap Try.underlying22 Try.underlying5 Try.underlying9]
    rfl
  | some a =>
    have hn := h.len
    subst hn
    refine run_convert_bytes_back w _ _ 5 a cap l Try.underlying22 Try.underlying5 Try.underlying9 (fun j hj => ?_)
    obtain ⟨b, off, e, -, hc⟩ := h.at_ hj
    cases e
    have hadd : (⟨b, off, none⟩ : Addr).add j = ⟨b, off + j, none⟩ := by unfold Addr.add; split <;> simp_all
    rw [hadd, hc]
    simp [hj]
end Go.Proofs.Ytkkbncgnobaliaa
