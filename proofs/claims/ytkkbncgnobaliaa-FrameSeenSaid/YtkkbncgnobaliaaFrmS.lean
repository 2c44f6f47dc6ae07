/-
  WHAT IS CHANGED IS SEEN: the plain law of a record, some of whose bits are changed behind its first octet.
-/
import Derived.Test.YtkkbncgnobaliaaFrmA
import Derived.Test.YtkkbncgnobaliaaFlips
namespace Go.Proofs.Ytkkbncgnobaliaa
open CodP
open CrcP
set_option linter.unusedVariables false
theorem flips_head (l : List UInt8) (bit x : Nat) (hb : 8 ≤ bit) : ∀ i, (flips l bit x i).getD 0 0 = l.getD 0 0
  | 0 => rfl
  | i + 1 => by
    rw [flips_succ]
    split
    · rw [← flips_head l bit x hb i]
      have : (bit + i) / 8 ≠ 0 := by omega
      simp only [flip1, List.getD_eq_getElem?_getD, List.getElem?_set, if_neg this]
    · exact flips_head l bit x hb i
theorem flips_zero (l : List UInt8) (bit : Nat) : ∀ i, flips l bit 0 i = l
  | 0 => rfl
  | i + 1 => by rw [flips_succ, if_neg (by simp)]; exact flips_zero l bit i
theorem nats_le4 {s : Nat} (hs : s < 4294967296) : nats (le4 s) = four s := by
  simp only [nats, le4, four, List.map_cons, List.map_nil]
  rw [ofNat_toNat (x := s % 256) (by omega), ofNat_toNat (x := s / 256 % 256) (by omega), ofNat_toNat (x := s / 65536 % 256) (by omega), ofNat_toNat (x := s / 16777216) (by omega)]
theorem upd_own (l : List Nat) : upd 4294967295 (l ++ four (sum l)) = rds 32 4294967295 := by
  have e : upd 4294967295 l ^^^ sum l = 4294967295 := by
    unfold sum
    rw [Nat.xor_comm 4294967295, xor_self_left]
  rw [upd_four, e]
theorem recd_small {p : List UInt8} (hp : p.length ≤ 120) : recd p = UInt8.ofNat p.length :: (p ++ le4 (sum (nats p))) := by
  unfold recd
  rw [encU_lt (by omega)]; rfl
theorem recd_len {p : List UInt8} (hp : p.length ≤ 120) : (recd p).length = p.length + 5 := by
  rw [recd_small hp]; simp [le4_len]
theorem seen (p : List UInt8) (hp : p.length ≤ 120) (bit x : Nat) (hx : x < 4294967296) (h0 : x ≠ 0) (hb8 : 8 ≤ bit) (hbit : bit + 32 ≤ 8 * (p.length + 5)) : getF (flips (recd p) bit x 32) = .error 5 := by
  have hm := msg_flips (recd p) bit x 32 (by rw [recd_len hp]; exact hbit)
  have hhd := flips_head (recd p) bit x hb8 32
  have hlen : (flips (recd p) bit x 32).length = p.length + 5 := by rw [flips_len, recd_len hp]
  generalize flips (recd p) bit x 32 = c at hm hhd hlen
  rw [Nat.mod_eq_of_lt (by simpa using hx)] at hm
  have hr := recd_small hp
  rw [hr] at hhd
  have hhd' : c.getD 0 0 = UInt8.ofNat p.length := hhd
  obtain ⟨r, hc⟩ : ∃ r, c = UInt8.ofNat p.length :: r := by
    cases c with
    | nil => simp at hlen
    | cons a r => exact ⟨r, by have : a = UInt8.ofNat p.length := hhd'; rw [this]⟩
  subst hc
  have hrl : r.length = p.length + 4 := by simp at hlen; omega
  have hg : getU (UInt8.ofNat p.length :: r) = .ok (p.length, r) := by
    have := getU_encU p.length r (by omega)
    rw [encU_lt (by omega)] at this
    exact this
  have hmr : msg (nats r) = msg (nats (p ++ le4 (sum (nats p)))) ^^^ x * 2 ^ (bit - 8) := by
    rw [hr] at hm
    have hm2 : (UInt8.ofNat p.length).toNat ^^^ msg (nats r) * 256 = ((UInt8.ofNat p.length).toNat ^^^ msg (nats (p ++ le4 (sum (nats p)))) * 256) ^^^ x * 2 ^ bit := hm
    generalize (UInt8.ofNat p.length).toNat = h at hm2
    generalize msg (nats r) = R at hm2
    generalize msg (nats (p ++ le4 (sum (nats p)))) = R0 at hm2
    have e1 : R * 256 = R0 * 256 ^^^ x * 2 ^ bit := by
      have e := congrArg (fun z => h ^^^ z) hm2
      simp only [xor_self_left, Nat.xor_assoc] at e
      exact e
    have e2 : x * 2 ^ bit = x * 2 ^ (bit - 8) * 2 ^ 8 := by rw [Nat.mul_assoc, ← Nat.pow_add, show bit - 8 + 8 = bit by omega]
    rw [e2, show R0 * 256 = R0 * 2 ^ 8 from rfl, ← xor_mul] at e1
    exact Nat.eq_of_mul_eq_mul_right (show 0 < 2 ^ 8 by decide) e1
  unfold getF
  rw [hg]
  simp only
  rw [if_neg (by omega), if_neg (by omega), if_neg]
  intro he
  have hq : r = r.take p.length ++ le4 (sum (nats (r.take p.length))) := by
    have h4 : (r.drop p.length).length = 4 := by rw [List.length_drop]; omega
    rw [he, le4_val4 h4, List.take_append_drop]
  have hs1 := sum_lt (nats_lt (r.take p.length))
  have hs2 := sum_lt (nats_lt p)
  have u1 : upd 4294967295 (nats r) = rds 32 4294967295 := by
    rw [hq, nats_append, nats_le4 hs1]
    exact upd_own _
  have u2 : upd 4294967295 (nats (p ++ le4 (sum (nats p)))) = rds 32 4294967295 := by
    rw [nats_append, nats_le4 hs2]
    exact upd_own _
  have hll : (nats r).length = (nats (p ++ le4 (sum (nats p)))).length := by simp [nats, le4_len, hrl]
  exact h0 ((upd_burst 4294967295 _ _ hll (bit - 8) x hx (by rw [hll]; simp [nats, le4_len]; omega) hmr).1 (by rw [u1, u2]))
end Go.Proofs.Ytkkbncgnobaliaa
