/-
  BITS THAT ARE CHANGED, ONE BY ONE: the plain law: octets with the bits of 'by', from bit 'bit' on, changed, are as one number the octets' own, those bits changed.
-/
import Derived.Test.YtkkbncgnobaliaaCrcSums
namespace Go.Proofs.Ytkkbncgnobaliaa
open CrcP
def flip1 (c : List UInt8) (k : Nat) : List UInt8 := c.set (k / 8) (c.getD (k / 8) 0 ^^^ UInt8.ofNat (2 ^ (k % 8)))
def flips (l : List UInt8) (bit x : Nat) : Nat → List UInt8
  | 0 => l
  | i + 1 => if x / 2 ^ i % 2 = 1 then flip1 (flips l bit x i) (bit + i) else flips l bit x i
theorem flips_succ (l : List UInt8) (bit x i : Nat) : flips l bit x (i + 1) = if x / 2 ^ i % 2 = 1 then flip1 (flips l bit x i) (bit + i) else flips l bit x i := rfl
theorem flips_len (l : List UInt8) (bit x i : Nat) : (flips l bit x i).length = l.length := by
  induction i with
  | zero => rfl
  | succ i ih => unfold flips; split <;> simp [flip1, ih]
theorem nats_set (l : List UInt8) (j : Nat) (u : UInt8) : nats (l.set j u) = (nats l).set j u.toNat := by simp [nats, List.map_set]
theorem pow8 (k : Nat) : (UInt8.ofNat (2 ^ (k % 8))).toNat = 2 ^ (k % 8) := by
  apply UInt8.toNat_ofNat_of_lt'
  have : 2 ^ (k % 8) ≤ 2 ^ 7 := Nat.pow_le_pow_right (by decide) (by omega)
  show _ < 256
  omega
theorem msg_flip1 (c : List UInt8) (k : Nat) (h : k < 8 * c.length) : msg (nats (flip1 c k)) = msg (nats c) ^^^ 2 ^ k := by
  have hj : k / 8 < (nats c).length := by simp [nats]; omega
  have hj' : k / 8 < c.length := by omega
  have e := msg_flip (nats c) (k / 8) (k % 8) hj
  rw [show 8 * (k / 8) + k % 8 = k from by omega] at e
  rw [← e, flip1, nats_set, UInt8.toNat_xor, pow8]
  congr 2
  simp [nats, List.getD_eq_getElem?_getD, List.getElem?_eq_getElem hj']
theorem low_succ (x i : Nat) : x % 2 ^ (i + 1) = x % 2 ^ i ^^^ (if x / 2 ^ i % 2 = 1 then 2 ^ i else 0) := by
  apply Nat.eq_of_testBit_eq; intro j
  have hb : x.testBit i = decide (x / 2 ^ i % 2 = 1) := by rw [Nat.testBit_eq_decide_div_mod_eq]
  rw [Nat.testBit_mod_two_pow, Nat.testBit_xor, Nat.testBit_mod_two_pow]
  by_cases hc : x / 2 ^ i % 2 = 1
  · rw [if_pos hc, Nat.testBit_two_pow]
    by_cases e : i = j
    · subst e; simp [hb, hc]
    · by_cases h : j < i
      · simp [h, e, show j < i + 1 from by omega]
      · simp [h, e, show ¬ j < i + 1 from by omega]
  · rw [if_neg hc, Nat.zero_testBit]
    by_cases e : i = j
    · subst e; simp [hb, hc]
    · by_cases h : j < i
      · simp [h, show j < i + 1 from by omega]
      · simp [h, show ¬ j < i + 1 from by omega]
theorem xor_mul (a b n : Nat) : (a ^^^ b) * 2 ^ n = a * 2 ^ n ^^^ b * 2 ^ n := by
  apply Nat.eq_of_testBit_eq; intro i
  simp only [Nat.testBit_mul_two_pow, Nat.testBit_xor]
  cases decide (n ≤ i) <;> simp
theorem msg_flips (l : List UInt8) (bit x i : Nat) (h : bit + i ≤ 8 * l.length) : msg (nats (flips l bit x i)) = msg (nats l) ^^^ (x % 2 ^ i) * 2 ^ bit := by
  induction i with
  | zero => simp [flips, Nat.mod_one]
  | succ i ih =>
    have ih := ih (by omega)
    rw [low_succ, xor_mul, ← Nat.xor_assoc, ← ih, flips_succ]
    split
    · rw [msg_flip1 _ _ (by rw [flips_len]; omega), ← Nat.pow_add, Nat.add_comm i bit]
    · simp
/-- CHANGED WITHIN THIRTY-TWO BITS: another sum; with none changed the same. -/
theorem sum_flips (l : List UInt8) (bit x : Nat) (hx : x < 4294967296) (h : bit + 32 ≤ 8 * l.length) : sum (nats (flips l bit x 32)) = sum (nats l) ↔ x = 0 := by
  have hm := msg_flips l bit x 32 (by omega)
  rw [Nat.mod_eq_of_lt (by simpa using hx)] at hm
  have hl : (nats (flips l bit x 32)).length = (nats l).length := by simp [nats, flips_len]
  have hb := upd_burst 4294967295 _ _ hl bit x hx (by rw [hl]; simp [nats]; omega) hm
  rw [← hb]
  unfold sum
  constructor
  · intro e
    have e2 : 4294967295 ^^^ (4294967295 ^^^ upd 4294967295 (nats (flips l bit x 32))) = 4294967295 ^^^ (4294967295 ^^^ upd 4294967295 (nats l)) := by rw [e]
    rwa [xor_self_left, xor_self_left] at e2
  · intro e; rw [e]
/-- A bit that is changed, as the walk spells it. -/
theorem flip_val (u : UInt8) (k : Nat) : bits .xor .u8 (u.toNat : Int) ((2 : Int) ^ (k % 8) % 256) = ((u ^^^ UInt8.ofNat (2 ^ (k % 8))).toNat : Int) := by
  have h7 : 2 ^ (k % 8) ≤ 2 ^ 7 := Nat.pow_le_pow_right (by decide) (by omega)
  have e : (2 : Int) ^ (k % 8) % 256 = ((2 ^ (k % 8) : Nat) : Int) := by
    have e0 : (2 : Int) ^ (k % 8) = ((2 ^ (k % 8) : Nat) : Int) := by rw [Int.natCast_pow]; rfl
    rw [e0]
    generalize (2 ^ (k % 8) : Nat) = q at h7
    simp at h7
    omega
  rw [e, UInt8.toNat_xor, pow8]
  exact u8_xor_nat _ _ u.toNat_lt (by omega)
theorem flip1_set (c : List UInt8) (k : Nat) (u : UInt8) (hu : c.getD (k / 8) 0 = u) : c.set (k / 8) (u ^^^ UInt8.ofNat (2 ^ (k % 8))) = flip1 c k := by subst hu; rfl
theorem bit_and (x k : Nat) (hx : x < 4294967296) : bits .and .u32 ((x : Int) / 2 ^ k) 1 = ((x / 2 ^ k % 2 : Nat) : Int) := by
  have hle : x / 2 ^ k ≤ x := Nat.div_le_self _ _
  have h := and_one (x / 2 ^ k) (by omega)
  rw [Int.natCast_ediv, Int.natCast_pow] at h
  exact h
end Go.Proofs.Ytkkbncgnobaliaa
