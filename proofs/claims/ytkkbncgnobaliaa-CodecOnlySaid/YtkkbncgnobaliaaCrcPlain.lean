/-
  THE PLAIN LAW OF THE CRC: no program in sight. 'rd': one bit is lost; 'rds n': n bits; 'stp': a step by an octet; 'upd': by octets; 'msg': octets as one number. The laws: all is linear under exclusive or, and nothing is lost.
-/
namespace Go.Proofs.Ytkkbncgnobaliaa.CrcP

def rd (c : Nat) : Nat := c / 2 ^^^ (if c % 2 = 1 then 3988292384 else 0)
def rds : Nat → Nat → Nat
  | 0, c => c
  | n + 1, c => rds n (rd c)
def stp (c x : Nat) : Nat := rds 8 (c ^^^ x)
def upd (c : Nat) : List Nat → Nat
  | [] => c
  | x :: l => upd (stp c x) l
def sum (l : List Nat) : Nat := 4294967295 ^^^ upd 4294967295 l
def msg : List Nat → Nat
  | [] => 0
  | x :: l => x ^^^ msg l * 256

theorem xor_half (a b : Nat) : (a ^^^ b) / 2 = a / 2 ^^^ b / 2 := by
  apply Nat.eq_of_testBit_eq; intro i; simp [Nat.testBit_div_two, Nat.testBit_xor]
theorem xor_low (a b : Nat) : (a ^^^ b) % 2 = 1 ↔ ¬ (a % 2 = 1 ↔ b % 2 = 1) := by
  have h := Nat.testBit_xor (x := a) (y := b) (i := 0)
  simp only [Nat.testBit_zero] at h
  by_cases ha : a % 2 = 1 <;> by_cases hb : b % 2 = 1 <;> simp_all

theorem rd_xor (a b : Nat) : rd (a ^^^ b) = rd a ^^^ rd b := by
  unfold rd
  rw [xor_half]
  have h := xor_low a b
  by_cases ha : a % 2 = 1 <;> by_cases hb : b % 2 = 1 <;> simp only [ha, hb, h, iff_true, iff_false, not_true, not_false_eq_true, if_true, if_false, Nat.xor_zero] <;>
    (apply Nat.eq_of_testBit_eq; intro i; simp only [Nat.testBit_xor]; cases (a / 2).testBit i <;> cases (b / 2).testBit i <;> cases (3988292384 : Nat).testBit i <;> rfl)
theorem rds_xor (n a b : Nat) : rds n (a ^^^ b) = rds n a ^^^ rds n b := by
  induction n generalizing a b with
  | zero => rfl
  | succ n ih => simp only [rds, rd_xor, ih]
theorem rds_zero (n : Nat) : rds n 0 = 0 := by
  induction n with
  | zero => rfl
  | succ n ih => simpa [rds, rd] using ih
theorem rd_lt {c : Nat} (h : c < 4294967296) : rd c < 4294967296 := by
  have h2 : (4294967296 : Nat) = 2 ^ 32 := by decide
  unfold rd
  rw [h2]
  apply Nat.xor_lt_two_pow
  · omega
  · split <;> omega
theorem rds_lt (n : Nat) {c : Nat} (h : c < 4294967296) : rds n c < 4294967296 := by
  induction n generalizing c with
  | zero => exact h
  | succ n ih => exact ih (rd_lt h)
theorem xor_eq_zero {a b : Nat} (h : a ^^^ b = 0) : a = b := by
  have e : a ^^^ b ^^^ b = a := by rw [Nat.xor_assoc, Nat.xor_self, Nat.xor_zero]
  rw [h, Nat.zero_xor] at e
  exact e.symm
theorem rd_eq_zero {c : Nat} (h : c < 4294967296) (hz : rd c = 0) : c = 0 := by
  unfold rd at hz
  have e := xor_eq_zero hz
  split at e <;> omega
theorem rds_eq_zero (n : Nat) {c : Nat} (h : c < 4294967296) (hz : rds n c = 0) : c = 0 := by
  induction n generalizing c with
  | zero => exact hz
  | succ n ih => exact rd_eq_zero h (ih (rd_lt h) hz)
theorem rds_inj (n : Nat) {a b : Nat} (ha : a < 4294967296) (hb : b < 4294967296) (h : rds n a = rds n b) : a = b := by
  have h2 : (4294967296 : Nat) = 2 ^ 32 := by decide
  apply xor_eq_zero
  apply rds_eq_zero n
  · rw [h2] at *; exact Nat.xor_lt_two_pow ha hb
  · rw [rds_xor, h, Nat.xor_self]
theorem rds_add (m n c : Nat) : rds (m + n) c = rds n (rds m c) := by
  induction m generalizing c with
  | zero => simp [rds]
  | succ m ih => rw [show m + 1 + n = (m + n) + 1 from by omega]; simp only [rds, ih]
theorem rds_shift (n x : Nat) : rds n (x * 2 ^ n) = x := by
  induction n generalizing x with
  | zero => simp [rds]
  | succ n ih =>
    have e : rd (x * 2 ^ (n + 1)) = x * 2 ^ n := by
      unfold rd
      rw [Nat.pow_succ, ← Nat.mul_assoc, Nat.mul_div_cancel _ (by omega), if_neg (by omega), Nat.xor_zero]
    simp only [rds, e, ih]
theorem low_xor_high (y : Nat) : y % 256 ^^^ y / 256 * 256 = y := by
  apply Nat.eq_of_testBit_eq; intro i
  rw [show (256 : Nat) = 2 ^ 8 from by decide]
  simp only [Nat.testBit_xor, Nat.testBit_mod_two_pow, Nat.testBit_mul_two_pow, Nat.testBit_div_two_pow]
  by_cases h : i < 8
  · simp [h, show ¬ 8 ≤ i from by omega]
  · simp [h, show 8 ≤ i from by omega, show i - 8 + 8 = i from by omega]
/-- A look into the table. -/
theorem rds_table (y : Nat) : rds 8 (y % 256) ^^^ y / 256 = rds 8 y := by
  have h := rds_xor 8 (y % 256) (y / 256 * 256)
  rw [low_xor_high, show (256 : Nat) = 2 ^ 8 from by decide, rds_shift] at h
  exact h.symm
theorem xor_byte (c x : Nat) (hx : x < 256) : (c ^^^ x) % 256 = c % 256 ^^^ x ∧ (c ^^^ x) / 256 = c / 256 := by
  constructor
  · have h := Nat.xor_mod_two_pow (a := c) (b := x) (n := 8)
    simp only [Nat.reducePow] at h
    rw [h, Nat.mod_eq_of_lt hx]
  · have h := Nat.xor_div_two_pow (a := c) (b := x) (n := 8)
    simp only [Nat.reducePow] at h
    rw [h, Nat.div_eq_of_lt hx, Nat.xor_zero]
theorem stp_table (c x : Nat) (hx : x < 256) : rds 8 (c % 256 ^^^ x) ^^^ c / 256 = stp c x := by
  have h := rds_table (c ^^^ x)
  rw [(xor_byte c x hx).1, (xor_byte c x hx).2] at h
  exact h
theorem xor_lt32 {a b : Nat} (ha : a < 4294967296) (hb : b < 4294967296) : a ^^^ b < 4294967296 := by
  have h2 : (4294967296 : Nat) = 2 ^ 32 := by decide
  rw [h2] at *; exact Nat.xor_lt_two_pow ha hb
theorem stp_lt {c x : Nat} (hc : c < 4294967296) (hx : x < 256) : stp c x < 4294967296 := rds_lt 8 (xor_lt32 hc (by omega))
theorem upd_lt {c : Nat} {l : List Nat} (hc : c < 4294967296) (hl : ∀ x ∈ l, x < 256) : upd c l < 4294967296 := by
  induction l generalizing c with
  | nil => exact hc
  | cons x l ih => exact ih (stp_lt hc (hl x (by simp))) fun y hy => hl y (by simp [hy])
theorem sum_lt {l : List Nat} (hl : ∀ x ∈ l, x < 256) : sum l < 4294967296 := xor_lt32 (by omega) (upd_lt (by omega) hl)
theorem upd_append (c : Nat) (a b : List Nat) : upd c (a ++ b) = upd (upd c a) b := by
  induction a generalizing c with
  | nil => rfl
  | cons x a ih => exact ih _
theorem upd_snoc (c : Nat) (a : List Nat) (x : Nat) : upd c (a ++ [x]) = stp (upd c a) x := upd_append c a [x]
theorem xor_swap (a b c : Nat) : a ^^^ b ^^^ c = a ^^^ (b ^^^ c) := Nat.xor_assoc a b c
/-- Behind octets, as one number. -/
theorem upd_eq (c : Nat) (l : List Nat) : upd c l = rds (8 * l.length) (c ^^^ msg l) := by
  induction l generalizing c with
  | nil => simp [upd, msg, rds]
  | cons x l ih =>
    have e : rds 8 (c ^^^ (x ^^^ msg l * 256)) = stp c x ^^^ msg l := by
      rw [← Nat.xor_assoc, rds_xor, show (256 : Nat) = 2 ^ 8 from by decide, rds_shift]; rfl
    rw [List.length_cons, show 8 * (l.length + 1) = 8 + 8 * l.length from by omega, rds_add]
    simp only [upd, msg]
    rw [e, ih]
/-- Two lists of octets as long: the sums' difference is the difference's. -/
theorem upd_diff (c : Nat) (a b : List Nat) (h : a.length = b.length) : upd c a ^^^ upd c b = rds (8 * a.length) (msg a ^^^ msg b) := by
  rw [upd_eq, upd_eq, h, ← rds_xor]
  congr 1
  apply Nat.eq_of_testBit_eq; intro i
  simp only [Nat.testBit_xor]
  cases c.testBit i <;> cases (msg a).testBit i <;> cases (msg b).testBit i <;> rfl
/-- UNLIKE WITHIN THIRTY-TWO BITS IS SEEN. -/
theorem upd_burst (c : Nat) (a b : List Nat) (h : a.length = b.length) (bit x : Nat) (hx : x < 4294967296) (hbit : bit ≤ 8 * a.length) (hm : msg a = msg b ^^^ x * 2 ^ bit) :
    upd c a = upd c b ↔ x = 0 := by
  constructor
  · intro he
    have hd := upd_diff c a b h
    have hm' : msg a ^^^ msg b = x * 2 ^ bit := by rw [hm, Nat.xor_comm (msg b), Nat.xor_assoc, Nat.xor_self, Nat.xor_zero]
    rw [he, Nat.xor_self, hm', show 8 * a.length = bit + (8 * a.length - bit) from by omega, rds_add, rds_shift] at hd
    exact rds_eq_zero _ hx hd.symm
  · rintro rfl
    rw [upd_eq, upd_eq, h, hm]; simp
/-- A bit that is changed. -/
theorem msg_flip (l : List Nat) (j r : Nat) (hj : j < l.length) : msg (l.set j (l[j] ^^^ 2 ^ r)) = msg l ^^^ 2 ^ (8 * j + r) := by
  induction l generalizing j with
  | nil => simp at hj
  | cons x l ih =>
    cases j with
    | zero =>
      simp only [List.set_cons_zero, List.getElem_cons_zero, msg, Nat.mul_zero, Nat.zero_add]
      apply Nat.eq_of_testBit_eq; intro i
      simp only [Nat.testBit_xor]
      cases x.testBit i <;> cases (2 ^ r : Nat).testBit i <;> cases (msg l * 256).testBit i <;> rfl
    | succ j =>
      have hj' : j < l.length := by simpa using hj
      have e := ih j hj'
      simp only [List.set_cons_succ, List.getElem_cons_succ, msg, e]
      rw [show 8 * (j + 1) + r = 8 * j + r + 8 from by omega, Nat.pow_add 2 _ 8, show (256 : Nat) = 2 ^ 8 from by decide]
      have hx : (msg l ^^^ 2 ^ (8 * j + r)) * 2 ^ 8 = msg l * 2 ^ 8 ^^^ 2 ^ (8 * j + r) * 2 ^ 8 := by
        apply Nat.eq_of_testBit_eq; intro i
        simp only [Nat.testBit_mul_two_pow, Nat.testBit_xor]
        cases decide (8 ≤ i) <;> simp
      rw [hx, Nat.xor_assoc]
/-- A sum's octets, its lowest first. -/
def four (S : Nat) : List Nat := [S % 256, S / 256 % 256, S / 65536 % 256, S / 16777216]
theorem msg_four (S : Nat) : msg (four S) = S := by
  have h1 := low_xor_high S
  have h2 := low_xor_high (S / 256)
  have h3 := low_xor_high (S / 65536)
  rw [Nat.div_div_eq_div_mul] at h2 h3
  simp only [four, msg, Nat.zero_mul, Nat.xor_zero]
  rw [h3, h2, h1]
/-- Octets, and the four of some number behind them. -/
theorem upd_four (c S : Nat) (l : List Nat) : upd c (l ++ four S) = rds 32 (upd c l ^^^ S) := by
  rw [upd_append, upd_eq (upd c l), msg_four]; rfl
theorem xor_self_left (a b : Nat) : a ^^^ (a ^^^ b) = b := by rw [← Nat.xor_assoc, Nat.xor_self, Nat.zero_xor]
/-- Of octets and their own sum the sum is always the same. -/
theorem sum_own (l : List Nat) : sum (l ++ four (sum l)) = 558161692 := by
  have e : upd 4294967295 l ^^^ sum l = 4294967295 := by
    unfold sum
    rw [Nat.xor_comm 4294967295, xor_self_left]
  have h : sum (l ++ four (sum l)) = 4294967295 ^^^ rds 32 4294967295 := by
    show 4294967295 ^^^ upd 4294967295 (l ++ four (sum l)) = _
    rw [upd_four, e]
  rw [h]
  decide +kernel
end Go.Proofs.Ytkkbncgnobaliaa.CrcP
