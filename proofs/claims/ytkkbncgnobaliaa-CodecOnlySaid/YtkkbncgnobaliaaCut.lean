/-
  CUTS OF A SLICE ('b[:k]', 'b[k:]', 'b[i:j]', 'b[i:j:j]'), each as one run equation for the walk and what the cut reads as; a number under a mask.
-/
import Derived.Test.YtkkbncgnobaliaaMem
import Derived.Laws.Slices
import Derived.Laws.BitsAllLaws
import Derived.Tactics
namespace Go.Proofs.Ytkkbncgnobaliaa
open Go.RowKit
section
variable {P : Program} {w : World} {B : Nat} {A : Option Addr} {n cap : Nat} {t e : TypeId}
theorem sb (k y : Nat) (code : BoundsCode) (h : k ≤ y) (w : World) : (Instr.sliceBound (.int .i64 (k : Int)) y code).run P w = .ok k w := by
  have h1 : (0 : Int) ≤ k ∧ (k : Int) ≤ y := ⟨by omega, by omega⟩
  simp [Instr.sliceBound, asIntOf, h1]
/-- Where a cut begins. -/
def cutAt (A : Option Addr) (cap k size : Nat) : Option Addr := if cap = k then A else A.map (·.add (k * size))
theorem run_cut (ht : P.underlying t = some (.slice e)) (size : Nat) (hsz : (P.info? e).map (·.size) = some size) (A : Option Addr) (n cap l h m : Nat) (lo hi mx : Option Value)
    (hb : ∀ w, (Instr.sliceBounds true n cap lo hi mx).run P w = .ok (l, h, m) w) (w : World) :
    (Instr.slice t (.slice A n cap) lo hi mx).run P w = .ok (.slice (cutAt A m l size) (h - l) (m - l)) w := by
  cases hq : P.info? e with
  | none => simp [hq] at hsz
  | some i =>
    have hs : i.size = size := by simpa [hq] using hsz
    simp [Instr.slice, run_underlying ht, hb, sizeOf, typeInfo, hq, hs, cutAt]
theorem run_cut_lo (ht : P.underlying t = some (.slice e)) (size : Nat) (hsz : (P.info? e).map (·.size) = some size) (A : Option Addr) (n cap k : Nat) (hk : k ≤ n) (w : World) :
    (Instr.slice t (.slice A n cap) (some (.int .i64 k)) none none).run P w = .ok (.slice (cutAt A cap k size) (n - k) (cap - k)) w :=
  run_cut ht size hsz A n cap k n cap _ _ _ (fun w => by simp [Instr.sliceBounds, sb k n .sliceB (by omega)]) w
theorem run_cut_hi (ht : P.underlying t = some (.slice e)) (size : Nat) (hsz : (P.info? e).map (·.size) = some size) (A : Option Addr) (n cap k : Nat) (hk : k ≤ cap) (w : World) :
    (Instr.slice t (.slice A n cap) none (some (.int .i64 k)) none).run P w = .ok (.slice A k cap) w := by
  have h := run_cut ht size hsz A n cap 0 k cap none (some (.int .i64 k)) none (fun w => by simp [Instr.sliceBounds, sb k cap .sliceAcap (by omega)]) w
  have e0 : cutAt A cap 0 size = A := by
    unfold cutAt
    split
    · rfl
    · cases A <;> simp [Addr.add]
  rw [h, e0, Nat.sub_zero, Nat.sub_zero]
theorem run_cut_lh (ht : P.underlying t = some (.slice e)) (size : Nat) (hsz : (P.info? e).map (·.size) = some size) (A : Option Addr) (n cap i k : Nat) (hi : i ≤ k) (hk : k ≤ cap) (w : World) :
    (Instr.slice t (.slice A n cap) (some (.int .i64 i)) (some (.int .i64 k)) none).run P w = .ok (.slice (cutAt A cap i size) (k - i) (cap - i)) w :=
  run_cut ht size hsz A n cap i k cap _ _ _ (fun w => by simp [Instr.sliceBounds, sb k cap .sliceAcap (by omega), sb i k .sliceB (by omega)]) w
theorem run_cut3_hi (ht : P.underlying t = some (.slice e)) (size : Nat) (hsz : (P.info? e).map (·.size) = some size) (A : Option Addr) (n cap k : Nat) (hk : k ≤ cap) (w : World) :
    (Instr.slice t (.slice A n cap) none (some (.int .i64 k)) (some (.int .i64 k))).run P w = .ok (.slice A k k) w := by
  have h := run_cut ht size hsz A n cap 0 k k none (some (.int .i64 k)) (some (.int .i64 k)) (fun w => by simp [Instr.sliceBounds, sb k cap .slice3Acap (by omega), sb k k .slice3B (by omega)]) w
  have e0 : cutAt A k 0 size = A := by
    unfold cutAt
    split
    · rfl
    · cases A <;> simp [Addr.add]
  rw [h, e0, Nat.sub_zero]
theorem Sl.cut {V : Nat → Value} {size k : Nat} (h : Sl w B A (n * size) V) (hk : k ≤ n) (hc : n ≤ cap) : Sl w B (cutAt A cap k size) ((n - k) * size) (fun i => V (k * size + i)) := fun hn => by
  have hkn : k < n := by
    rcases Nat.lt_or_ge k n with h' | h'
    · exact h'
    · rw [show n - k = 0 from by omega, Nat.zero_mul] at hn; omega
  have hmul : (n - k) * size = n * size - k * size := Nat.sub_mul _ _ _
  obtain ⟨b, off, rfl, hb, hcell⟩ := h (by omega)
  refine ⟨b, off + k * size, ?_, hb, fun i hi => ?_⟩
  · unfold cutAt
    rw [if_neg (by omega)]
    simp only [Option.map_some, Addr.add]
    split
    · rename_i h0; rw [h0]; rfl
    · rfl
  · rw [Nat.add_assoc]; exact hcell _ (by omega)
theorem Sl.hi {V : Nat → Value} {k : Nat} (h : Sl w B A n V) (hk : k ≤ n) : Sl w B A k V := fun hn => by
  obtain ⟨b, off, e, hb, hcell⟩ := h (by omega)
  exact ⟨b, off, e, hb, fun i hi => hcell i (by omega)⟩
theorem Bs.lo {l : List UInt8} {k : Nat} (h : Bs w B A n l) (hk : k ≤ n) (hc : n ≤ cap) : Bs w B (cutAt A cap k 1) (n - k) (l.drop k) := by
  refine ⟨by rw [List.length_drop, h.len], ?_⟩
  have := Sl.cut (size := 1) (cap := cap) (by rw [Nat.mul_one]; exact h.sl) hk hc
  rw [Nat.mul_one] at this
  exact this.congr fun i _ => by simp [octs, List.getD_eq_getElem?_getD]
theorem Bs.hi {l : List UInt8} {k : Nat} (h : Bs w B A n l) (hk : k ≤ n) : Bs w B A k (l.take k) := by
  refine ⟨by rw [List.length_take, h.len]; omega, ?_⟩
  exact (h.sl.hi hk).congr fun i hi => by simp [octs, List.getD_eq_getElem?_getD, hi]
end
/-- A number under a mask. -/
theorem and_mask (a : Int) (M : Nat) (hM : M < 9223372036854775808) : ∃ m : Nat, bits .and .i64 a (M : Int) = (m : Int) ∧ m ≤ M := by
  have hx : (BitVec.ofInt 64 (M : Int)).toNat = M := by
    rw [BitVec.ofInt_natCast, BitVec.toNat_ofNat]; exact Nat.mod_eq_of_lt (by omega)
  refine ⟨(BitVec.ofInt 64 a).toNat &&& M, ?_, Nat.and_le_right⟩
  have hle : (BitVec.ofInt 64 a).toNat &&& M ≤ M := Nat.and_le_right
  show IntKind.i64.wrap ((BitVec.ofInt 64 a &&& BitVec.ofInt 64 (M : Int)).toNat : Int) = _
  rw [BitVec.toNat_and, hx, IntKind.wrap_i64]
  omega
theorem mod_nat (m n : Nat) : (m : Int) % ((n : Int) + 1) = ((m % (n + 1) : Nat) : Int) := by
  rw [Int.natCast_emod]; rfl
theorem Below.step {a W w' : World} (hb : Below W.heap.size W w') (hS : Below a.heap.size a W) : Below a.heap.size a w' := hS.trans (hb.mono hS.size)
end Go.Proofs.Ytkkbncgnobaliaa
