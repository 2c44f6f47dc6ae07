/-
  WHAT A LAW's ROW NEEDS BESIDES ITS WALK: closed facts on the program, and how integers and octets that came in are opened.
-/
import Derived.Test.YtkkbncgnobaliaaChecked
import Derived.Test.YtkkbncgnobaliaaMem
import Derived.WalkKit
import Derived.ProofKit
import Derived.OpenShut
import Derived.ShutString
import Derived.ChangeOld
namespace Go.Proofs.Ytkkbncgnobaliaa
open Go.ChangeShapes Go.WideShapes Go.ChangeAt Go.RowKit
open Go.ChangeMaps (open_string shut_string)

theorem own : ownKnob Try.prog.godebug = none := by kernel_rfl
theorem laidOut : laidOutB Try.prog = true := by kernel_rfl
theorem wf_i64b {a : Int} (h : (Lit.int .i64 a).wf = true) : -9223372036854775808 ≤ a ∧ a ≤ 9223372036854775807 := by
  simpa [Lit.wf, IntKind.min, IntKind.max, IntKind.signed, IntKind.bits] using h
theorem wf_u32n {a : Int} (h : (Lit.int .u32 a).wf = true) : ∃ n : Nat, a = n ∧ n < 4294967296 := by
  obtain ⟨h1, h2⟩ := bounds_u32 h
  exact ⟨a.toNat, by omega, by omega⟩
theorem wf_u8n {a : Int} (h : (Lit.int .u8 a).wf = true) : ∃ n : Nat, a = n ∧ n < 256 := by
  obtain ⟨h1, h2⟩ := bounds_u8 h
  exact ⟨a.toNat, by omega, by omega⟩

/-- The octets of numbers that are octets. -/
def toOcts (zs : List Int) : List UInt8 := zs.map fun z => UInt8.ofNat z.toNat
theorem toOcts_get (zs : List Int) (hz : ∀ n ∈ zs, (Lit.int .u8 n).wf = true) (k i : Nat) (hi : i < k) (hk : k ≤ zs.length) : Value.int .u8 (zs.getD i 0) = octs ((toOcts zs).take k) i := by
  have hlt : i < zs.length := by omega
  have hb := bounds_u8 (hz zs[i] (List.getElem_mem hlt))
  unfold octs toOcts
  rw [List.getD_eq_getElem?_getD, List.getD_eq_getElem?_getD, List.getElem?_take, if_pos hi, List.getElem?_map, List.getElem?_eq_getElem hlt]
  simp only [Option.getD_some, Option.map_some]
  congr 1
  have : (UInt8.ofNat (zs[i]).toNat).toNat = (zs[i]).toNat := UInt8.toNat_ofNat_of_lt' (by show _ < 256; omega)
  rw [this]; omega
section
variable {H : Type} {enc : TypeId × Value → H} {W : World} {base t e : Nat} {v : Value} {d : DataW H} {p : List MemPlace}
set_option maxRecDepth 100000 in
/-- OCTETS THAT CAME IN. -/
theorem open_octets (ht : Try.prog.underlying t = some (.slice e)) (he : Try.prog.underlying e = some (.int .u8)) (hc : Try.prog.cellsOf e = 1)
    (hv : Value.okWide Try.prog W .any base t v) (h : DataW.Trod enc Try.prog W 0 (fun _ => true) true t v d p) :
    ∃ (A : Option Addr) (n c : Nat) (l : List UInt8), v = .slice A n c ∧ Bs W W.heap.size A n l ∧ n ≤ c ∧ c ≤ 9223372036854775807 := by
  obtain ⟨A, n, c, rfl⟩ := okWide_slice ht hv
  obtain ⟨fuel, hf⟩ := h
  rcases open_ints ht he hc hf with ⟨hcs, _⟩ | ⟨x, l, c', zs, hcs, _, hl, hm, hz, _, hcell, hwz⟩
  · simp [Value.cells] at hcs
    obtain ⟨rfl, rfl, rfl⟩ := hcs
    exact ⟨none, 0, 0, [], rfl, Bs.nil_ _ _ _, Nat.le_refl _, by omega⟩
  · simp [Value.cells] at hcs
    obtain ⟨rfl, rfl, rfl⟩ := hcs
    have hz' : zs.length = c := by simpa using hz
    refine ⟨_, n, c, (toOcts zs).take n, rfl, ⟨by simp [toOcts]; omega, fun hn => ?_⟩, hl, by unfold maxLen at hm; omega⟩
    obtain ⟨b, off, spot⟩ := x
    have h0 := hcell 0 (by omega)
    have hspot : spot = none := by simpa [Addr.add] using World.cell?_spot h0
    subst hspot
    have hadd : ∀ i, (⟨b, off, none⟩ : Addr).add i = ⟨b, off + i, none⟩ := fun i => by unfold Addr.add; split <;> simp_all
    refine ⟨b, off, rfl, ?_, fun i hi => ?_⟩
    · rcases Nat.lt_or_ge b W.heap.size with h' | h'
      · exact h'
      · rw [hadd] at h0; simp [World.cell?, Array.getElem?_eq_none h'] at h0
    · rw [← hadd, hcell i (by omega), toOcts_get zs hwz n i hi (by omega)]
end
end Go.Proofs.Ytkkbncgnobaliaa
