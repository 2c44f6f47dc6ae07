/-
  A REGION THAT DRAWS ITS ORDER: reads first ('is', in the order that the proof names, each of them the same in all worlds of the class C); then a chain of operations, each of them the only one that may come up. No program in sight.
-/
import Derived.Test.YtkkbncgnobaliaaMid
namespace Go.Proofs.Ytkkbncgnobaliaa
open Go Go.RowKit
/-- Operations run one behind the other, each from the world at hand. -/
def ch (P : Program) (ops : Array Oper) (C : World → Prop) (QQ : Exit → Act → World → Prop) : List Nat → Act → World → Prop
  | [], a, w => QQ .normal a w
  | i :: js, a, w => ∃ o, ops[i]? = some o ∧ ∀ K : Act → World → Prop, (∀ a' w', C w' → ch P ops C QQ js a' w' → K a' w') → if Region.wanted o (yielded ops a.tmps) = true then Oper.wp P o a w K QQ else K (a.put o.dst undef) w
/-- .. behind a wall. -/
structure CH (P : Program) (ops : Array Oper) (C : World → Prop) (QQ : Exit → Act → World → Prop) (js : List Nat) (a : Act) (w : World) : Prop where
  out : ch P ops C QQ js a w
section
variable {P : Program} {ops : Array Oper} {C : World → Prop} {QQ : Exit → Act → World → Prop}
theorem CH.nil_ {a : Act} {w : World} (h : QQ .normal a w) : CH P ops C QQ [] a w := ⟨h⟩
theorem CH.step {i : Nat} {js : List Nat} {o : Oper} {a : Act} {w : World} (ho : ops[i]? = some o)
    (h : ∀ K : Act → World → Prop, (∀ a' w', C w' → CH P ops C QQ js a' w' → K a' w') → if Region.wanted o (yielded ops a.tmps) = true then Oper.wp P o a w K QQ else K (a.put o.dst undef) w) : CH P ops C QQ (i :: js) a w :=
  ⟨⟨o, ho, fun K hK => h K fun a' w' hc hch => hK a' w' hc hch.out⟩⟩
def chainB (ops : Array Oper) : List Nat → Array Bool → Bool
  | [], listed => Region.ready .any ops listed == []
  | j :: js, listed => (Region.ready .any ops listed == [j]) && chainB ops js (listed.setIfInBounds j true)
theorem chain_run : ∀ (js : List Nat) (listed : Array Bool) (a : Act) (w : World), chainB ops js listed = true → ch P ops C QQ js a w → wpAnyH P .any ops QQ C js.length listed a w
  | [], listed, a, w, hB, h => ⟨by simpa [chainB] using hB, h⟩
  | j :: js, listed, a, w, hB, h => by
    simp only [chainB, Bool.and_eq_true, beq_iff_eq] at hB
    obtain ⟨o, ho, h⟩ := h
    refine wpAnyH_all hB.1 (by simp) fun i hi => ?_
    obtain rfl : i = j := by simpa using hi
    refine wpOp_step ho (fun K' hK' => ?_)
    exact h K' fun a' w' hc hch => hK' a' w' ⟨hc, chain_run js _ a' w' hB.2 hch⟩
theorem wp_region_chain {id : Nat} {a : Act} {w : World} {l : List Oper} (C : World → Prop) (hC : C w.drew) (is js : List Nat) (hm : P.follows .mixedOrders = true)
    (hB : (Region.noSelect l.toArray && takesB .any l.toArray is (Array.replicate l.toArray.size false) && chainB l.toArray js (afterB is (Array.replicate l.toArray.size false)) && (js.length + is.length == l.toArray.size)) = true)
    (hQ : ∀ c a d v w, QQ (.panic c) (Act.put a d v) w → QQ (.panic c) a w)
    (h : TK P l.toArray C (fun a1 => CH P l.toArray C QQ js a1 w.drew) is a) :
    (Code.region id l.toArray true).wp P QQ a w := by
  simp only [Bool.and_eq_true, beq_iff_eq] at hB
  obtain ⟨⟨⟨hs, h1⟩, h2⟩, h5⟩ := hB
  refine wp_region_held (S := C) hm ?_
  generalize Array.replicate l.toArray.size false = L at h1 h2 ⊢
  rw [← h5]
  exact takes (Q := _) hs hQ hC is _ a h1 h.out fun a1 ha1 => chain_run js _ a1 _ h2 ha1.out
end
end Go.Proofs.Ytkkbncgnobaliaa
