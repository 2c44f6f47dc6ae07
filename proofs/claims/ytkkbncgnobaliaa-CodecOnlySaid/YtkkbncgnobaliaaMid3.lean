/-
  A REGION THAT DRAWS ITS ORDER WITH TWO CALLS, ONE BEHIND THE OTHER, AND READS BETWEEN. No program in sight.
-/
import Derived.Test.YtkkbncgnobaliaaMid
namespace Go.Proofs.Ytkkbncgnobaliaa
open Go Go.RowKit
section
variable {P : Program} {QQ : Exit → Act → World → Prop}
def mid3B (ops : Array Oper) (is : List Nat) (i0 : Nat) (js : List Nat) (i1 : Nat) (ks : List Nat) : Bool :=
  let l1 := afterB is (Array.replicate ops.size false)
  let l2 := afterB js (l1.setIfInBounds i0 true)
  let l3 := afterB ks (l2.setIfInBounds i1 true)
  Region.noSelect ops && takesB .any ops is (Array.replicate ops.size false) && (Region.ready .any ops l1 == [i0]) && takesB .any ops js (l1.setIfInBounds i0 true) &&
    (Region.ready .any ops l2 == [i1]) && takesB .any ops ks (l2.setIfInBounds i1 true) && (Region.ready .any ops l3 == []) && (ks.length + 1 + js.length + 1 + is.length == ops.size)
theorem wp_region_mid3 {id : Nat} {a : Act} {w : World} {l : List Oper} (is : List Nat) (i0 : Nat) (js : List Nat) (i1 : Nat) (ks : List Nat) (o0 o1 : Oper) (ho0 : l.toArray[i0]? = some o0) (ho1 : l.toArray[i1]? = some o1) (hm : P.follows .mixedOrders = true) (hB : mid3B l.toArray is i0 js i1 ks = true)
    (hQ : ∀ c a d v w, QQ (.panic c) (Act.put a d v) w → QQ (.panic c) a w)
    (h : TK P l.toArray (fun w' => ∃ p : Bel w, w' = p.now) (fun a1 => ∀ K : Act → World → Prop, (∀ a2 w2, Below w.heap.size w w2 → TK P l.toArray (fun w' => ∃ p : Bel w2, w' = p.now) (fun a3 => ∀ K2 : Act → World → Prop,
        (∀ a4 w4, Below w2.heap.size w2 w4 → TK P l.toArray (fun w' => w' = w4) (fun a5 => QQ .normal a5 w4) ks a4 → K2 a4 w4) →
        if Region.wanted o1 (yielded l.toArray a3.tmps) = true then Oper.wp P o1 a3 w2 K2 QQ else K2 (a3.put o1.dst undef) w2) js a2 → K a2 w2) →
      if Region.wanted o0 (yielded l.toArray a1.tmps) = true then Oper.wp P o0 a1 w.drew K QQ else K (a1.put o0.dst undef) w.drew) is a) :
    (Code.region id l.toArray true).wp P QQ a w := by
  simp only [mid3B, Bool.and_eq_true, beq_iff_eq] at hB
  obtain ⟨⟨⟨⟨⟨⟨⟨hs, h1⟩, h2⟩, h3⟩, h2'⟩, h3'⟩, h4⟩, h5⟩ := hB
  refine wp_region_held (S := fun w' => ∃ p : Bel w, w' = p.now) hm ?_
  have hC : ∃ p : Bel w, w.drew = p.now := ⟨⟨w.drew, (Below.refl _ _).drew⟩, rfl⟩
  generalize Array.replicate l.toArray.size false = L at h1 h2 h3 h2' h3' h4 ⊢
  rw [← h5]
  refine takes (Q := _) hs hQ hC is _ a h1 h.out ?_
  intro a1 ha1
  refine wpAnyH_all h2 (by simp) fun i hi => ?_
  obtain rfl : i = i0 := by simpa using hi
  refine wpOp_step ho0 (fun K' hK' => ?_)
  refine ha1 K' fun a2 w2 hb2 hnext => hK' a2 w2 ⟨⟨⟨w2, hb2⟩, rfl⟩, ?_⟩
  refine wpAnyH_sub (S' := fun w' => ∃ p : Bel w2, w' = p.now) (fun w' e => by obtain ⟨p, rfl⟩ := e; exact ⟨⟨p.now, hb2.trans (p.bel.mono hb2.size)⟩, rfl⟩) _ _ _ _ ?_
  refine takes (Q := _) hs hQ (C := fun w' => ∃ p : Bel w2, w' = p.now) (w := w2) ⟨⟨w2, Below.refl _ _⟩, rfl⟩ js _ a2 h3 hnext.out ?_
  intro a3 ha3
  refine wpAnyH_all h2' (by simp) fun j hj => ?_
  obtain rfl : j = i1 := by simpa using hj
  refine wpOp_step ho1 (fun K2 hK2 => ?_)
  refine ha3 K2 fun a4 w4 hb4 ht => hK2 a4 w4 ⟨⟨⟨w4, hb4⟩, rfl⟩, ?_⟩
  refine wpAnyH_sub (S' := fun w' => w' = w4) (fun w' e => ⟨⟨w4, hb4⟩, e⟩) _ _ _ _ ?_
  have := takes (P := P) (md := .any) (QQ := QQ) (fuel := 0) hs hQ (C := fun w' => w' = w4) (w := w4) rfl ks _ a4 h3' ht.out (fun a' ha' => ⟨h4, ha'⟩)
  simpa using this
end
end Go.Proofs.Ytkkbncgnobaliaa
