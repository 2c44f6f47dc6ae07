/-
  A REGION THAT DRAWS ITS ORDER, ONE OF WHOSE OPERATIONS (number i0) CHANGES THE WORLD AND WHOSE RESULT HANGS ON IT; all others only read. Those that do not wait for it are taken first, in the order that the proof names, then it, then the others. No program in sight.
-/
import Derived.Test.YtkkbncgnobaliaaBel
import Derived.OrdersHeld
import Derived.Deep.RegionHeld
namespace Go.Proofs.Ytkkbncgnobaliaa
open Go Go.RowKit
def holdUpon (w : World) (v : Value) : Result Next → Prop
  | .ok (.value u) w' => w' = w ∧ u = v
  | _ => False
def holdAt (P : Program) (o : Oper) (a : Act) (w : World) (v : Value) : Prop := holdUpon w v ((execOp a.eval o).run P w)
/-- One value, in every world of the class, the world left as it is. -/
def holdOp (P : Program) (o : Oper) (a : Act) (C : World → Prop) (next : Act → Prop) : Prop := ∃ v, (∀ w, C w → holdAt P o a w v) ∧ next (a.put o.dst v)
attribute [go_sem] holdOp holdAt holdUpon
theorem holdAt_run {P : Program} {o : Oper} {a : Act} {w : World} {v : Value} (h : holdAt P o a w v) : (execOp a.eval o).run P w = .ok (.value v) w := by
  unfold holdAt at h
  generalize (execOp a.eval o).run P w = r at h
  cases r with
  | ok n w' => cases n <;> simp only [holdUpon] at h; obtain ⟨rfl, rfl⟩ := h; rfl
  | halt x w' => simp only [holdUpon] at h
theorem holdOp_mono {P : Program} {o : Oper} {a : Act} {C : World → Prop} {K K' : Act → Prop} (h : ∀ a, K a → K' a) (hh : holdOp P o a C K) : holdOp P o a C K' := by
  obtain ⟨v, h1, h2⟩ := hh
  exact ⟨v, h1, h _ h2⟩
/-- Operations taken one by one. -/
def tk (P : Program) (ops : Array Oper) (C : World → Prop) (Q : Act → Prop) : List Nat → Act → Prop
  | [], a => Q a
  | i :: js, a => ∃ o, ops[i]? = some o ∧ (if Region.wanted o (yielded ops a.tmps) then holdOp P o a C (tk P ops C Q js) else tk P ops C Q js (a.put o.dst undef))
/-- .. behind a wall. -/
structure TK (P : Program) (ops : Array Oper) (C : World → Prop) (Q : Act → Prop) (is : List Nat) (a : Act) : Prop where
  out : tk P ops C Q is a
section
variable {P : Program} {ops : Array Oper} {C S : World → Prop} {Q : Act → Prop} {md : Region.Mode} {QQ : Exit → Act → World → Prop}
theorem TK.nil_ {a : Act} (h : Q a) : TK P ops C Q [] a := ⟨h⟩
theorem TK.step {i : Nat} {js : List Nat} {o : Oper} {a : Act} (ho : ops[i]? = some o)
    (h : ∀ K : Act → Prop, (∀ a, TK P ops C Q js a → K a) → if Region.wanted o (yielded ops a.tmps) then holdOp P o a C K else K (a.put o.dst undef)) : TK P ops C Q (i :: js) a :=
  ⟨⟨o, ho, h _ fun _ hK => hK.out⟩⟩
/-- May they be taken in this order? -/
def takesB (md : Region.Mode) (ops : Array Oper) : List Nat → Array Bool → Bool
  | [], _ => true
  | i :: is, listed => Region.free md ops listed i && (Region.ready md ops listed).contains i && takesB md ops is (listed.setIfInBounds i true)
def afterB : List Nat → Array Bool → Array Bool
  | [], listed => listed
  | i :: is, listed => afterB is (listed.setIfInBounds i true)
theorem takes (hs : Region.noSelect ops = true) (hQ : ∀ c a d v w, QQ (.panic c) (Act.put a d v) w → QQ (.panic c) a w) {w : World} (hC : C w) {fuel : Nat} : ∀ (is : List Nat) (listed : Array Bool) (a : Act), takesB md ops is listed = true →
    tk P ops C Q is a → (∀ a', Q a' → wpAnyH P md ops QQ C fuel (afterB is listed) a' w) → wpAnyH P md ops QQ C (fuel + is.length) listed a w
  | [], listed, a, _, h, hk => hk a h
  | i :: is, listed, a, hB, h, hk => by
    simp only [takesB, Bool.and_eq_true] at hB
    obtain ⟨⟨hf, hr⟩, hB'⟩ := hB
    obtain ⟨o, ho, h⟩ := h
    rw [List.length_cons, ← Nat.add_assoc]
    by_cases hw : Region.wanted o (yielded ops a.tmps) = true
    · rw [if_pos hw] at h
      obtain ⟨v, h1, h2⟩ := h
      exact wpAnyH_take ho hs hf hr (fun c a w => hQ c a _ _ w) (.inl ⟨hw, fun w hw => holdAt_run (h1 w hw)⟩) hC (takes hs hQ hC is _ _ hB' h2 hk)
    · rw [if_neg hw] at h
      exact wpAnyH_take ho hs hf hr (fun c a w => hQ c a _ _ w) (.inr ⟨by simpa using hw, rfl⟩) hC (takes hs hQ hC is _ _ hB' h hk)
theorem wpAnyH_sub {S' : World → Prop} (hS : ∀ w, S' w → S w) : ∀ (fuel : Nat) (listed : Array Bool) (a : Act) (w : World), wpAnyH P md ops QQ S' fuel listed a w → wpAnyH P md ops QQ S fuel listed a w
  | 0, _, _, _, h => h
  | fuel + 1, _, _, _, h => ⟨h.1, fun i hi => wpOp_mono (fun a' w' h' => ⟨hS _ h'.1, wpAnyH_sub hS fuel _ a' w' h'.2⟩) (h.2 i hi)⟩
def midB (ops : Array Oper) (is : List Nat) (i0 : Nat) (js : List Nat) : Bool :=
  Region.noSelect ops && takesB .any ops is (Array.replicate ops.size false) && (Region.ready .any ops (afterB is (Array.replicate ops.size false)) == [i0]) &&
    takesB .any ops js ((afterB is (Array.replicate ops.size false)).setIfInBounds i0 true) && (Region.ready .any ops (afterB js ((afterB is (Array.replicate ops.size false)).setIfInBounds i0 true)) == []) && (js.length + 1 + is.length == ops.size)
/-- ONE OPERATION IN THE MIDDLE. -/
theorem wp_region_mid {id : Nat} {a : Act} {w : World} {l : List Oper} (is : List Nat) (i0 : Nat) (js : List Nat) (o0 : Oper) (ho0 : l.toArray[i0]? = some o0) (hm : P.follows .mixedOrders = true) (hB : midB l.toArray is i0 js = true)
    (hQ : ∀ c a d v w, QQ (.panic c) (Act.put a d v) w → QQ (.panic c) a w)
    (h : TK P l.toArray (fun w' => ∃ p : Bel w, w' = p.now) (fun a1 => ∀ K : Act → World → Prop, (∀ a2 w2, Below w.heap.size w w2 → TK P l.toArray (fun w' => w' = w2) (fun a3 => QQ .normal a3 w2) js a2 → K a2 w2) →
      if Region.wanted o0 (yielded l.toArray a1.tmps) = true then Oper.wp P o0 a1 w.drew K QQ else K (a1.put o0.dst undef) w.drew) is a) :
    (Code.region id l.toArray true).wp P QQ a w := by
  simp only [midB, Bool.and_eq_true, beq_iff_eq] at hB
  obtain ⟨⟨⟨⟨⟨hs, h1⟩, h2⟩, h3⟩, h4⟩, h5⟩ := hB
  refine wp_region_held (S := fun w' => ∃ p : Bel w, w' = p.now) hm ?_
  have hC : ∃ p : Bel w, w.drew = p.now := ⟨⟨w.drew, (Below.refl _ _).drew⟩, rfl⟩
  generalize Array.replicate l.toArray.size false = L at h1 h2 h3 h4 ⊢
  rw [← h5]
  refine takes (Q := _) hs hQ hC is _ a h1 h.out ?_
  intro a1 ha1
  refine wpAnyH_all h2 (by simp) fun i hi => ?_
  obtain rfl : i = i0 := by simpa using hi
  refine wpOp_step ho0 (fun K' hK' => ?_)
  refine ha1 K' fun a2 w2 hb2 ht => hK' a2 w2 ⟨⟨⟨w2, hb2⟩, rfl⟩, ?_⟩
  refine wpAnyH_sub (S' := fun w' => w' = w2) (fun w' e => ⟨⟨w2, hb2⟩, e⟩) _ _ _ _ ?_
  have := takes (P := P) (md := .any) (QQ := QQ) (fuel := 0) hs hQ (C := fun w' => w' = w2) (w := w2) rfl js _ a2 h3 ht.out (fun a' ha' => ⟨h4, ha'⟩)
  simpa using this
end
end Go.Proofs.Ytkkbncgnobaliaa
