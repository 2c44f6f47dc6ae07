/-
  A REGION THAT DRAWS ITS ORDER, WHOSE OPERATIONS ONLY READ, AND WHOSE CALLEES MAY LAY BLOCKS OF THEIR OWN, WALKED ONCE: the kit's theorem on quiet regions at the class 'whatever lies beyond w, all that was there as it was' ('Below'). No program in sight.
-/
import Derived.Deep.QuietTactic
import Derived.Below
import Derived.Test.YtkkbncgnobaliaaMem
namespace Go.Proofs.Ytkkbncgnobaliaa
open Go Go.RowKit

/-- A world that agrees with w on all of w's blocks. -/
structure Bel (w : World) where
  now : World
  bel : Below w.heap.size w now

instance (w : World) : Inhabited (Bel w) := ⟨⟨w, Below.refl _ _⟩⟩

/-- 'wpQuiet' behind a wall: Lean's look for a head form stops here (at an operation that is not wanted it would run on through all that follow). -/
structure WQ (P : Program) (ops : Array Oper) (C : World → Prop) (Q : Act → Prop) (l : List Oper) (a : Act) : Prop where
  out : wpQuiet P ops C Q l a
theorem WQ.step {P : Program} {ops : Array Oper} {C : World → Prop} {Q : Act → Prop} {o : Oper} {rest : List Oper} {a : Act}
    (h : ∀ K : Act → Prop, (∀ a, WQ P ops C Q rest a → K a) → if Region.wanted o (yielded ops a.tmps) then o.quiet P a C K else K (a.put o.dst undef)) : WQ P ops C Q (o :: rest) a :=
  ⟨wpQuiet_step fun K hK => h K fun a h' => hK a h'.out⟩
theorem WQ.nil_ {P : Program} {ops : Array Oper} {C : World → Prop} {Q : Act → Prop} {a : Act} (h : Q a) : WQ P ops C Q [] a := ⟨h⟩
theorem wp_region_bel {P : Program} {id : Nat} {Q : Exit → Act → World → Prop} {a : Act} {w : World} {l : List Oper} (hm : P.follows .mixedOrders = true) (hB : Region.lexB .any l.toArray = true)
    (h : WQ P l.toArray (fun w' => ∃ p : Bel w, w' = p.now) (fun a' => ∀ w', (∃ p : Bel w, w' = p.now) → Q .normal a' w') l a) : (Code.region id l.toArray true).wp P Q a w :=
  wp_region_quiet (C := fun w' => ∃ p : Bel w, w' = p.now) hm hB ⟨⟨w.drew, (Below.refl _ _).drew⟩, rfl⟩ (by simpa using h.out)

theorem Bel.cell {w : World} {a : Addr} {v : Value} (p : Bel w) (hb : a.block < w.heap.size) (h : w.cell? a = some v) : p.now.cell? a = some v := (p.bel.cell hb).trans h
theorem Bel.blk {w : World} {g : Nat} {t : TypeId} {cs : Array Value} (p : Bel w) (h : Blk w g t cs) : Blk p.now g t cs := h.below p.bel h.lt
theorem Bel.cells {w : World} {g : Nat} {t : TypeId} {cs : Array Value} (h : Blk w g t cs) (i : Nat) : ∀ p : Bel w, p.now.cell? ⟨g, i, none⟩ = cs[i]? := fun p => (p.blk h).cell i

/-- A callee's contract, met in a world of the class. -/
theorem Calls.bel_of {P : Program} {f : FuncId} {args : Array Value} {w : World} {p : Bel w} {v : Value}
    (h : Calls P f args p.now fun e w' => e = .returned v ∧ Below p.now.heap.size p.now w') : Calls P f args p.now fun e w'' => e = .returned v ∧ ∃ q : Bel w, w'' = q.now :=
  h.mono fun _ _ ⟨he, hb⟩ => ⟨he, ⟨_, p.bel.trans (hb.mono p.bel.size)⟩, rfl⟩
theorem Calls.bel_of_same {P : Program} {f : FuncId} {args : Array Value} {w : World} {p : Bel w} {v : Value}
    (h : Calls P f args p.now fun e w' => e = .returned v ∧ p.now = w') : Calls P f args p.now fun e w'' => e = .returned v ∧ ∃ q : Bel w, w'' = q.now :=
  h.mono fun _ _ ⟨he, hb⟩ => ⟨he, p, hb.symm⟩
end Go.Proofs.Ytkkbncgnobaliaa
