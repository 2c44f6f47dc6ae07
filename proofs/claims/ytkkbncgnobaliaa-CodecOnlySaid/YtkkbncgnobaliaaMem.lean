/-
  WORDS FOR MEMORY: a block known whole ('Whole1'); a slice whose cells are told by a function of the place ('Sl'); how they are carried. No program in sight.
-/
import Derived.Below
import Derived.Laws.OwnMore
import Derived.Laws.Rows
import Derived.Deep.Draws
namespace Go.Proofs.Ytkkbncgnobaliaa
open Go.RowKit

/-- Block g is just these cells, none frozen. -/
def Blk (w : World) (g : Nat) (t : TypeId) (cs : Array Value) : Prop := w.heap[g]? = some (.cells cs t (0, 0))

section
variable {w w' : World} {g : Nat} {t : TypeId} {cs : Array Value}
theorem Blk.lt (h : Blk w g t cs) : g < w.heap.size := (Array.getElem?_eq_some_iff.1 h).1
theorem Blk.cell (h : Blk w g t cs) (i : Nat) : w.cell? ⟨g, i, none⟩ = cs[i]? := cell_of_row w g i cs t (0, 0) h
theorem Blk.frozen (h : Blk w g t cs) (i : Nat) : w.frozen? ⟨g, i, none⟩ = false := by
  have h' : w.heap[g]? = some (.cells cs t (0, 0)) := h
  simp [World.frozen?, h']
theorem Blk.new (w : World) (t : TypeId) (cs : Array Value) : Blk (w.alloc (.cells cs t)) w.heap.size t cs := heap_alloc_new w _
theorem Blk.drew (h : Blk w g t cs) : Blk w.drew g t cs := h
theorem Blk.drewN (h : Blk w g t cs) (n : Nat) : Blk (w.drewN n) g t cs := h
theorem Blk.alloc (h : Blk w g t cs) (o : Obj) : Blk (w.alloc o) g t cs := (heap_alloc_old w o g h.lt).trans h
theorem Blk.put (h : Blk w g t cs) (i : Nat) (u : Value) : Blk (w.setCell ⟨g, i, none⟩ u) g t (cs.setIfInBounds i u) := by
  have h' : w.heap[g]? = some (.cells cs t (0, 0)) := h
  simp [Blk, World.setCell, Array.getElem?_modify, h']
theorem Blk.away (h : Blk w g t cs) {p : Addr} (hp : g ≠ p.block) (u : Value) : Blk (w.setCell p u) g t cs := (Below.heap_setCell w p u g hp).trans h
theorem Blk.below {B : Nat} (h : Blk w g t cs) (hb : Below B w w') (hg : g < B) : Blk w' g t cs := (hb.block g hg).trans h
theorem Blk.grown {row : Option Nat} (h : Blk w g t cs) (hb : w.grownBy w' row) (hg : some g ≠ row) : Blk w' g t cs := (hb.block g h.lt hg).trans h
theorem Blk.setRow (h : Blk w g t cs) (cs' : Array Value) : Blk (w.setRow g cs') g t cs' := setRow_heap w g cs cs' t (0, 0) h
theorem Blk.setRow_away (h : Blk w g t cs) {g' : Nat} (hne : g ≠ g') (cs' : Array Value) : Blk (w.setRow g' cs') g t cs := by
  have h' : w.heap[g]? = some (.cells cs t (0, 0)) := h
  simp [Blk, World.setRow, Array.getElem?_modify, Ne.symm hne, h']
end
theorem below_setRow {B : Nat} {a w : World} (h : Below B a w) {g : Nat} (hg : B ≤ g) (cs : Array Value) : Below B a (w.setRow g cs) :=
  h.trans ⟨rfl, rfl, rfl, by simp [World.setRow], fun k hk => by
    simp only [World.setRow, Array.getElem?_modify]
    rw [if_neg (by omega)]⟩
theorem below_drewN {B : Nat} {a w : World} (h : Below B a w) (n : Nat) : Below B a (w.drewN n) := ⟨h.os, h.tape, h.output, h.size, h.block⟩

/-- A slice's n cells, told by their places; it lies below block B. Nil where n is 0 is let in. -/
def Sl (w : World) (B : Nat) (A : Option Addr) (n : Nat) (V : Nat → Value) : Prop :=
  0 < n → ∃ b off, A = some ⟨b, off, none⟩ ∧ b < B ∧ ∀ i, i < n → w.cell? ⟨b, off + i, none⟩ = some (V i)

section
variable {w w' : World} {B B' n : Nat} {A : Option Addr} {V : Nat → Value}
theorem Sl.zero (w : World) (B : Nat) (A : Option Addr) (V : Nat → Value) : Sl w B A 0 V := fun h => absurd h (by omega)
theorem Sl.keep (h : Sl w B A n V) (hk : ∀ b o, b < B → w'.cell? ⟨b, o, none⟩ = w.cell? ⟨b, o, none⟩) : Sl w' B A n V := fun hn => by
  obtain ⟨b, off, e, hb, hc⟩ := h hn
  exact ⟨b, off, e, hb, fun i hi => (hk b _ hb).trans (hc i hi)⟩
theorem Sl.below (h : Sl w B A n V) (hb : Below B w w') : Sl w' B A n V := h.keep fun _ _ hp => hb.cell hp
theorem Sl.more (h : Sl w B A n V) (hB : B ≤ B') : Sl w B' A n V := fun hn => by
  obtain ⟨b, off, e, hb, hc⟩ := h hn
  exact ⟨b, off, e, by omega, hc⟩
theorem Sl.drew (h : Sl w B A n V) : Sl w.drew B A n V := h
theorem Sl.drewN (h : Sl w B A n V) (k : Nat) : Sl (w.drewN k) B A n V := h
theorem Sl.alloc (h : Sl w B A n V) (hB : B ≤ w.heap.size) (o : Obj) : Sl (w.alloc o) B A n V := h.keep fun b o' hp => World.cell?_alloc_lt w o ⟨b, o', none⟩ (by exact Nat.lt_of_lt_of_le hp hB)
theorem Sl.setCell (h : Sl w B A n V) {p : Addr} (hB : B ≤ p.block) (u : Value) : Sl (w.setCell p u) B A n V :=
  h.keep fun b o hp => World.cell?_setCell_other w p ⟨b, o, none⟩ u (fun e => by subst e; simp at hB; omega)
theorem Sl.grown (h : Sl w B A n V) {row : Option Nat} (hg : w.grownBy w' row) (hB : B ≤ w.heap.size) (hr : ∀ g, row = some g → B ≤ g) : Sl w' B A n V :=
  h.keep fun b o hp => World.cell?_of_block (hg.block b (by omega) (fun e => by have := hr _ e.symm; omega))
theorem Sl.congr {V' : Nat → Value} (h : Sl w B A n V) (e : ∀ i, i < n → V i = V' i) : Sl w B A n V' := fun hn => by
  obtain ⟨b, off, ea, hb, hc⟩ := h hn
  exact ⟨b, off, ea, hb, fun i hi => (hc i hi).trans (by rw [e i hi])⟩
end

/-- What an octet is in memory. -/
def octs (l : List UInt8) : Nat → Value := fun i => .int .u8 ((l.getD i 0).toNat : Int)
/-- A slice of octets. -/
structure Bs (w : World) (B : Nat) (A : Option Addr) (n : Nat) (l : List UInt8) : Prop where
  len : l.length = n
  sl : Sl w B A n (octs l)
section
variable {w w' : World} {B B' n : Nat} {A : Option Addr} {l : List UInt8}
theorem Bs.nil_ (w : World) (B : Nat) (A : Option Addr) : Bs w B A 0 [] := ⟨rfl, Sl.zero _ _ _ _⟩
theorem Bs.below (h : Bs w B A n l) (hb : Below B w w') : Bs w' B A n l := ⟨h.len, h.sl.below hb⟩
theorem Bs.more (h : Bs w B A n l) (hB : B ≤ B') : Bs w B' A n l := ⟨h.len, h.sl.more hB⟩
theorem Bs.keep (h : Bs w B A n l) (hk : ∀ b o, b < B → w'.cell? ⟨b, o, none⟩ = w.cell? ⟨b, o, none⟩) : Bs w' B A n l := ⟨h.len, h.sl.keep hk⟩
theorem Bs.drew (h : Bs w B A n l) : Bs w.drew B A n l := ⟨h.len, h.sl⟩
theorem Bs.drewN (h : Bs w B A n l) (k : Nat) : Bs (w.drewN k) B A n l := ⟨h.len, h.sl⟩
theorem Bs.now {w1 W : World} (h : Bs w1 w1.heap.size A n l) (hb : Below w1.heap.size w1 W) : Bs W W.heap.size A n l := ⟨h.len, (h.sl.below hb).more hb.size⟩
theorem Bs.at_ {k : Nat} (h : Bs w B A n l) (hk : k < n) : ∃ b off, A = some ⟨b, off, none⟩ ∧ b < B ∧ w.cell? ⟨b, off + k, none⟩ = some (.int .u8 ((l.getD k 0).toNat : Int)) := by
  obtain ⟨b, off, e, hb, hc⟩ := h.sl (by omega)
  exact ⟨b, off, e, hb, hc k hk⟩
end

/-- A slice literal of octets, just made. -/
theorem Bs.fresh (w : World) (t : TypeId) (cs : Array Value) (fr : Nat × Nat) (l : List UInt8) (n : Nat) (hn : l.length = n) (h : cs.toList = l.map fun x => .int .u8 (x.toNat : Int)) : Bs (w.alloc (.cells cs t fr)) (w.alloc (.cells cs t fr)).heap.size (some ⟨w.heap.size, 0, none⟩) n l := by
  subst hn
  refine ⟨rfl, fun _ => ⟨w.heap.size, 0, rfl, by simp, fun i hi => ?_⟩⟩
  rw [Nat.zero_add, cell_of_row _ _ i cs t fr (heap_alloc_new w _), ← Array.getElem?_toList, h]
  simp [octs, hi]
end Go.Proofs.Ytkkbncgnobaliaa
