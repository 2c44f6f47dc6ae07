/-
  ROWS OF THE CALL's OWN whose elements are one cell, or two; appended to one by one; and slices of two-cell elements told by their places ('Q2'). No program in sight.
-/
import Derived.Test.YtkkbncgnobaliaaApp
import Derived.OneCell
namespace Go.Proofs.Ytkkbncgnobaliaa
open Go.RowKit
/-- A slice of n elements of two cells each, told by their places; it lies below block B. -/
def Q2 (w : World) (B : Nat) (A : Option Addr) (n : Nat) (V0 V1 : Nat → Value) : Prop :=
  0 < n → ∃ b off, A = some ⟨b, off, none⟩ ∧ b < B ∧ ∀ i, i < n → w.cell? ⟨b, off + i * 2, none⟩ = some (V0 i) ∧ w.cell? ⟨b, off + i * 2 + 1, none⟩ = some (V1 i)
section
variable {w w' : World} {B B' n : Nat} {A : Option Addr} {V0 V1 : Nat → Value}
theorem Q2.zero (w : World) (B : Nat) (A : Option Addr) (V0 V1 : Nat → Value) : Q2 w B A 0 V0 V1 := fun h => absurd h (by omega)
theorem Q2.keep (h : Q2 w B A n V0 V1) (hk : ∀ b o, b < B → w'.cell? ⟨b, o, none⟩ = w.cell? ⟨b, o, none⟩) : Q2 w' B A n V0 V1 := fun hn => by
  obtain ⟨b, off, e, hb, hc⟩ := h hn
  exact ⟨b, off, e, hb, fun i hi => ⟨(hk b _ hb).trans (hc i hi).1, (hk b _ hb).trans (hc i hi).2⟩⟩
theorem Q2.below (h : Q2 w B A n V0 V1) (hb : Below B w w') : Q2 w' B A n V0 V1 := h.keep fun _ _ hp => hb.cell hp
theorem Q2.more (h : Q2 w B A n V0 V1) (hB : B ≤ B') : Q2 w B' A n V0 V1 := fun hn => by
  obtain ⟨b, off, e, hb, hc⟩ := h hn
  exact ⟨b, off, e, by omega, hc⟩
theorem Q2.now {w1 W : World} (h : Q2 w1 w1.heap.size A n V0 V1) (hb : Below w1.heap.size w1 W) : Q2 W W.heap.size A n V0 V1 := (h.below hb).more hb.size
theorem Q2.drew (h : Q2 w B A n V0 V1) : Q2 w.drew B A n V0 V1 := h
theorem Q2.alloc (h : Q2 w B A n V0 V1) (hB : B ≤ w.heap.size) (o : Obj) : Q2 (w.alloc o) B A n V0 V1 := h.keep fun b o' hp => World.cell?_alloc_lt w o ⟨b, o', none⟩ (by exact Nat.lt_of_lt_of_le hp hB)
theorem Q2.setCell (h : Q2 w B A n V0 V1) {p : Addr} (hB : B ≤ p.block) (u : Value) : Q2 (w.setCell p u) B A n V0 V1 :=
  h.keep fun b o hp => World.cell?_setCell_other w p ⟨b, o, none⟩ u (fun e => by subst e; simp at hB; omega)
theorem Q2.grown (h : Q2 w B A n V0 V1) {row : Option Nat} (hg : w.grownBy w' row) (hB : B ≤ w.heap.size) (hr : ∀ g, row = some g → B ≤ g) : Q2 w' B A n V0 V1 :=
  h.keep fun b o hp => World.cell?_of_block (hg.block b (by omega) (fun e => by have := hr _ e.symm; omega))
theorem Q2.take (h : Q2 w B A n V0 V1) {m : Nat} (hm : m ≤ n) : Q2 w B A m V0 V1 := fun hn => by
  obtain ⟨b, off, e, hb, hc⟩ := h (by omega)
  exact ⟨b, off, e, hb, fun i hi => hc i (by omega)⟩
theorem Q2.congr {U0 U1 : Nat → Value} (h : Q2 w B A n V0 V1) (e0 : ∀ i, i < n → V0 i = U0 i) (e1 : ∀ i, i < n → V1 i = U1 i) : Q2 w B A n U0 U1 := fun hn => by
  obtain ⟨b, off, e, hb, hc⟩ := h hn
  exact ⟨b, off, e, hb, fun i hi => ⟨by rw [(hc i hi).1, e0 i hi], by rw [(hc i hi).2, e1 i hi]⟩⟩
theorem Q2.none_ (h : Q2 w B none n V0 V1) : n = 0 := by
  rcases Nat.eq_zero_or_pos n with e | e
  · exact e
  · obtain ⟨_, _, e, _⟩ := h e; cases e
end
theorem Sl.take {w : World} {B n : Nat} {A : Option Addr} {V : Nat → Value} (h : Sl w B A n V) {m : Nat} (hm : m ≤ n) : Sl w B A m V := fun hn => by
  obtain ⟨b, off, e, hb, hc⟩ := h (by omega)
  exact ⟨b, off, e, hb, fun i hi => hc i (by omega)⟩
theorem Sl.now {w1 W : World} {A : Option Addr} {n : Nat} {V : Nat → Value} (h : Sl w1 w1.heap.size A n V) (hb : Below w1.heap.size w1 W) : Sl W W.heap.size A n V := (h.below hb).more hb.size

/-- two cells an element -/
def two {α : Type} (f : α → Value × Value) (l : List α) : List Value := l.flatMap fun x => [(f x).1, (f x).2]
section
variable {α : Type} {f : α → Value × Value}
theorem two_len (l : List α) : (two f l).length = l.length * 2 := by
  unfold two; induction l with
  | nil => rfl
  | cons x l ih => rw [List.flatMap_cons, List.length_append, ih]; simp; omega
theorem two_append (l m : List α) : two f (l ++ m) = two f l ++ two f m := by unfold two; rw [List.flatMap_append]
theorem two_get : ∀ (l : List α) (i : Nat) (h : i < l.length), (two f l)[i * 2]? = some (f l[i]).1 ∧ (two f l)[i * 2 + 1]? = some (f l[i]).2
  | x :: l, 0, _ => by simp [two]
  | x :: l, i + 1, h => by
    have := two_get l i (by simpa using h)
    have e : two f (x :: l) = (f x).1 :: (f x).2 :: two f l := rfl
    rw [e, show (i + 1) * 2 = i * 2 + 1 + 1 by omega]
    simpa using this
end
/-- A slice of the call's own, nil or at the head of a row of its own from block 'base' on; two cells an element. -/
def Own2 {α : Type} (w : World) (base e : Nat) (f : α → Value × Value) (v : Value) (l : List α) : Prop := w.ownsRow base e 2 v l.length (two f l)
section
variable {α : Type} {w w' : World} {base e : Nat} {f : α → Value × Value} {v : Value} {l : List α}
theorem Own2.nil_ (w : World) (base e : Nat) (f : α → Value × Value) : Own2 w base e f (.slice none 0 0) [] := World.ownsRow_nil _ _ _ _
theorem Own2.form (h : Own2 w base e f v l) : (v = .slice none 0 0 ∧ l = []) ∨ ∃ g cap, v = .slice (some ⟨g, 0, none⟩) l.length cap ∧ base ≤ g ∧ g < w.heap.size ∧ l.length ≤ cap ∧ cap ≤ maxLen := by
  rcases h.2 with ⟨h1, h2⟩ | ⟨g, cap, cur, hv, hg, hh, hc, hm, _⟩
  · exact .inl ⟨h1, List.eq_nil_of_length_eq_zero h2⟩
  · exact .inr ⟨g, cap, hv, hg, (Array.getElem?_eq_some_iff.1 hh).1, hc, hm⟩
theorem Own2.q2 (h : Own2 w base e f v l) : ∃ A n cap, v = .slice A n cap ∧ n = l.length ∧ Q2 w w.heap.size A n (fun i => ((l[i]?).map f).getD (v, v) |>.1) (fun i => ((l[i]?).map f).getD (v, v) |>.2) ∧ n ≤ cap ∧ cap ≤ maxLen := by
  rcases h.form with ⟨rfl, rfl⟩ | ⟨g, cap, rfl, _, hlt, hc, hm⟩
  · exact ⟨none, 0, 0, rfl, rfl, Q2.zero _ _ _ _ _, Nat.le_refl _, Nat.zero_le _⟩
  · refine ⟨_, _, cap, rfl, rfl, fun _ => ⟨g, 0, rfl, hlt, fun i hi => ?_⟩, hc, hm⟩
    obtain ⟨a, b⟩ := two_get (f := f) l i hi
    have hadd : ∀ j, (⟨g, 0, none⟩ : Addr).add j = ⟨g, 0 + j, none⟩ := fun j => by unfold Addr.add; split <;> simp_all
    have c0 := World.ownsRow.cells h (g := g) rfl (i * 2) _ a
    have c1 := World.ownsRow.cells h (g := g) rfl (i * 2 + 1) _ b
    rw [hadd] at c0 c1
    simp only [List.getElem?_eq_getElem hi, Option.map_some, Option.getD_some]
    exact ⟨c0, by rw [Nat.add_assoc]; exact c1⟩
theorem Own2.less {base' : Nat} (h : Own2 w base e f v l) (hb : base' ≤ base) : Own2 w base' e f v l := by
  refine ⟨h.1, ?_⟩
  rcases h.2 with h1 | ⟨g, cap, cur, a, b, c⟩
  · exact .inl h1
  · exact .inr ⟨g, cap, cur, a, by omega, c⟩
theorem Own2.alloc (h : Own2 w base e f v l) (o : Obj) : Own2 (w.alloc o) base e f v l := World.ownsRow.alloc h o
theorem Own2.drew (h : Own2 w base e f v l) : Own2 w.drew base e f v l := h
theorem Own2.kept (h : Own2 w base e f v l) {row : Option Nat} (hg : w.grownBy w' row) (hne : v.ownBlock = none ∨ v.ownBlock ≠ row) : Own2 w' base e f v l := World.ownsRow.kept h hg hne
theorem Own2.below (h : Own2 w base e f v l) (hb : Below w.heap.size w w') : Own2 w' base e f v l :=
  World.ownsRow.kept (row := none) h ⟨hb.os, hb.tape, hb.output, hb.size, fun k hk _ => hb.block k hk⟩ (by
    rcases h.form with ⟨rfl, _⟩ | ⟨g, cap, rfl, _⟩
    · exact .inl rfl
    · exact .inr (by simp [Value.ownBlock]))
theorem Own2.setCell (h : Own2 w base e f v l) {a : Addr} (ha : v.ownBlock ≠ some a.block) (u : Value) : Own2 (w.setCell a u) base e f v l :=
  ownsRow_setCell_other h ha u
theorem Own2.base_le (h : Own2 w base e f v l) : ∀ k, v.ownBlock = some k → base ≤ k := fun k hk => (World.ownsRow.lt h k hk).1
theorem Own2.lt (h : Own2 w base e f v l) : ∀ k, v.ownBlock = some k → k < w.heap.size := fun k hk => (World.ownsRow.lt h k hk).2
end
/-- .. one cell an element. -/
def Own1 {α : Type} (w : World) (base e : Nat) (f : α → Value) (v : Value) (l : List α) : Prop := w.ownsRow base e 1 v l.length (l.map f)
section
variable {α : Type} {w w' : World} {base e : Nat} {f : α → Value} {v : Value} {l : List α}
theorem Own1.nil_ (w : World) (base e : Nat) (f : α → Value) : Own1 w base e f (.slice none 0 0) [] := World.ownsRow_nil _ _ _ _
theorem Own1.form (h : Own1 w base e f v l) : (v = .slice none 0 0 ∧ l = []) ∨ ∃ g cap, v = .slice (some ⟨g, 0, none⟩) l.length cap ∧ base ≤ g ∧ g < w.heap.size ∧ l.length ≤ cap ∧ cap ≤ maxLen := by
  rcases h.2 with ⟨h1, h2⟩ | ⟨g, cap, cur, hv, hg, hh, hc, hm, _⟩
  · exact .inl ⟨h1, List.eq_nil_of_length_eq_zero h2⟩
  · exact .inr ⟨g, cap, hv, hg, (Array.getElem?_eq_some_iff.1 hh).1, hc, hm⟩
theorem Own1.sl (h : Own1 w base e f v l) : ∃ A n cap, v = .slice A n cap ∧ n = l.length ∧ Sl w w.heap.size A n (fun i => ((l[i]?).map f).getD v) ∧ n ≤ cap ∧ cap ≤ maxLen := by
  rcases h.form with ⟨rfl, rfl⟩ | ⟨g, cap, rfl, _, hlt, hc, hm⟩
  · exact ⟨none, 0, 0, rfl, rfl, Sl.zero _ _ _ _, Nat.le_refl _, Nat.zero_le _⟩
  · refine ⟨_, _, cap, rfl, rfl, fun _ => ⟨g, 0, rfl, hlt, fun i hi => ?_⟩, hc, hm⟩
    have := World.ownsRow.cells h (g := g) rfl i (f l[i]) (by simp [hi])
    have hadd : (⟨g, 0, none⟩ : Addr).add i = ⟨g, 0 + i, none⟩ := by unfold Addr.add; split <;> simp_all
    rw [hadd] at this
    simp only [List.getElem?_eq_getElem hi, Option.map_some, Option.getD_some]
    exact this
theorem Own1.less {base' : Nat} (h : Own1 w base e f v l) (hb : base' ≤ base) : Own1 w base' e f v l := by
  refine ⟨h.1, ?_⟩
  rcases h.2 with h1 | ⟨g, cap, cur, a, b, c⟩
  · exact .inl h1
  · exact .inr ⟨g, cap, cur, a, by omega, c⟩
theorem Own1.alloc (h : Own1 w base e f v l) (o : Obj) : Own1 (w.alloc o) base e f v l := World.ownsRow.alloc h o
theorem Own1.drew (h : Own1 w base e f v l) : Own1 w.drew base e f v l := h
theorem Own1.kept (h : Own1 w base e f v l) {row : Option Nat} (hg : w.grownBy w' row) (hne : v.ownBlock = none ∨ v.ownBlock ≠ row) : Own1 w' base e f v l := World.ownsRow.kept h hg hne
theorem Own1.below (h : Own1 w base e f v l) (hb : Below w.heap.size w w') : Own1 w' base e f v l :=
  World.ownsRow.kept (row := none) h ⟨hb.os, hb.tape, hb.output, hb.size, fun k hk _ => hb.block k hk⟩ (by
    rcases h.form with ⟨rfl, _⟩ | ⟨g, cap, rfl, _⟩
    · exact .inl rfl
    · exact .inr (by simp [Value.ownBlock]))
theorem Own1.base_le (h : Own1 w base e f v l) : ∀ k, v.ownBlock = some k → base ≤ k := fun k hk => (World.ownsRow.lt h k hk).1
theorem Own1.lt (h : Own1 w base e f v l) : ∀ k, v.ownBlock = some k → k < w.heap.size := fun k hk => (World.ownsRow.lt h k hk).2
end
section
variable {α : Type} {P : Program} {w : World}
/-- append of one element, from a literal of one element that the call has just made -/
theorem wpList_append_2 {ops : Array Oper} {rest : List Oper} {o : Oper} {a : Act} {Q : Exit → Act → World → Prop} (hgd : o.guard = none) (s x : Operand) (t : TypeId)
    (ho : o.op = .call { callee := .builtin .append, args := #[s, x], argTypes := #[t, t] })
    (base : Nat) (e : TypeId) (z : Value) (bytes : Nat) (ht : P.underlying t = some (.slice e)) (hi : (P.info? e).map (fun i => (i.zero, i.size, i.bytes)) = some (some z, 2, bytes)) (hz : z.cells.size = 2)
    (f : α → Value × Value) (v : Value) (l : List α) (hs : a.eval s = v) (hown : Own2 w base e f v l) (y : α) (h1 : (f y).1.oneCell' = true ∧ (f y).2.oneCell' = true)
    (g c : Nat) (t' : TypeId) (hx : a.eval x = .slice (some ⟨g, 0, none⟩) 1 c) (hr : Blk w g t' #[(f y).1, (f y).2]) (hsum : (l.length + 1) * bytes ≤ 140737488355328) (h63 : l.length + 1 ≤ 140737488355328) (hbase : base ≤ w.heap.size)
    (h : ∀ v' w', Own2 w' base e f v' (l ++ [y]) → w.grownBy w' v.ownBlock → (v'.ownBlock = v.ownBlock ∨ v'.ownBlock = some w.heap.size) → wpList P ops Q rest (a.put o.dst v') w') : wpList P ops Q (o :: rest) a w := by
  obtain ⟨i0, hi, hz0, hz1, hz2⟩ := info_parts hi
  refine wpList_append_sl w hgd s x t ho base e i0 z 2 bytes ht hi hz0 hz1 hz2 hz (by decide) v l.length (two f l) hs hown w.heap.size (some ⟨g, 0, none⟩) 1 c (fun j => if j = 0 then (f y).1 else (f y).2) (two f [y]) hx ?_ (by rw [two_len]; rfl) ?_ ?_ (by unfold maxLen; omega) hsum hbase ?_
  · intro _
    refine ⟨g, 0, rfl, hr.lt, fun i hi => ?_⟩
    rw [Nat.zero_add, hr.cell]
    match i, hi with
    | 0, _ => rfl
    | 1, _ => rfl
  · intro j u hu
    match j, hu with
    | 0, hu => simp [two] at hu; simp [hu]
    | 1, hu => simp [two] at hu; simp [hu]
    | j + 2, hu => simp [two] at hu
  · intro u hu
    simp [two] at hu
    rcases hu with rfl | rfl
    · exact h1.1
    · exact h1.2
  intro v' w' h2 h3 h4
  refine h v' w' ?_ h3 h4
  unfold Own2
  rw [List.length_append, two_append]
  exact h2
theorem wpList_append_1 {ops : Array Oper} {rest : List Oper} {o : Oper} {a : Act} {Q : Exit → Act → World → Prop} (hgd : o.guard = none) (s x : Operand) (t : TypeId)
    (ho : o.op = .call { callee := .builtin .append, args := #[s, x], argTypes := #[t, t] })
    (base : Nat) (e : TypeId) (z : Value) (bytes : Nat) (ht : P.underlying t = some (.slice e)) (hi : (P.info? e).map (fun i => (i.zero, i.size, i.bytes)) = some (some z, 1, bytes)) (hz : z.cells.size = 1)
    (f : α → Value) (v : Value) (l : List α) (hs : a.eval s = v) (hown : Own1 w base e f v l) (y : α) (h1 : (f y).oneCell' = true)
    (g c : Nat) (t' : TypeId) (hx : a.eval x = .slice (some ⟨g, 0, none⟩) 1 c) (hr : Blk w g t' #[f y]) (hsum : (l.length + 1) * bytes ≤ 140737488355328) (h63 : l.length + 1 ≤ 140737488355328) (hbase : base ≤ w.heap.size)
    (h : ∀ v' w', Own1 w' base e f v' (l ++ [y]) → w.grownBy w' v.ownBlock → (v'.ownBlock = v.ownBlock ∨ v'.ownBlock = some w.heap.size) → wpList P ops Q rest (a.put o.dst v') w') : wpList P ops Q (o :: rest) a w := by
  obtain ⟨i0, hi, hz0, hz1, hz2⟩ := info_parts hi
  refine wpList_append_sl w hgd s x t ho base e i0 z 1 bytes ht hi hz0 hz1 hz2 hz (by decide) v l.length (l.map f) hs hown w.heap.size (some ⟨g, 0, none⟩) 1 c (fun _ => f y) [f y] hx ?_ rfl ?_ ?_ (by unfold maxLen; omega) hsum hbase ?_
  · intro _
    refine ⟨g, 0, rfl, hr.lt, fun i hi => ?_⟩
    rw [Nat.zero_add, hr.cell]
    match i, hi with
    | 0, _ => rfl
  · intro j u hu
    match j, hu with
    | 0, hu => simp at hu; simp [hu]
    | j + 1, hu => simp at hu
  · intro u hu
    simp at hu
    subst hu; exact h1
  intro v' w' h2 h3 h4
  refine h v' w' ?_ h3 h4
  unfold Own1
  rw [List.length_append, List.map_append]
  exact h2
end
end Go.Proofs.Ytkkbncgnobaliaa
