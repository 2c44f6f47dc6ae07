/-
  append ONTO A ROW OF THE CALL's OWN, the source nil, empty or not ('Sl'): after the guide's own words for memory, turned to 'Sl'.
-/
import Derived.Test.YtkkbncgnobaliaaMem
import Derived.Maps.AppendAt
import Derived.Deep.AppendLies
import Derived.RegionTactic
import Derived.OwnWalk
namespace Go.Proofs.Ytkkbncgnobaliaa
open Go.RowKit
section
variable {P : Program} (w : World)

theorem run_append_of_nil (base : Nat) (t ty e : TypeId) (i : TypeInfo) (size : Nat) (ht : P.underlying t = some (.slice e)) (hi : P.info? e = some i)
    (v : Value) (n : Nat) (xs : List Value) (hown : w.ownsRow base e size v n xs) (c : Nat) : (Builtin.append_ #[t, t] ty #[v, .slice none 0 c]).run P w = .ok v w := by
  rcases hown.2 with ⟨rfl, rfl⟩ | ⟨g, cap, cur, rfl, _, _, hnc, _⟩
  · simp [Builtin.append_, run_underlying ht, sizeOf, typeInfo, hi, Builtin.lenOf, Builtin.firstCells]
  · simp [Builtin.append_, run_underlying ht, sizeOf, typeInfo, hi, Builtin.lenOf, Builtin.firstCells, hnc, storeCells]

theorem run_append_sl (base : Nat) (t ty e : TypeId) (i : TypeInfo) (z : Value) (size bytes : Nat) (ht : P.underlying t = some (.slice e)) (hi : P.info? e = some i) (hz : i.zero = some z)
    (hsize : i.size = size) (hby : i.bytes = bytes) (hzs : z.cells.size = size) (hsz : 0 < size)
    (v : Value) (n : Nat) (xs : List Value) (hown : w.ownsRow base e size v n xs)
    (B : Nat) (A : Option Addr) (m c : Nat) (V : Nat → Value) (news : List Value) (hr : Sl w B A (m * size) V) (hln : news.length = m * size) (hV : ∀ j u, news[j]? = some u → u = V j) (h1 : ∀ u ∈ news, u.oneCell' = true)
    (h63 : n + m ≤ maxLen) (hbytes : (n + m) * bytes ≤ 140737488355328) (hbase : base ≤ w.heap.size) :
    ∃ v' w', (Builtin.append_ #[t, t] ty #[v, .slice A m c]).run P w = .ok v' w' ∧ w'.ownsRow base e size v' (n + m) (xs ++ news) ∧ w.grownBy w' v.ownBlock ∧
      (v'.ownBlock = v.ownBlock ∨ v'.ownBlock = some w.heap.size) := by
  rcases A with _ | ad
  · have hm : m = 0 := by
      rcases Nat.eq_zero_or_pos m with h0 | h0
      · exact h0
      · obtain ⟨_, _, h, _⟩ := hr (Nat.mul_pos h0 hsz)
        cases h
    subst hm
    have hn : news = [] := List.eq_nil_of_length_eq_zero (by simpa using hln)
    subst hn
    exact ⟨v, w, run_append_of_nil w base t ty e i size ht hi v n xs hown c, by simpa using hown, World.grownBy.refl w _, .inl rfl⟩
  · have hcells : ∀ j u, news[j]? = some u → w.cell? (ad.add j) = some u := by
      intro j u hu
      have hj : j < news.length := (List.getElem?_eq_some_iff.1 hu).1
      obtain ⟨b, off, h, _, hc⟩ := hr (by omega)
      injection h with h
      subst h
      have hadd : (⟨b, off, none⟩ : Addr).add j = ⟨b, off + j, none⟩ := by unfold Addr.add; split <;> simp_all
      rw [hadd, hc j (by omega), hV j u hu]
    obtain ⟨v', w', hrun, h2, h3, _, h5⟩ := run_append_own_at (P := P) w base t ty e i z size bytes ht hi hz hsize hby hzs hsz v n xs hown ad m c news hln hcells h1 h63 hbytes hbase
    exact ⟨v', w', hrun, h2, h3, h5⟩

theorem wp_append_sl {o : Oper} {a : Act} {K : Act → World → Prop} {Q : Exit → Act → World → Prop} (s x : Operand) (t : TypeId)
    (ho : o.op = .call { callee := .builtin .append, args := #[s, x], argTypes := #[t, t] })
    (base : Nat) (e : TypeId) (i : TypeInfo) (z : Value) (size bytes : Nat) (ht : P.underlying t = some (.slice e)) (hi : P.info? e = some i) (hz : i.zero = some z)
    (hsize : i.size = size) (hby : i.bytes = bytes) (hzs : z.cells.size = size) (hsz : 0 < size)
    (v : Value) (n : Nat) (xs : List Value) (hs : a.eval s = v) (hown : w.ownsRow base e size v n xs)
    (B : Nat) (A : Option Addr) (m c : Nat) (V : Nat → Value) (news : List Value) (hx : a.eval x = .slice A m c) (hr : Sl w B A (m * size) V) (hln : news.length = m * size) (hV : ∀ j u, news[j]? = some u → u = V j) (h1 : ∀ u ∈ news, u.oneCell' = true)
    (h63 : n + m ≤ maxLen) (hbytes : (n + m) * bytes ≤ 140737488355328) (hbase : base ≤ w.heap.size)
    (h : ∀ v' w', w'.ownsRow base e size v' (n + m) (xs ++ news) → w.grownBy w' v.ownBlock → (v'.ownBlock = v.ownBlock ∨ v'.ownBlock = some w.heap.size) → K (a.put o.dst v') w') : o.wp P a w K Q := by
  obtain ⟨v', w', hrun, h2, h3, h4⟩ := run_append_sl (P := P) w base t o.type e i z size bytes ht hi hz hsize hby hzs hsz v n xs hown B A m c V news hr hln hV h1 h63 hbytes hbase
  unfold Oper.wp execOp
  simp only [ho, resolve, invoke, builtin, Sem.run_bind, Sem.run_pure, Result.andThen_ok, List.map_toArray, List.map_cons, List.map_nil, hs, hx, hrun]
  exact h v' w' h2 h3 h4

theorem wpList_append_sl {ops : Array Oper} {rest : List Oper} {o : Oper} {a : Act} {Q : Exit → Act → World → Prop} (hgd : o.guard = none) (s x : Operand) (t : TypeId)
    (ho : o.op = .call { callee := .builtin .append, args := #[s, x], argTypes := #[t, t] })
    (base : Nat) (e : TypeId) (i : TypeInfo) (z : Value) (size bytes : Nat) (ht : P.underlying t = some (.slice e)) (hi : P.info? e = some i) (hz : i.zero = some z)
    (hsize : i.size = size) (hby : i.bytes = bytes) (hzs : z.cells.size = size) (hsz : 0 < size)
    (v : Value) (n : Nat) (xs : List Value) (hs : a.eval s = v) (hown : w.ownsRow base e size v n xs)
    (B : Nat) (A : Option Addr) (m c : Nat) (V : Nat → Value) (news : List Value) (hx : a.eval x = .slice A m c) (hr : Sl w B A (m * size) V) (hln : news.length = m * size) (hV : ∀ j u, news[j]? = some u → u = V j) (h1 : ∀ u ∈ news, u.oneCell' = true)
    (h63 : n + m ≤ maxLen) (hbytes : (n + m) * bytes ≤ 140737488355328) (hbase : base ≤ w.heap.size)
    (h : ∀ v' w', w'.ownsRow base e size v' (n + m) (xs ++ news) → w.grownBy w' v.ownBlock → (v'.ownBlock = v.ownBlock ∨ v'.ownBlock = some w.heap.size) → wpList P ops Q rest (a.put o.dst v') w') : wpList P ops Q (o :: rest) a w :=
  wpList_plain hgd fun _ hK => wp_append_sl w s x t ho base e i z size bytes ht hi hz hsize hby hzs hsz v n xs hs hown B A m c V news hx hr hln hV h1 h63 hbytes hbase fun v' w' h2 h3 h4 => hK _ _ (h v' w' h2 h3 h4)
theorem step_append_sl {ops : Array Oper} {o : Oper} {a : Act} {K : Act → World → Prop} {Q : Exit → Act → World → Prop} {E : Prop} (hgd : o.guard = none) (s x : Operand) (t : TypeId)
    (ho : o.op = .call { callee := .builtin .append, args := #[s, x], argTypes := #[t, t] })
    (base : Nat) (e : TypeId) (i : TypeInfo) (z : Value) (size bytes : Nat) (ht : P.underlying t = some (.slice e)) (hi : P.info? e = some i) (hz : i.zero = some z)
    (hsize : i.size = size) (hby : i.bytes = bytes) (hzs : z.cells.size = size) (hsz : 0 < size)
    (v : Value) (n : Nat) (xs : List Value) (hs : a.eval s = v) (hown : w.ownsRow base e size v n xs)
    (B : Nat) (A : Option Addr) (m c : Nat) (V : Nat → Value) (news : List Value) (hx : a.eval x = .slice A m c) (hr : Sl w B A (m * size) V) (hln : news.length = m * size) (hV : ∀ j u, news[j]? = some u → u = V j) (h1 : ∀ u ∈ news, u.oneCell' = true)
    (h63 : n + m ≤ maxLen) (hbytes : (n + m) * bytes ≤ 140737488355328) (hbase : base ≤ w.heap.size)
    (h : ∀ v' w', w'.ownsRow base e size v' (n + m) (xs ++ news) → w.grownBy w' v.ownBlock → (v'.ownBlock = v.ownBlock ∨ v'.ownBlock = some w.heap.size) → K (a.put o.dst v') w') :
    if Region.wanted o (yielded ops a.tmps) = true then Oper.wp P o a w K Q else E := by
  have hw : Region.wanted o (yielded ops a.tmps) = true := by simp [Region.wanted, hgd]
  rw [if_pos hw]
  exact wp_append_sl w s x t ho base e i z size bytes ht hi hz hsize hby hzs hsz v n xs hs hown B A m c V news hx hr hln hV h1 h63 hbytes hbase h
end

/-- Octets as cells. -/
def b8 (x : UInt8) : Value := .int .u8 (x.toNat : Int)
theorem b8_one (l : List UInt8) : ∀ u ∈ l.map b8, u.oneCell' = true := by
  intro u hu; obtain ⟨x, _, rfl⟩ := List.mem_map.1 hu; rfl
theorem b8_octs (l : List UInt8) : ∀ j u, (l.map b8)[j]? = some u → u = octs l j := by
  intro j u hu
  rw [List.getElem?_map] at hu
  obtain ⟨x, hx, rfl⟩ := Option.map_eq_some_iff.1 hu
  simp [octs, b8, hx]
/-- A slice that the call has made owns these octets: nil, or at the head of a row of its own from block 'base' on. -/
def OwnB (w : World) (base e : Nat) (v : Value) (l : List UInt8) : Prop := w.ownsRow base e 1 v l.length (l.map b8)
section
variable {w w' : World} {base e : Nat} {v : Value} {l : List UInt8}
theorem OwnB.nil_ (w : World) (base e : Nat) : OwnB w base e (.slice none 0 0) [] := World.ownsRow_nil _ _ _ _
theorem OwnB.form (h : OwnB w base e v l) : (v = .slice none 0 0 ∧ l = []) ∨ ∃ g cap, v = .slice (some ⟨g, 0, none⟩) l.length cap ∧ base ≤ g ∧ g < w.heap.size ∧ l.length ≤ cap ∧ cap ≤ maxLen := by
  rcases h.2 with ⟨h1, h2⟩ | ⟨g, cap, cur, hv, hg, hh, hc, hm, _⟩
  · exact .inl ⟨h1, List.eq_nil_of_length_eq_zero h2⟩
  · exact .inr ⟨g, cap, hv, hg, (Array.getElem?_eq_some_iff.1 hh).1, hc, hm⟩
theorem OwnB.bs (h : OwnB w base e v l) : ∃ A n cap, v = .slice A n cap ∧ Bs w w.heap.size A n l ∧ n ≤ cap ∧ cap ≤ maxLen := by
  rcases h.form with ⟨rfl, rfl⟩ | ⟨g, cap, rfl, _, hlt, hc, hm⟩
  · exact ⟨none, 0, 0, rfl, Bs.nil_ _ _ _, Nat.le_refl _, Nat.zero_le _⟩
  · refine ⟨_, _, cap, rfl, ⟨rfl, fun _ => ⟨g, 0, rfl, hlt, fun i hi => ?_⟩⟩, hc, hm⟩
    have := World.ownsRow.cells h (g := g) rfl i (b8 (l.getD i 0)) (by simp [hi])
    have hadd : (⟨g, 0, none⟩ : Addr).add i = ⟨g, 0 + i, none⟩ := by unfold Addr.add; split <;> simp_all
    rw [hadd] at this
    exact this
theorem OwnB.len_eq {g n cap : Nat} (h : OwnB w base e (.slice (some ⟨g, 0, none⟩) n cap) l) : n = l.length := by
  rcases h.form with ⟨hv, _⟩ | ⟨_, _, hv, _⟩
  · cases hv
  · injection hv
theorem OwnB.cell {g n cap : Nat} (h : OwnB w base e (.slice (some ⟨g, 0, none⟩) n cap) l) {j : Nat} (hj : j < l.length) : w.cell? ⟨g, j, none⟩ = some (.int .u8 ((l.getD j 0).toNat : Int)) := by
  obtain rfl := h.len_eq
  rw [World.ownsRow.cellAt h j (by omega)]
  simp [b8, hj]
theorem OwnB.frozen {g n cap : Nat} (h : OwnB w base e (.slice (some ⟨g, 0, none⟩) n cap) l) (j : Nat) : w.frozen? ⟨g, j, none⟩ = false := by
  obtain rfl := h.len_eq
  exact World.ownsRow.frozenAt h j
theorem OwnB.stored {g n cap : Nat} (h : OwnB w base e (.slice (some ⟨g, 0, none⟩) n cap) l) (j : Nat) (u : UInt8) : OwnB (w.setCell ⟨g, j, none⟩ (.int .u8 (u.toNat : Int))) base e (.slice (some ⟨g, 0, none⟩) n cap) (l.set j u) := by
  obtain rfl := h.len_eq
  have := (World.ownsRow.stored h j (b8 u)).1
  unfold OwnB
  rw [List.length_set, List.map_set]
  exact this
theorem OwnB.alloc (h : OwnB w base e v l) (o : Obj) : OwnB (w.alloc o) base e v l := World.ownsRow.alloc h o
theorem OwnB.drew (h : OwnB w base e v l) : OwnB w.drew base e v l := h
theorem OwnB.drewN (h : OwnB w base e v l) (n : Nat) : OwnB (w.drewN n) base e v l := h
theorem OwnB.kept (h : OwnB w base e v l) {row : Option Nat} (hg : w.grownBy w' row) (hne : v.ownBlock = none ∨ v.ownBlock ≠ row) : OwnB w' base e v l := World.ownsRow.kept h hg hne
theorem OwnB.below (h : OwnB w base e v l) (hb : Below w.heap.size w w') : OwnB w' base e v l :=
  World.ownsRow.kept (row := none) h ⟨hb.os, hb.tape, hb.output, hb.size, fun k hk _ => hb.block k hk⟩ (by
    rcases h.form with ⟨rfl, _⟩ | ⟨g, cap, rfl, _⟩
    · exact .inl rfl
    · exact .inr (by simp [Value.ownBlock]))
theorem OwnB.base_le (h : OwnB w base e v l) : ∀ k, v.ownBlock = some k → base ≤ k := fun k hk => (World.ownsRow.lt h k hk).1
theorem OwnB.lt (h : OwnB w base e v l) : ∀ k, v.ownBlock = some k → k < w.heap.size := fun k hk => (World.ownsRow.lt h k hk).2
/-- A literal of octets that the call has just made is its own. -/
theorem OwnB.fresh (w : World) (e : TypeId) (l : List UInt8) (cs : Array Value) (hcs : cs.toList = l.map b8) (n : Nat) (hn : n = l.length) (hb : base ≤ w.heap.size) (hm : l.length ≤ maxLen) : OwnB (w.alloc (.cells cs e)) base e (.slice (some ⟨w.heap.size, 0, none⟩) n n) l := by
  subst hn
  have hsz : cs.size = l.length := by rw [← Array.length_toList, hcs]; simp
  refine ⟨by simp, .inr ⟨w.heap.size, l.length, cs, rfl, hb, heap_alloc_new w _, Nat.le_refl _, hm, by omega, ?_⟩⟩
  rw [hcs]
  exact List.take_of_length_le (by simp)
end
section
variable {P : Program} {w : World}
theorem wpList_append_b {ops : Array Oper} {rest : List Oper} {o : Oper} {a : Act} {Q : Exit → Act → World → Prop} (hgd : o.guard = none) (s x : Operand) (t : TypeId)
    (ho : o.op = .call { callee := .builtin .append, args := #[s, x], argTypes := #[t, t] })
    (base : Nat) (e : TypeId) (ht : P.underlying t = some (.slice e)) (hi : (P.info? e).map (fun i => (i.zero, i.size, i.bytes)) = some (some (.int .u8 0), 1, 1))
    (v : Value) (l : List UInt8) (hs : a.eval s = v) (hown : OwnB w base e v l)
    (B : Nat) (A : Option Addr) (m c : Nat) (l2 : List UInt8) (hx : a.eval x = .slice A m c) (hr : Bs w B A m l2) (hsum : l.length + m ≤ 140737488355328) (hbase : base ≤ w.heap.size)
    (h : ∀ v' w', OwnB w' base e v' (l ++ l2) → w.grownBy w' v.ownBlock → (v'.ownBlock = v.ownBlock ∨ v'.ownBlock = some w.heap.size) → wpList P ops Q rest (a.put o.dst v') w') : wpList P ops Q (o :: rest) a w := by
  obtain ⟨i0, hi, hz0, hz1, hz2⟩ := info_parts hi
  refine wpList_append_sl w hgd s x t ho base e i0 _ 1 1 ht hi hz0 hz1 hz2 rfl (by decide) v l.length (l.map b8) hs hown B A m c (octs l2) (l2.map b8) hx (by rw [Nat.mul_one]; exact hr.sl) (by simp [hr.len]) (b8_octs l2) (b8_one l2) (by unfold maxLen; omega) (by omega) hbase ?_
  intro v' w' h1 h2 h3
  refine h v' w' ?_ h2 h3
  unfold OwnB
  rw [List.length_append, hr.len, List.map_append]
  exact h1
theorem step_append_b {ops : Array Oper} {o : Oper} {a : Act} {K : Act → World → Prop} {Q : Exit → Act → World → Prop} {E : Prop} (hgd : o.guard = none) (s x : Operand) (t : TypeId)
    (ho : o.op = .call { callee := .builtin .append, args := #[s, x], argTypes := #[t, t] })
    (base : Nat) (e : TypeId) (ht : P.underlying t = some (.slice e)) (hi : (P.info? e).map (fun i => (i.zero, i.size, i.bytes)) = some (some (.int .u8 0), 1, 1))
    (v : Value) (l : List UInt8) (hs : a.eval s = v) (hown : OwnB w base e v l)
    (B : Nat) (A : Option Addr) (m c : Nat) (l2 : List UInt8) (hx : a.eval x = .slice A m c) (hr : Bs w B A m l2) (hsum : l.length + m ≤ 140737488355328) (hbase : base ≤ w.heap.size)
    (h : ∀ v' w', OwnB w' base e v' (l ++ l2) → w.grownBy w' v.ownBlock → (v'.ownBlock = v.ownBlock ∨ v'.ownBlock = some w.heap.size) → K (a.put o.dst v') w') :
    if Region.wanted o (yielded ops a.tmps) = true then Oper.wp P o a w K Q else E := by
  obtain ⟨i0, hi, hz0, hz1, hz2⟩ := info_parts hi
  refine step_append_sl w hgd s x t ho base e i0 _ 1 1 ht hi hz0 hz1 hz2 rfl (by decide) v l.length (l.map b8) hs hown B A m c (octs l2) (l2.map b8) hx (by rw [Nat.mul_one]; exact hr.sl) (by simp [hr.len]) (b8_octs l2) (b8_one l2) (by unfold maxLen; omega) (by omega) hbase ?_
  intro v' w' h1 h2 h3
  refine h v' w' ?_ h2 h3
  unfold OwnB
  rw [List.length_append, hr.len, List.map_append]
  exact h1
end
end Go.Proofs.Ytkkbncgnobaliaa
