/-
  append ONTO A CLIPPED SLICE OF OCTETS (its capacity is its length): nothing is laid, or a new row is made.
-/
import Derived.Test.YtkkbncgnobaliaaApp
import Derived.ArgAppend
namespace Go.Proofs.Ytkkbncgnobaliaa
open Go.RowKit
theorem bs_cells {w : World} {B n b off : Nat} {l : List UInt8} (h : Bs w B (some ⟨b, off, none⟩) n l) : ∀ j u, (l.map b8)[j]? = some u → w.cell? ⟨b, off + j, none⟩ = some u := by
  intro j u hu
  have hj : j < n := by rw [← h.len]; simpa using (List.getElem?_eq_some_iff.1 hu).1
  obtain ⟨b', off', e, -, hc⟩ := h.at_ hj
  cases e
  rw [hc]
  rw [List.getElem?_map] at hu
  obtain ⟨x, hx, rfl⟩ := Option.map_eq_some_iff.1 hu
  simp [b8, hx]
section
variable {P : Program} {w : World}
theorem wpList_append_clip1 {ops : Array Oper} {rest : List Oper} {o : Oper} {a : Act} {Q : Exit → Act → World → Prop} (hgd : o.guard = none) (s x : Operand) (t : TypeId)
    (ho : o.op = .call { callee := .builtin .append, args := #[s, x], argTypes := #[t, t] })
    (e : TypeId) (ht : P.underlying t = some (.slice e)) (hi : (P.info? e).map (fun i => (i.zero, i.size, i.bytes)) = some (some (.int .u8 0), 1, 1))
    (b off n : Nat) (l : List UInt8) (hs : a.eval s = .slice (some ⟨b, off, none⟩) n n) (B1 : Nat) (hb : Bs w B1 (some ⟨b, off, none⟩) n l)
    (B : Nat) (A : Option Addr) (m c : Nat) (l2 : List UInt8) (hx : a.eval x = .slice A m c) (hr : Bs w B A m l2) (hm : 0 < m) (hsum : n + m ≤ 140737488355328)
    (h : ∀ v' w', OwnB w' w.heap.size e v' (l ++ l2) → w.grownBy w' none → wpList P ops Q rest (a.put o.dst v') w') : wpList P ops Q (o :: rest) a w := by
  obtain ⟨i0, hi, hz0, hz1, hz2⟩ := info_parts hi
  obtain ⟨b2, off2, rfl, -, -⟩ := hr.at_ hm
  refine wpList_append_arg w hgd s x t ho e i0 _ 1 1 ht hi hz0 hz1 hz2 rfl (by decide) b off n n (l.map b8) hs (by simp [hb.len]) (bs_cells hb) ⟨b2, off2, none⟩ m c (l2.map b8) hx (by simp [hr.len])
    (fun j u hu => by
      have hadd : (⟨b2, off2, none⟩ : Addr).add j = ⟨b2, off2 + j, none⟩ := by unfold Addr.add; split <;> simp_all
      rw [hadd]; exact bs_cells hr j u hu) (b8_one l2) (fun hc => absurd hc (by omega)) (by unfold maxLen; omega) (by omega) (fun hc => absurd hc (by omega)) (fun _ v' w' h1 h2 => ?_)
  refine h v' w' ?_ h2
  unfold OwnB
  rw [List.length_append, hb.len, hr.len, List.map_append]
  exact h1
theorem wpList_append_clip0 {ops : Array Oper} {rest : List Oper} {o : Oper} {a : Act} {Q : Exit → Act → World → Prop} (hgd : o.guard = none) (s x : Operand) (t : TypeId)
    (ho : o.op = .call { callee := .builtin .append, args := #[s, x], argTypes := #[t, t] })
    (e : TypeId) (ht : P.underlying t = some (.slice e)) (hi : (P.info? e).map (fun i => (i.zero, i.size, i.bytes)) = some (some (.int .u8 0), 1, 1))
    (b off n : Nat) (hs : a.eval s = .slice (some ⟨b, off, none⟩) n n) (A : Option Addr) (c : Nat) (hx : a.eval x = .slice A 0 c)
    (h : wpList P ops Q rest (a.put o.dst (.slice (some ⟨b, off, none⟩) n n)) w) : wpList P ops Q (o :: rest) a w := by
  obtain ⟨i0, hi, hz0, hz1, hz2⟩ := info_parts hi
  refine wpList_plain hgd fun K hK => ?_
  have hrun : (Builtin.append_ #[t, t] o.type #[.slice (some ⟨b, off, none⟩) n n, .slice A 0 c]).run P w = .ok (.slice (some ⟨b, off, none⟩) n n) w := by
    cases A with
    | none => simp [Builtin.append_, run_underlying ht, sizeOf, typeInfo, hi, Builtin.lenOf, Builtin.firstCells, storeCells]
    | some ad => simp [Builtin.append_, run_underlying ht, sizeOf, typeInfo, hi, Builtin.lenOf, Builtin.firstCells, storeCells, loadCells, loadCellsFrom]
  unfold Oper.wp
  simp [execOp, ho, resolve, invoke, builtin, hs, hx, hrun, Result.andThen]
  exact hK _ _ h
end
end Go.Proofs.Ytkkbncgnobaliaa
