/-
  THE LAWS' awake (package watchtowerlaw21) returns true.
-/
import Derived.Test.YtkkbncgnobaliaaDskK
import Derived.Test.YtkkbncgnobaliaaFrmW
import Derived.Lib.SmallJoins
namespace Go.Proofs.Ytkkbncgnobaliaa
open Go.RowKit
open CodP
open CrcP
set_option linter.unusedVariables false
theorem Bs.fresh2 (w : World) (X : Obj) (t : TypeId) (cs : Array Value) (fr : Nat × Nat) (l : List UInt8) (n : Nat) (hn : l.length = n) (h : cs.toList = l.map fun x => .int .u8 (x.toNat : Int)) : Bs ((w.alloc X).alloc (.cells cs t fr)) ((w.alloc X).alloc (.cells cs t fr)).heap.size (some ⟨w.heap.size + 1, 0, none⟩) n l := by
  have := Bs.fresh (w.alloc X) t cs fr l n hn h
  rwa [World.size_alloc w X] at this
set_option maxRecDepth 100000 in
set_option maxHeartbeats 3200000 in
theorem dawake_any (w : World) : Calls Try.prog 40 #[] w fun e w' => e = .returned (.bool true) ∧ Below w.heap.size w w' := by
  have ha := Lib.hid (Bs.fresh w 5 #[.int .u8 97] (1, 2) [97] 1 rfl rfl)
  have hB0 := (Below.refl w.heap.size w).alloc (Nat.le_refl _) (.cells #[.int .u8 97] 5 (1, 2))
  have kc := fun (w : World) (C : Array Value) (n c : Nat) => Lib.run_convert_bytes_const (P := Try.prog) w 22 5 C n c Try.underlying22 Try.underlying5
  go_enter Try.func40, Try.ntmps40
  go_wp2_with fail
  generalize (w.alloc (.cells #[.int .u8 97] 5 (1, 2))) = w0 at ha hB0 ⊢
  refine (write_dk _ [] [] 0 99 (some ⟨w.heap.size, 0, none⟩) 1 1 [97] _ (Dk.empty _) (by omega) ha.out (okD_small 0 [97] (by omega) (by simp))).mono ?_
  rintro e w1 ⟨⟨v1, rfl, hd1⟩, hb1⟩
  rw [show new0 [] 0 [97] 99 = recD 0 [97] from List.take_of_length_le (by rw [recD_len1 0 97 (by omega)]; decide), show new1 [] 0 [97] 99 = [] from rfl] at hd1
  have hB1 := hB0.trans (hb1.mono hB0.size)
  have HD1 := Lib.hid hd1
  obtain ⟨A0, n0, c0, A1, n1, c1, rfl, -, -, -, -⟩ := hd1.out
  clear hd1 hb1 ha hB0
  have kc2 := fun (w : World) (X : Obj) (C : Array Value) (n c : Nat) => Go.Joins.run_convert_bytes_const_at (P := Try.prog) (w.alloc X) 22 5 C n c (w.heap.size + 1) (by simp) Try.underlying22 Try.underlying5
  go_wp2_with fail
  have hZ : Below w1.heap.size w1 ((w1.alloc (.cells #[.slice A0 n0 c0, .slice A1 n1 c1] 58)).alloc (.cells #[.int .u8 98] 5 (1, 2))) := ((Below.refl _ _).alloc (Nat.le_refl _) _).alloc (by simp) _
  have K1 : Hid (Blk ((w1.alloc (.cells #[.slice A0 n0 c0, .slice A1 n1 c1] 58)).alloc (.cells #[.int .u8 98] 5 (1, 2))) w1.heap.size 58 #[.slice A0 n0 c0, .slice A1 n1 c1]) := Lib.hid ((Blk.new w1 _ _).alloc _)
  have hb := Lib.hid (Bs.fresh2 w1 (.cells #[.slice A0 n0 c0, .slice A1 n1 c1] 58) 5 #[.int .u8 98] (1, 2) [98] 1 rfl rfl)
  generalize ((w1.alloc (.cells #[.slice A0 n0 c0, .slice A1 n1 c1] 58)).alloc (.cells #[.int .u8 98] 5 (1, 2))) = w1x at hZ K1 hb ⊢
  have hB1x := hB1.trans (hZ.mono hB1.size)
  refine (write_dk _ _ _ 1 3 (some ⟨w1.heap.size + 1, 0, none⟩) 1 1 [98] _ (HD1.out.now hZ) (by omega) hb.out (okD_small 1 [98] (by omega) (by simp))).mono ?_
  rintro e w2 ⟨⟨v2, rfl, hd2⟩, hb2⟩
  rw [show new0 (recD 0 [97]) 1 [98] 3 = recD 0 [97] from rfl, show new1 [] 1 [98] 3 = (recD 1 [98]).take 3 from rfl] at hd2
  have hB2 := hB1x.trans (hb2.mono hB1x.size)
  have HD2 := Lib.hid hd2
  have K2 := K1.out.below hb2 K1.out.lt
  have HD1b := Lib.hid ((HD1.out.now hZ).now hb2)
  obtain ⟨B0, k0, d0, B1, k1, d1, rfl, -, -, -, -⟩ := hd2.out
  clear hd2 hb2 hb hB1x hZ kc HD1 K1
  have k20 : (w2.alloc (.cells #[.slice B0 k0 d0, .slice B1 k1 d1] 58)).cell? ⟨w1.heap.size, 0, none⟩ = some (.slice A0 n0 c0) := (K2.alloc _).cell 0
  have k21 : (w2.alloc (.cells #[.slice B0 k0 d0, .slice B1 k1 d1] 58)).cell? ⟨w1.heap.size, 1, none⟩ = some (.slice A1 n1 c1) := (K2.alloc _).cell 1
  go_wp2_with fail
  have hZ : Below w2.heap.size w2 ((w2.alloc (.cells #[.slice B0 k0 d0, .slice B1 k1 d1] 58)).alloc (.cells #[.int .u8 98] 5 (1, 2))) := ((Below.refl _ _).alloc (Nat.le_refl _) _).alloc (by simp) _
  have K2e : Hid (Blk ((w2.alloc (.cells #[.slice B0 k0 d0, .slice B1 k1 d1] 58)).alloc (.cells #[.int .u8 98] 5 (1, 2))) w2.heap.size 58 #[.slice B0 k0 d0, .slice B1 k1 d1]) := Lib.hid ((Blk.new w2 _ _).alloc _)
  have hb := Lib.hid (Bs.fresh2 w2 (.cells #[.slice B0 k0 d0, .slice B1 k1 d1] 58) 5 #[.int .u8 98] (1, 2) [98] 1 rfl rfl)
  generalize ((w2.alloc (.cells #[.slice B0 k0 d0, .slice B1 k1 d1] 58)).alloc (.cells #[.int .u8 98] 5 (1, 2))) = w2x at hZ K2e hb ⊢
  have hB2x := hB2.trans (hZ.mono hB2.size)
  refine (write_dk _ _ _ 1 99 (some ⟨w2.heap.size + 1, 0, none⟩) 1 1 [98] _ (HD1b.out.now hZ) (by omega) hb.out (okD_small 1 [98] (by omega) (by simp))).mono ?_
  rintro e w3 ⟨⟨v3, rfl, hd3⟩, hb3⟩
  rw [show new0 (recD 0 [97]) 1 [98] 99 = recD 0 [97] from rfl, show new1 [] 1 [98] 99 = recD 1 [98] from List.take_of_length_le (by have := recD_len1 1 98 (by omega); show (recD ((1 : Nat) : Int) [98]).length ≤ 99; omega)] at hd3
  have hB3 := hB2x.trans (hb3.mono hB2x.size)
  have HD3 := Lib.hid hd3
  have K3e := K2e.out.below hb3 K2e.out.lt
  have HD2b := Lib.hid ((HD2.out.now hZ).now hb3)
  obtain ⟨C0, l0, f0, C1, l1, f1, rfl, -, -, -, -⟩ := hd3.out
  clear hd3 hb3 hb hB2x hZ HD1b K2e HD2 kc2 k20 k21 K2 hB1 hB2
  have e30 : (w3.alloc (.cells #[.slice C0 l0 f0, .slice C1 l1 f1] 58)).cell? ⟨w2.heap.size, 0, none⟩ = some (.slice B0 k0 d0) := (K3e.alloc _).cell 0
  have e31 : (w3.alloc (.cells #[.slice C0 l0 f0, .slice C1 l1 f1] 58)).cell? ⟨w2.heap.size, 1, none⟩ = some (.slice B1 k1 d1) := (K3e.alloc _).cell 1
  have hZ : Below w3.heap.size w3 (w3.alloc (.cells #[.slice C0 l0 f0, .slice C1 l1 f1] 58)) := (Below.refl _ _).alloc (Nat.le_refl _) _
  have K3f := Lib.hid (Blk.new w3 58 #[.slice C0 l0 f0, .slice C1 l1 f1])
  go_wp2_with fail
  generalize (w3.alloc (.cells #[.slice C0 l0 f0, .slice C1 l1 f1] 58)) = w3x at hZ K3f e30 e31 ⊢
  have hB3x := hB3.trans (hZ.mono hB3.size)
  refine (read_dk _ _ _ w3x (HD2b.out.now hZ)).mono ?_
  rintro e w4 ⟨hG, hb4⟩
  rw [awk1] at hG
  obtain ⟨A4, n4, c4, rfl, hp4, -, -⟩ := hG
  obtain rfl : n4 = 1 := hp4.len.symm
  have HP4 := Lib.hid hp4; clear hp4
  have hB4 := hB3x.trans (hb4.mono hB3x.size)
  have K4 := K3f.out.below hb4 K3f.out.lt
  have HD4 := Lib.hid ((HD3.out.now hZ).now hb4)
  have f40 : w4.cell? ⟨w3.heap.size, 0, none⟩ = some (.slice C0 l0 f0) := K4.cell 0
  have f41 : w4.cell? ⟨w3.heap.size, 1, none⟩ = some (.slice C1 l1 f1) := K4.cell 1
  clear e30 e31 hZ hb4 K3e K3f HD2b HD3 hB3x hB3
  go_wp2_with fail
  refine (read_dk _ _ _ w4 HD4.out).mono ?_
  rintro e w5 ⟨hG, hb5⟩
  rw [awk2] at hG
  obtain ⟨A5, n5, c5, rfl, hp5, -, -⟩ := hG
  obtain rfl : n5 = 1 := hp5.len.symm
  have HP5 := Lib.hid hp5; clear hp5
  have hB5 := hB4.trans (hb5.mono hB4.size)
  have K5 := K4.below hb5 K4.lt
  have HD5 := Lib.hid (HD4.out.now hb5)
  have HP45 := Lib.hid (HP4.out.now hb5)
  clear f40 f41 K4 hb5 HD4 HP4
  go_wp2_with fail
  refine (read_dk _ _ _ w5 (Dk.empty _)).mono ?_
  rintro e w6 ⟨hG, hb6⟩
  rw [readD_nil] at hG
  obtain rfl := hG
  have hB6 := hB5.trans (hb6.mono hB5.size)
  have K6 := K5.below hb6 K5.lt
  have HD6 := Lib.hid (HD5.out.now hb6)
  have st1 : (convert 22 9 (.slice A4 1 c4)).run Try.prog w6 = .ok (.string ⟨#[97]⟩) w6 := run_str w6 c4 (HP45.out.now hb6)
  have st2 : (convert 22 9 (.slice A5 1 c5)).run Try.prog w6 = .ok (.string ⟨#[98]⟩) w6 := run_str w6 c5 (HP5.out.now hb6)
  have f60 : w6.cell? ⟨w3.heap.size, 0, none⟩ = some (.slice C0 l0 f0) := K6.cell 0
  have f61 : w6.cell? ⟨w3.heap.size, 1, none⟩ = some (.slice C1 l1 f1) := K6.cell 1
  clear K5 hb6 HD5 HP45 HP5 K6
  go_wp2_with fail
  refine (gen_dk _ _ _ w6 HD6.out).mono ?_
  rintro e w7 ⟨rfl, hb7⟩
  rw [awk3]
  go_wp2_with fail
  refine (gen_dk _ _ _ w7 (Dk.empty _)).mono ?_
  rintro e w8 ⟨rfl, hb8⟩
  rw [genD_nil]
  go_wp2
  go_ret
  exact ⟨rfl, (hB6.trans (hb7.mono hB6.size)).trans (hb8.mono (by have := hB6.size; have := hb7.size; omega))⟩
end Go.Proofs.Ytkkbncgnobaliaa
