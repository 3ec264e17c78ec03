/- The contract of prim.of (layer 1), by hand: a type's row, out of the table of sizes. -/

import Derived.Test.YtgackepigegbkaaDoorBx0
import Derived.Test.YtgackepigegbkaaDoorBx1
namespace Go.Proofs.YtgackepigegbkaaDoor.B
open Go.RowKit Go.Proofs.YtgackepigegbkaaDoorW.PrintWords Go.Proofs.YtgackepigegbkaaDoorW.PrintLast Go.Proofs.YtgackepigegbkaaDoorW.PrintMore
attribute [local go_sem] max2_int min2_int max_two min_two max_three min_three max_four min_four   -- for this text's walks alone
set_option linter.unusedVariables false
set_option linter.unusedSimpArgs false

/-- The table of sizes is as the program's text lays it. -/
def Tab (w : World) : Prop := ∀ i : Nat, i < 11 → w.cell? ⟨0, i, none⟩ = some (.int .i64 ([1, 1, 2, 4, 8, 1, 2, 4, 8, 4, 8].getD i 0))
theorem tab_below {w W : World} (h : Tab w) (hb : Below w.heap.size w W) : Tab W := fun i hi => pw_cell_below hb (h i hi)
theorem tab_drawn {w W : World} (h : Tab w) (hb : Drawn0 w W) : Tab W := tab_below h hb.below

/-- A type's row: its size, whether it has a sign, whether it is a float, null, least, greatest. -/
def primRow (p : Int) : Int × Bool × Bool × Int × Int × Int :=
  if p = 0 then (1, false, false, 0, 32, 126) else if p = 1 then (1, true, false, 18446744073709551488, 18446744073709551489, 127) else if p = 2 then (2, true, false, 18446744073709518848, 18446744073709518849, 32767) else if p = 3 then (4, true, false, 18446744071562067968, 18446744071562067969, 2147483647) else if p = 4 then (8, true, false, 9223372036854775808, 9223372036854775809, 9223372036854775807) else if p = 5 then (1, false, false, 255, 0, 254) else if p = 6 then (2, false, false, 65535, 0, 65534) else if p = 7 then (4, false, false, 4294967295, 0, 4294967294) else if p = 8 then (8, false, false, 18446744073709551615, 0, 18446744073709551614) else if p = 9 then (4, false, true, 2143289344, 0, 4294967295) else if p = 10 then (8, false, true, 9221120237041090560, 0, 18446744073709551615) else (0, false, false, 0, 0, 0)
def prim_of.f (a0 : Int) : Option (Int × Bool × Bool × Int × Int × Int) := some (primRow a0)

@[go_sem] theorem fld47_0 (a b c d e f : Value) (w : World) : (Instr.field 47 (.agg #[a, b, c, d, e, f]) 0).run Tryd.prog w = .ok a w := by kernel_rfl
@[go_sem] theorem fld47_1 (a b c d e f : Value) (w : World) : (Instr.field 47 (.agg #[a, b, c, d, e, f]) 1).run Tryd.prog w = .ok b w := by kernel_rfl
@[go_sem] theorem fld47_2 (a b c d e f : Value) (w : World) : (Instr.field 47 (.agg #[a, b, c, d, e, f]) 2).run Tryd.prog w = .ok c w := by kernel_rfl
@[go_sem] theorem fld47_3 (a b c d e f : Value) (w : World) : (Instr.field 47 (.agg #[a, b, c, d, e, f]) 3).run Tryd.prog w = .ok d w := by kernel_rfl
@[go_sem] theorem fld47_4 (a b c d e f : Value) (w : World) : (Instr.field 47 (.agg #[a, b, c, d, e, f]) 4).run Tryd.prog w = .ok e w := by kernel_rfl
@[go_sem] theorem fld47_5 (a b c d e f : Value) (w : World) : (Instr.field 47 (.agg #[a, b, c, d, e, f]) 5).run Tryd.prog w = .ok f w := by kernel_rfl
theorem sgn1 : prim_signed.f 1 = some (1, true, false, 18446744073709551488, 18446744073709551489, 127) := by decide +kernel
theorem uns1 : prim_unsigned.f 1 = some (1, false, false, 255, 0, 254) := by decide +kernel
theorem sgn2 : prim_signed.f 2 = some (2, true, false, 18446744073709518848, 18446744073709518849, 32767) := by decide +kernel
theorem uns2 : prim_unsigned.f 2 = some (2, false, false, 65535, 0, 65534) := by decide +kernel
theorem sgn4 : prim_signed.f 4 = some (4, true, false, 18446744071562067968, 18446744071562067969, 2147483647) := by decide +kernel
theorem uns4 : prim_unsigned.f 4 = some (4, false, false, 4294967295, 0, 4294967294) := by decide +kernel
theorem sgn8 : prim_signed.f 8 = some (8, true, false, 9223372036854775808, 9223372036854775809, 9223372036854775807) := by decide +kernel
theorem uns8 : prim_unsigned.f 8 = some (8, false, false, 18446744073709551615, 0, 18446744073709551614) := by decide +kernel

theorem of_0 (w : World) (hT : Tab w) :
    Calls Tryd.prog 30 #[.int .i64 0] w fun e w' => e = .returned (.agg #[.int .i64 1, .bool false, .bool false, .int .u64 0, .int .u64 32, .int .u64 126]) ∧ Below w.heap.size w w' := by
  have hu47 := Tryd.underlying47
  have h0 : w.cell? ⟨0, 0, none⟩ = some (.int .i64 1) := hT 0 (by omega)
  have hlt := World.block_lt_of_cell? w _ h0
  simp only at hlt
  have hne : w.heap.size ≠ 0 := by omega
  clear hT
  go_enter Tryd.func30, Tryd.ntmps30
  go_wp2
  refine bodyPost_ret (results_cell_row rfl _ _ w.heap.size 47 #[.int .i64 1, .bool false, .bool false, .int .u64 0, .int .u64 32, .int .u64 126] (0, 0) _ rfl (heap_alloc_new w _) Tryd.underlying47 rfl (by kernel_rfl)) rfl ?_
  exact ⟨rfl, below_alloc (Below.refl _ _) _⟩

theorem of_1 (w : World) (hT : Tab w) :
    Calls Tryd.prog 30 #[.int .i64 1] w fun e w' => e = .returned (.agg #[.int .i64 1, .bool true, .bool false, .int .u64 18446744073709551488, .int .u64 18446744073709551489, .int .u64 127]) ∧ Below w.heap.size w w' := by
  have hu47 := Tryd.underlying47
  have h0 : w.cell? ⟨0, 1, none⟩ = some (.int .i64 1) := hT 1 (by omega)
  have hlt := World.block_lt_of_cell? w _ h0
  simp only at hlt
  have hne : w.heap.size ≠ 0 := by omega
  clear hT
  go_enter Tryd.func30, Tryd.ntmps30
  go_wp2_with (first | ((with_reducible refine gate_dst (N := 2) rfl ?_); refine box_event ?hg (N := 2) ?hd (cs := #[.int .i64 0, .bool false, .bool false, .int .u64 0, .int .u64 0, .int .u64 0]) (t := 47) ?hr ?_; (case hd => rfl); (case hg => rfl); (case hr => first | (go_simp; done) | (go_simp; rfl)); intro gb hgb w1 hbox hb; have HB := Aside0.mk hb; have HBX := Aside0.mk hbox; have HGB := Aside0.mk (Nat.le_of_eq hgb.symm); have h1 : w1.cell? ⟨0, 1, none⟩ = some (.int .i64 1) := pw_cell_below hb h0; clear hgb hbox hb h0 hlt hne) | (go_at_call 43; refine (prim_signed.calls 1 1 true false 18446744073709551488 18446744073709551489 127 _ sgn1).mono ?_; rintro _ w2 ⟨rfl, hb2⟩; have HB2 := Aside0.mk (below_step HB.out hb2); have HBX2 := Aside0.mk ((hb2.block gb (blk_lt HBX.out)).trans HBX.out); clear hb2; have z0 := blk_cell HBX2.out 0; have z1 := blk_cell HBX2.out 1; have z2 := blk_cell HBX2.out 2; have z3 := blk_cell HBX2.out 3; have z4 := blk_cell HBX2.out 4; have z5 := blk_cell HBX2.out 5; simp at z0 z1 z2 z3 z4 z5; have f0 := blk_frozen HBX2.out 0; have f1 := blk_frozen HBX2.out 1; have f2 := blk_frozen HBX2.out 2; have f3 := blk_frozen HBX2.out 3; have f4 := blk_frozen HBX2.out 4; have f5 := blk_frozen HBX2.out 5))
  refine bodyPost_ret (results_cell_row rfl _ _ gb 47 #[.int .i64 1, .bool true, .bool false, .int .u64 18446744073709551488, .int .u64 18446744073709551489, .int .u64 127] (0, 0) _ rfl (by have z := blk_set (blk_set (blk_set (blk_set (blk_set (blk_set HBX2.out 0 (.int .i64 1)) 1 (.bool true)) 2 (.bool false)) 3 (.int .u64 18446744073709551488)) 4 (.int .u64 18446744073709551489)) 5 (.int .u64 127); simpa using z) Tryd.underlying47 rfl (by kernel_rfl)) rfl ?_
  exact ⟨rfl, (((((HB2.out.setCell HGB.out _).setCell HGB.out _).setCell HGB.out _).setCell HGB.out _).setCell HGB.out _).setCell HGB.out _⟩

theorem of_2 (w : World) (hT : Tab w) :
    Calls Tryd.prog 30 #[.int .i64 2] w fun e w' => e = .returned (.agg #[.int .i64 2, .bool true, .bool false, .int .u64 18446744073709518848, .int .u64 18446744073709518849, .int .u64 32767]) ∧ Below w.heap.size w w' := by
  have hu47 := Tryd.underlying47
  have h0 : w.cell? ⟨0, 2, none⟩ = some (.int .i64 2) := hT 2 (by omega)
  have hlt := World.block_lt_of_cell? w _ h0
  simp only at hlt
  have hne : w.heap.size ≠ 0 := by omega
  clear hT
  go_enter Tryd.func30, Tryd.ntmps30
  go_wp2_with (first | ((with_reducible refine gate_dst (N := 2) rfl ?_); refine box_event ?hg (N := 2) ?hd (cs := #[.int .i64 0, .bool false, .bool false, .int .u64 0, .int .u64 0, .int .u64 0]) (t := 47) ?hr ?_; (case hd => rfl); (case hg => rfl); (case hr => first | (go_simp; done) | (go_simp; rfl)); intro gb hgb w1 hbox hb; have HB := Aside0.mk hb; have HBX := Aside0.mk hbox; have HGB := Aside0.mk (Nat.le_of_eq hgb.symm); have h1 : w1.cell? ⟨0, 2, none⟩ = some (.int .i64 2) := pw_cell_below hb h0; clear hgb hbox hb h0 hlt hne) | (go_at_call 43; refine (prim_signed.calls 2 2 true false 18446744073709518848 18446744073709518849 32767 _ sgn2).mono ?_; rintro _ w2 ⟨rfl, hb2⟩; have HB2 := Aside0.mk (below_step HB.out hb2); have HBX2 := Aside0.mk ((hb2.block gb (blk_lt HBX.out)).trans HBX.out); clear hb2; have z0 := blk_cell HBX2.out 0; have z1 := blk_cell HBX2.out 1; have z2 := blk_cell HBX2.out 2; have z3 := blk_cell HBX2.out 3; have z4 := blk_cell HBX2.out 4; have z5 := blk_cell HBX2.out 5; simp at z0 z1 z2 z3 z4 z5; have f0 := blk_frozen HBX2.out 0; have f1 := blk_frozen HBX2.out 1; have f2 := blk_frozen HBX2.out 2; have f3 := blk_frozen HBX2.out 3; have f4 := blk_frozen HBX2.out 4; have f5 := blk_frozen HBX2.out 5))
  refine bodyPost_ret (results_cell_row rfl _ _ gb 47 #[.int .i64 2, .bool true, .bool false, .int .u64 18446744073709518848, .int .u64 18446744073709518849, .int .u64 32767] (0, 0) _ rfl (by have z := blk_set (blk_set (blk_set (blk_set (blk_set (blk_set HBX2.out 0 (.int .i64 2)) 1 (.bool true)) 2 (.bool false)) 3 (.int .u64 18446744073709518848)) 4 (.int .u64 18446744073709518849)) 5 (.int .u64 32767); simpa using z) Tryd.underlying47 rfl (by kernel_rfl)) rfl ?_
  exact ⟨rfl, (((((HB2.out.setCell HGB.out _).setCell HGB.out _).setCell HGB.out _).setCell HGB.out _).setCell HGB.out _).setCell HGB.out _⟩

theorem of_3 (w : World) (hT : Tab w) :
    Calls Tryd.prog 30 #[.int .i64 3] w fun e w' => e = .returned (.agg #[.int .i64 4, .bool true, .bool false, .int .u64 18446744071562067968, .int .u64 18446744071562067969, .int .u64 2147483647]) ∧ Below w.heap.size w w' := by
  have hu47 := Tryd.underlying47
  have h0 : w.cell? ⟨0, 3, none⟩ = some (.int .i64 4) := hT 3 (by omega)
  have hlt := World.block_lt_of_cell? w _ h0
  simp only at hlt
  have hne : w.heap.size ≠ 0 := by omega
  clear hT
  go_enter Tryd.func30, Tryd.ntmps30
  go_wp2_with (first | ((with_reducible refine gate_dst (N := 2) rfl ?_); refine box_event ?hg (N := 2) ?hd (cs := #[.int .i64 0, .bool false, .bool false, .int .u64 0, .int .u64 0, .int .u64 0]) (t := 47) ?hr ?_; (case hd => rfl); (case hg => rfl); (case hr => first | (go_simp; done) | (go_simp; rfl)); intro gb hgb w1 hbox hb; have HB := Aside0.mk hb; have HBX := Aside0.mk hbox; have HGB := Aside0.mk (Nat.le_of_eq hgb.symm); have h1 : w1.cell? ⟨0, 3, none⟩ = some (.int .i64 4) := pw_cell_below hb h0; clear hgb hbox hb h0 hlt hne) | (go_at_call 43; refine (prim_signed.calls 4 4 true false 18446744071562067968 18446744071562067969 2147483647 _ sgn4).mono ?_; rintro _ w2 ⟨rfl, hb2⟩; have HB2 := Aside0.mk (below_step HB.out hb2); have HBX2 := Aside0.mk ((hb2.block gb (blk_lt HBX.out)).trans HBX.out); clear hb2; have z0 := blk_cell HBX2.out 0; have z1 := blk_cell HBX2.out 1; have z2 := blk_cell HBX2.out 2; have z3 := blk_cell HBX2.out 3; have z4 := blk_cell HBX2.out 4; have z5 := blk_cell HBX2.out 5; simp at z0 z1 z2 z3 z4 z5; have f0 := blk_frozen HBX2.out 0; have f1 := blk_frozen HBX2.out 1; have f2 := blk_frozen HBX2.out 2; have f3 := blk_frozen HBX2.out 3; have f4 := blk_frozen HBX2.out 4; have f5 := blk_frozen HBX2.out 5))
  refine bodyPost_ret (results_cell_row rfl _ _ gb 47 #[.int .i64 4, .bool true, .bool false, .int .u64 18446744071562067968, .int .u64 18446744071562067969, .int .u64 2147483647] (0, 0) _ rfl (by have z := blk_set (blk_set (blk_set (blk_set (blk_set (blk_set HBX2.out 0 (.int .i64 4)) 1 (.bool true)) 2 (.bool false)) 3 (.int .u64 18446744071562067968)) 4 (.int .u64 18446744071562067969)) 5 (.int .u64 2147483647); simpa using z) Tryd.underlying47 rfl (by kernel_rfl)) rfl ?_
  exact ⟨rfl, (((((HB2.out.setCell HGB.out _).setCell HGB.out _).setCell HGB.out _).setCell HGB.out _).setCell HGB.out _).setCell HGB.out _⟩

theorem of_4 (w : World) (hT : Tab w) :
    Calls Tryd.prog 30 #[.int .i64 4] w fun e w' => e = .returned (.agg #[.int .i64 8, .bool true, .bool false, .int .u64 9223372036854775808, .int .u64 9223372036854775809, .int .u64 9223372036854775807]) ∧ Below w.heap.size w w' := by
  have hu47 := Tryd.underlying47
  have h0 : w.cell? ⟨0, 4, none⟩ = some (.int .i64 8) := hT 4 (by omega)
  have hlt := World.block_lt_of_cell? w _ h0
  simp only at hlt
  have hne : w.heap.size ≠ 0 := by omega
  clear hT
  go_enter Tryd.func30, Tryd.ntmps30
  go_wp2_with (first | ((with_reducible refine gate_dst (N := 2) rfl ?_); refine box_event ?hg (N := 2) ?hd (cs := #[.int .i64 0, .bool false, .bool false, .int .u64 0, .int .u64 0, .int .u64 0]) (t := 47) ?hr ?_; (case hd => rfl); (case hg => rfl); (case hr => first | (go_simp; done) | (go_simp; rfl)); intro gb hgb w1 hbox hb; have HB := Aside0.mk hb; have HBX := Aside0.mk hbox; have HGB := Aside0.mk (Nat.le_of_eq hgb.symm); have h1 : w1.cell? ⟨0, 4, none⟩ = some (.int .i64 8) := pw_cell_below hb h0; clear hgb hbox hb h0 hlt hne) | (go_at_call 43; refine (prim_signed.calls 8 8 true false 9223372036854775808 9223372036854775809 9223372036854775807 _ sgn8).mono ?_; rintro _ w2 ⟨rfl, hb2⟩; have HB2 := Aside0.mk (below_step HB.out hb2); have HBX2 := Aside0.mk ((hb2.block gb (blk_lt HBX.out)).trans HBX.out); clear hb2; have z0 := blk_cell HBX2.out 0; have z1 := blk_cell HBX2.out 1; have z2 := blk_cell HBX2.out 2; have z3 := blk_cell HBX2.out 3; have z4 := blk_cell HBX2.out 4; have z5 := blk_cell HBX2.out 5; simp at z0 z1 z2 z3 z4 z5; have f0 := blk_frozen HBX2.out 0; have f1 := blk_frozen HBX2.out 1; have f2 := blk_frozen HBX2.out 2; have f3 := blk_frozen HBX2.out 3; have f4 := blk_frozen HBX2.out 4; have f5 := blk_frozen HBX2.out 5))
  refine bodyPost_ret (results_cell_row rfl _ _ gb 47 #[.int .i64 8, .bool true, .bool false, .int .u64 9223372036854775808, .int .u64 9223372036854775809, .int .u64 9223372036854775807] (0, 0) _ rfl (by have z := blk_set (blk_set (blk_set (blk_set (blk_set (blk_set HBX2.out 0 (.int .i64 8)) 1 (.bool true)) 2 (.bool false)) 3 (.int .u64 9223372036854775808)) 4 (.int .u64 9223372036854775809)) 5 (.int .u64 9223372036854775807); simpa using z) Tryd.underlying47 rfl (by kernel_rfl)) rfl ?_
  exact ⟨rfl, (((((HB2.out.setCell HGB.out _).setCell HGB.out _).setCell HGB.out _).setCell HGB.out _).setCell HGB.out _).setCell HGB.out _⟩

theorem of_5 (w : World) (hT : Tab w) :
    Calls Tryd.prog 30 #[.int .i64 5] w fun e w' => e = .returned (.agg #[.int .i64 1, .bool false, .bool false, .int .u64 255, .int .u64 0, .int .u64 254]) ∧ Below w.heap.size w w' := by
  have hu47 := Tryd.underlying47
  have h0 : w.cell? ⟨0, 5, none⟩ = some (.int .i64 1) := hT 5 (by omega)
  have hlt := World.block_lt_of_cell? w _ h0
  simp only at hlt
  have hne : w.heap.size ≠ 0 := by omega
  clear hT
  go_enter Tryd.func30, Tryd.ntmps30
  go_wp2_with (first | ((with_reducible refine gate_dst (N := 2) rfl ?_); refine box_event ?hg (N := 2) ?hd (cs := #[.int .i64 0, .bool false, .bool false, .int .u64 0, .int .u64 0, .int .u64 0]) (t := 47) ?hr ?_; (case hd => rfl); (case hg => rfl); (case hr => first | (go_simp; done) | (go_simp; rfl)); intro gb hgb w1 hbox hb; have HB := Aside0.mk hb; have HBX := Aside0.mk hbox; have HGB := Aside0.mk (Nat.le_of_eq hgb.symm); have h1 : w1.cell? ⟨0, 5, none⟩ = some (.int .i64 1) := pw_cell_below hb h0; clear hgb hbox hb h0 hlt hne) | (go_at_call 44; refine (prim_unsigned.calls 1 1 false false 255 0 254 _ uns1).mono ?_; rintro _ w2 ⟨rfl, hb2⟩; have HB2 := Aside0.mk (below_step HB.out hb2); have HBX2 := Aside0.mk ((hb2.block gb (blk_lt HBX.out)).trans HBX.out); clear hb2; have z0 := blk_cell HBX2.out 0; have z1 := blk_cell HBX2.out 1; have z2 := blk_cell HBX2.out 2; have z3 := blk_cell HBX2.out 3; have z4 := blk_cell HBX2.out 4; have z5 := blk_cell HBX2.out 5; simp at z0 z1 z2 z3 z4 z5; have f0 := blk_frozen HBX2.out 0; have f1 := blk_frozen HBX2.out 1; have f2 := blk_frozen HBX2.out 2; have f3 := blk_frozen HBX2.out 3; have f4 := blk_frozen HBX2.out 4; have f5 := blk_frozen HBX2.out 5))
  refine bodyPost_ret (results_cell_row rfl _ _ gb 47 #[.int .i64 1, .bool false, .bool false, .int .u64 255, .int .u64 0, .int .u64 254] (0, 0) _ rfl (by have z := blk_set (blk_set (blk_set (blk_set (blk_set (blk_set HBX2.out 0 (.int .i64 1)) 1 (.bool false)) 2 (.bool false)) 3 (.int .u64 255)) 4 (.int .u64 0)) 5 (.int .u64 254); simpa using z) Tryd.underlying47 rfl (by kernel_rfl)) rfl ?_
  exact ⟨rfl, (((((HB2.out.setCell HGB.out _).setCell HGB.out _).setCell HGB.out _).setCell HGB.out _).setCell HGB.out _).setCell HGB.out _⟩

theorem of_6 (w : World) (hT : Tab w) :
    Calls Tryd.prog 30 #[.int .i64 6] w fun e w' => e = .returned (.agg #[.int .i64 2, .bool false, .bool false, .int .u64 65535, .int .u64 0, .int .u64 65534]) ∧ Below w.heap.size w w' := by
  have hu47 := Tryd.underlying47
  have h0 : w.cell? ⟨0, 6, none⟩ = some (.int .i64 2) := hT 6 (by omega)
  have hlt := World.block_lt_of_cell? w _ h0
  simp only at hlt
  have hne : w.heap.size ≠ 0 := by omega
  clear hT
  go_enter Tryd.func30, Tryd.ntmps30
  go_wp2_with (first | ((with_reducible refine gate_dst (N := 2) rfl ?_); refine box_event ?hg (N := 2) ?hd (cs := #[.int .i64 0, .bool false, .bool false, .int .u64 0, .int .u64 0, .int .u64 0]) (t := 47) ?hr ?_; (case hd => rfl); (case hg => rfl); (case hr => first | (go_simp; done) | (go_simp; rfl)); intro gb hgb w1 hbox hb; have HB := Aside0.mk hb; have HBX := Aside0.mk hbox; have HGB := Aside0.mk (Nat.le_of_eq hgb.symm); have h1 : w1.cell? ⟨0, 6, none⟩ = some (.int .i64 2) := pw_cell_below hb h0; clear hgb hbox hb h0 hlt hne) | (go_at_call 44; refine (prim_unsigned.calls 2 2 false false 65535 0 65534 _ uns2).mono ?_; rintro _ w2 ⟨rfl, hb2⟩; have HB2 := Aside0.mk (below_step HB.out hb2); have HBX2 := Aside0.mk ((hb2.block gb (blk_lt HBX.out)).trans HBX.out); clear hb2; have z0 := blk_cell HBX2.out 0; have z1 := blk_cell HBX2.out 1; have z2 := blk_cell HBX2.out 2; have z3 := blk_cell HBX2.out 3; have z4 := blk_cell HBX2.out 4; have z5 := blk_cell HBX2.out 5; simp at z0 z1 z2 z3 z4 z5; have f0 := blk_frozen HBX2.out 0; have f1 := blk_frozen HBX2.out 1; have f2 := blk_frozen HBX2.out 2; have f3 := blk_frozen HBX2.out 3; have f4 := blk_frozen HBX2.out 4; have f5 := blk_frozen HBX2.out 5))
  refine bodyPost_ret (results_cell_row rfl _ _ gb 47 #[.int .i64 2, .bool false, .bool false, .int .u64 65535, .int .u64 0, .int .u64 65534] (0, 0) _ rfl (by have z := blk_set (blk_set (blk_set (blk_set (blk_set (blk_set HBX2.out 0 (.int .i64 2)) 1 (.bool false)) 2 (.bool false)) 3 (.int .u64 65535)) 4 (.int .u64 0)) 5 (.int .u64 65534); simpa using z) Tryd.underlying47 rfl (by kernel_rfl)) rfl ?_
  exact ⟨rfl, (((((HB2.out.setCell HGB.out _).setCell HGB.out _).setCell HGB.out _).setCell HGB.out _).setCell HGB.out _).setCell HGB.out _⟩

theorem of_7 (w : World) (hT : Tab w) :
    Calls Tryd.prog 30 #[.int .i64 7] w fun e w' => e = .returned (.agg #[.int .i64 4, .bool false, .bool false, .int .u64 4294967295, .int .u64 0, .int .u64 4294967294]) ∧ Below w.heap.size w w' := by
  have hu47 := Tryd.underlying47
  have h0 : w.cell? ⟨0, 7, none⟩ = some (.int .i64 4) := hT 7 (by omega)
  have hlt := World.block_lt_of_cell? w _ h0
  simp only at hlt
  have hne : w.heap.size ≠ 0 := by omega
  clear hT
  go_enter Tryd.func30, Tryd.ntmps30
  go_wp2_with (first | ((with_reducible refine gate_dst (N := 2) rfl ?_); refine box_event ?hg (N := 2) ?hd (cs := #[.int .i64 0, .bool false, .bool false, .int .u64 0, .int .u64 0, .int .u64 0]) (t := 47) ?hr ?_; (case hd => rfl); (case hg => rfl); (case hr => first | (go_simp; done) | (go_simp; rfl)); intro gb hgb w1 hbox hb; have HB := Aside0.mk hb; have HBX := Aside0.mk hbox; have HGB := Aside0.mk (Nat.le_of_eq hgb.symm); have h1 : w1.cell? ⟨0, 7, none⟩ = some (.int .i64 4) := pw_cell_below hb h0; clear hgb hbox hb h0 hlt hne) | (go_at_call 44; refine (prim_unsigned.calls 4 4 false false 4294967295 0 4294967294 _ uns4).mono ?_; rintro _ w2 ⟨rfl, hb2⟩; have HB2 := Aside0.mk (below_step HB.out hb2); have HBX2 := Aside0.mk ((hb2.block gb (blk_lt HBX.out)).trans HBX.out); clear hb2; have z0 := blk_cell HBX2.out 0; have z1 := blk_cell HBX2.out 1; have z2 := blk_cell HBX2.out 2; have z3 := blk_cell HBX2.out 3; have z4 := blk_cell HBX2.out 4; have z5 := blk_cell HBX2.out 5; simp at z0 z1 z2 z3 z4 z5; have f0 := blk_frozen HBX2.out 0; have f1 := blk_frozen HBX2.out 1; have f2 := blk_frozen HBX2.out 2; have f3 := blk_frozen HBX2.out 3; have f4 := blk_frozen HBX2.out 4; have f5 := blk_frozen HBX2.out 5))
  refine bodyPost_ret (results_cell_row rfl _ _ gb 47 #[.int .i64 4, .bool false, .bool false, .int .u64 4294967295, .int .u64 0, .int .u64 4294967294] (0, 0) _ rfl (by have z := blk_set (blk_set (blk_set (blk_set (blk_set (blk_set HBX2.out 0 (.int .i64 4)) 1 (.bool false)) 2 (.bool false)) 3 (.int .u64 4294967295)) 4 (.int .u64 0)) 5 (.int .u64 4294967294); simpa using z) Tryd.underlying47 rfl (by kernel_rfl)) rfl ?_
  exact ⟨rfl, (((((HB2.out.setCell HGB.out _).setCell HGB.out _).setCell HGB.out _).setCell HGB.out _).setCell HGB.out _).setCell HGB.out _⟩

theorem of_8 (w : World) (hT : Tab w) :
    Calls Tryd.prog 30 #[.int .i64 8] w fun e w' => e = .returned (.agg #[.int .i64 8, .bool false, .bool false, .int .u64 18446744073709551615, .int .u64 0, .int .u64 18446744073709551614]) ∧ Below w.heap.size w w' := by
  have hu47 := Tryd.underlying47
  have h0 : w.cell? ⟨0, 8, none⟩ = some (.int .i64 8) := hT 8 (by omega)
  have hlt := World.block_lt_of_cell? w _ h0
  simp only at hlt
  have hne : w.heap.size ≠ 0 := by omega
  clear hT
  go_enter Tryd.func30, Tryd.ntmps30
  go_wp2_with (first | ((with_reducible refine gate_dst (N := 2) rfl ?_); refine box_event ?hg (N := 2) ?hd (cs := #[.int .i64 0, .bool false, .bool false, .int .u64 0, .int .u64 0, .int .u64 0]) (t := 47) ?hr ?_; (case hd => rfl); (case hg => rfl); (case hr => first | (go_simp; done) | (go_simp; rfl)); intro gb hgb w1 hbox hb; have HB := Aside0.mk hb; have HBX := Aside0.mk hbox; have HGB := Aside0.mk (Nat.le_of_eq hgb.symm); have h1 : w1.cell? ⟨0, 8, none⟩ = some (.int .i64 8) := pw_cell_below hb h0; clear hgb hbox hb h0 hlt hne) | (go_at_call 44; refine (prim_unsigned.calls 8 8 false false 18446744073709551615 0 18446744073709551614 _ uns8).mono ?_; rintro _ w2 ⟨rfl, hb2⟩; have HB2 := Aside0.mk (below_step HB.out hb2); have HBX2 := Aside0.mk ((hb2.block gb (blk_lt HBX.out)).trans HBX.out); clear hb2; have z0 := blk_cell HBX2.out 0; have z1 := blk_cell HBX2.out 1; have z2 := blk_cell HBX2.out 2; have z3 := blk_cell HBX2.out 3; have z4 := blk_cell HBX2.out 4; have z5 := blk_cell HBX2.out 5; simp at z0 z1 z2 z3 z4 z5; have f0 := blk_frozen HBX2.out 0; have f1 := blk_frozen HBX2.out 1; have f2 := blk_frozen HBX2.out 2; have f3 := blk_frozen HBX2.out 3; have f4 := blk_frozen HBX2.out 4; have f5 := blk_frozen HBX2.out 5))
  refine bodyPost_ret (results_cell_row rfl _ _ gb 47 #[.int .i64 8, .bool false, .bool false, .int .u64 18446744073709551615, .int .u64 0, .int .u64 18446744073709551614] (0, 0) _ rfl (by have z := blk_set (blk_set (blk_set (blk_set (blk_set (blk_set HBX2.out 0 (.int .i64 8)) 1 (.bool false)) 2 (.bool false)) 3 (.int .u64 18446744073709551615)) 4 (.int .u64 0)) 5 (.int .u64 18446744073709551614); simpa using z) Tryd.underlying47 rfl (by kernel_rfl)) rfl ?_
  exact ⟨rfl, (((((HB2.out.setCell HGB.out _).setCell HGB.out _).setCell HGB.out _).setCell HGB.out _).setCell HGB.out _).setCell HGB.out _⟩

theorem of_9 (w : World) (hT : Tab w) :
    Calls Tryd.prog 30 #[.int .i64 9] w fun e w' => e = .returned (.agg #[.int .i64 4, .bool false, .bool true, .int .u64 2143289344, .int .u64 0, .int .u64 4294967295]) ∧ Below w.heap.size w w' := by
  have hu47 := Tryd.underlying47
  have h0 : w.cell? ⟨0, 9, none⟩ = some (.int .i64 4) := hT 9 (by omega)
  have hlt := World.block_lt_of_cell? w _ h0
  simp only at hlt
  have hne : w.heap.size ≠ 0 := by omega
  clear hT
  go_enter Tryd.func30, Tryd.ntmps30
  go_wp2
  refine bodyPost_ret (results_cell_row rfl _ _ w.heap.size 47 #[.int .i64 4, .bool false, .bool true, .int .u64 2143289344, .int .u64 0, .int .u64 4294967295] (0, 0) _ rfl (heap_alloc_new w _) Tryd.underlying47 rfl (by kernel_rfl)) rfl ?_
  exact ⟨rfl, below_alloc (Below.refl _ _) _⟩

theorem of_10 (w : World) (hT : Tab w) :
    Calls Tryd.prog 30 #[.int .i64 10] w fun e w' => e = .returned (.agg #[.int .i64 8, .bool false, .bool true, .int .u64 9221120237041090560, .int .u64 0, .int .u64 18446744073709551615]) ∧ Below w.heap.size w w' := by
  have hu47 := Tryd.underlying47
  have h0 : w.cell? ⟨0, 10, none⟩ = some (.int .i64 8) := hT 10 (by omega)
  have hlt := World.block_lt_of_cell? w _ h0
  simp only at hlt
  have hne : w.heap.size ≠ 0 := by omega
  clear hT
  go_enter Tryd.func30, Tryd.ntmps30
  go_wp2
  refine bodyPost_ret (results_cell_row rfl _ _ w.heap.size 47 #[.int .i64 8, .bool false, .bool true, .int .u64 9221120237041090560, .int .u64 0, .int .u64 18446744073709551615] (0, 0) _ rfl (heap_alloc_new w _) Tryd.underlying47 rfl (by kernel_rfl)) rfl ?_
  exact ⟨rfl, below_alloc (Below.refl _ _) _⟩

theorem of_none (p : Int) (w : World) (h : p < 0 ∨ 10 < p) :
    Calls Tryd.prog 30 #[.int .i64 p] w fun e w' => e = .returned (.agg #[.int .i64 0, .bool false, .bool false, .int .u64 0, .int .u64 0, .int .u64 0]) ∧ Below w.heap.size w w' := by
  have hu47 := Tryd.underlying47
  have q0 : (p == 0) = false := by rw [beq_eq_false_iff_ne]; omega
  have q1 : (p == 1) = false := by rw [beq_eq_false_iff_ne]; omega
  have q2 : (p == 2) = false := by rw [beq_eq_false_iff_ne]; omega
  have q3 : (p == 3) = false := by rw [beq_eq_false_iff_ne]; omega
  have q4 : (p == 4) = false := by rw [beq_eq_false_iff_ne]; omega
  have q5 : (p == 5) = false := by rw [beq_eq_false_iff_ne]; omega
  have q6 : (p == 6) = false := by rw [beq_eq_false_iff_ne]; omega
  have q7 : (p == 7) = false := by rw [beq_eq_false_iff_ne]; omega
  have q8 : (p == 8) = false := by rw [beq_eq_false_iff_ne]; omega
  have q9 : (p == 9) = false := by rw [beq_eq_false_iff_ne]; omega
  have q10 : (p == 10) = false := by rw [beq_eq_false_iff_ne]; omega
  go_enter Tryd.func30, Tryd.ntmps30
  go_wp2
  refine bodyPost_ret (results_cell_row rfl _ _ w.heap.size 47 #[.int .i64 0, .bool false, .bool false, .int .u64 0, .int .u64 0, .int .u64 0] (0, 0) _ rfl (heap_alloc_new w _) Tryd.underlying47 rfl (by kernel_rfl)) rfl ?_
  exact ⟨rfl, below_alloc (Below.refl _ _) _⟩

theorem prim_of.calls (a0 : Int) (r1 : Int) (r2 : Bool) (r3 : Bool) (r4 : Int) (r5 : Int) (r6 : Int) (w : World) (h : prim_of.f a0 = some (r1, r2, r3, r4, r5, r6)) (hT : Tab w) :
    Calls Tryd.prog 30 #[.int .i64 a0] w fun e w' => e = .returned (.agg #[.int .i64 r1, .bool r2, .bool r3, .int .u64 r4, .int .u64 r5, .int .u64 r6]) ∧ Below w.heap.size w w' := by
  unfold prim_of.f at h
  injection h with h
  by_cases hn : a0 < 0 ∨ 10 < a0
  · have e : primRow a0 = (0, false, false, 0, 0, 0) := by
      unfold primRow
      rw [if_neg (by omega), if_neg (by omega), if_neg (by omega), if_neg (by omega), if_neg (by omega), if_neg (by omega), if_neg (by omega), if_neg (by omega), if_neg (by omega), if_neg (by omega), if_neg (by omega)]
    rw [e] at h
    simp only [Prod.mk.injEq] at h
    obtain ⟨rfl, rfl, rfl, rfl, rfl, rfl⟩ := h
    exact of_none a0 w hn
  · rcases (show a0 = 0 ∨ a0 = 1 ∨ a0 = 2 ∨ a0 = 3 ∨ a0 = 4 ∨ a0 = 5 ∨ a0 = 6 ∨ a0 = 7 ∨ a0 = 8 ∨ a0 = 9 ∨ a0 = 10 by omega) with rfl | rfl | rfl | rfl | rfl | rfl | rfl | rfl | rfl | rfl | rfl
    · obtain ⟨rfl, rfl, rfl, rfl, rfl, rfl⟩ : 1 = r1 ∧ false = r2 ∧ false = r3 ∧ 0 = r4 ∧ 32 = r5 ∧ 126 = r6 := by simpa [primRow] using h
      exact of_0 w hT
    · obtain ⟨rfl, rfl, rfl, rfl, rfl, rfl⟩ : 1 = r1 ∧ true = r2 ∧ false = r3 ∧ 18446744073709551488 = r4 ∧ 18446744073709551489 = r5 ∧ 127 = r6 := by simpa [primRow] using h
      exact of_1 w hT
    · obtain ⟨rfl, rfl, rfl, rfl, rfl, rfl⟩ : 2 = r1 ∧ true = r2 ∧ false = r3 ∧ 18446744073709518848 = r4 ∧ 18446744073709518849 = r5 ∧ 32767 = r6 := by simpa [primRow] using h
      exact of_2 w hT
    · obtain ⟨rfl, rfl, rfl, rfl, rfl, rfl⟩ : 4 = r1 ∧ true = r2 ∧ false = r3 ∧ 18446744071562067968 = r4 ∧ 18446744071562067969 = r5 ∧ 2147483647 = r6 := by simpa [primRow] using h
      exact of_3 w hT
    · obtain ⟨rfl, rfl, rfl, rfl, rfl, rfl⟩ : 8 = r1 ∧ true = r2 ∧ false = r3 ∧ 9223372036854775808 = r4 ∧ 9223372036854775809 = r5 ∧ 9223372036854775807 = r6 := by simpa [primRow] using h
      exact of_4 w hT
    · obtain ⟨rfl, rfl, rfl, rfl, rfl, rfl⟩ : 1 = r1 ∧ false = r2 ∧ false = r3 ∧ 255 = r4 ∧ 0 = r5 ∧ 254 = r6 := by simpa [primRow] using h
      exact of_5 w hT
    · obtain ⟨rfl, rfl, rfl, rfl, rfl, rfl⟩ : 2 = r1 ∧ false = r2 ∧ false = r3 ∧ 65535 = r4 ∧ 0 = r5 ∧ 65534 = r6 := by simpa [primRow] using h
      exact of_6 w hT
    · obtain ⟨rfl, rfl, rfl, rfl, rfl, rfl⟩ : 4 = r1 ∧ false = r2 ∧ false = r3 ∧ 4294967295 = r4 ∧ 0 = r5 ∧ 4294967294 = r6 := by simpa [primRow] using h
      exact of_7 w hT
    · obtain ⟨rfl, rfl, rfl, rfl, rfl, rfl⟩ : 8 = r1 ∧ false = r2 ∧ false = r3 ∧ 18446744073709551615 = r4 ∧ 0 = r5 ∧ 18446744073709551614 = r6 := by simpa [primRow] using h
      exact of_8 w hT
    · obtain ⟨rfl, rfl, rfl, rfl, rfl, rfl⟩ : 4 = r1 ∧ false = r2 ∧ true = r3 ∧ 2143289344 = r4 ∧ 0 = r5 ∧ 4294967295 = r6 := by simpa [primRow] using h
      exact of_9 w hT
    · obtain ⟨rfl, rfl, rfl, rfl, rfl, rfl⟩ : 8 = r1 ∧ false = r2 ∧ true = r3 ∧ 9221120237041090560 = r4 ∧ 0 = r5 ∧ 18446744073709551615 = r6 := by simpa [primRow] using h
      exact of_10 w hT

end Go.Proofs.YtgackepigegbkaaDoor.B
