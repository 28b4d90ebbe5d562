/- wide.Of, wide.Bytes of two numbers. -/
/- wide.Bytes of two numbers. -/
/- key.Stamp, key.Two of two numbers. -/
/- key.joined, key.Two. -/
import Derived.Test.YtagmldkcogidgaaGreatDoorTree
namespace Go.Proofs.YtagmldkcogidgaaGreatDoor
open Go.RowKit Pgp
set_option maxRecDepth 100000

theorem wof_any (n : Int) (w : World) : Calls Tryz.prog 186 #[.int .u64 n] w fun e w' => e = .returned (.agg #[.int .u64 0, .int .u64 n]) ∧ Below w.heap.size w w' := by
  go_enter Tryz.func186, Tryz.ntmps186
  go_wp2
  exact bodyPost_ret (results_cell_row rfl _ _ w.heap.size 46 _ (0, 0) _ rfl (heap_alloc_new _ _) rfl rfl rfl) rfl ⟨rfl, (Below.refl _ w).alloc (Nat.le_refl _) _⟩
end Go.Proofs.YtagmldkcogidgaaGreatDoor
namespace Go.Proofs.YtagmldkcogidgaaGreatDoor
open Go.RowKit Pgp
set_option maxRecDepth 100000

theorem wbytes_1 (w : World) : Calls Tryz.prog 86 #[.agg #[.int .u64 0, .int .u64 1]] w fun e w' => ∃ g L, e = .returned (.slice (some ⟨g, 0, none⟩) 16 16) ∧ w.heap.size ≤ g ∧ L.length = 16 ∧ Blk w' g L ∧ Below w.heap.size w w' := by
  obtain ⟨wa, hwa⟩ : ∃ wa, wa = w.alloc (.cells #[.int .u64 0, .int .u64 1] 46) := ⟨_, rfl⟩
  have hba : Below w.heap.size w wa := hwa ▸ (Below.refl _ w).alloc (Nat.le_refl _) _
  have x0 : wa.heap[w.heap.size]? = some (.cells #[.int .u64 0, .int .u64 1] 46 (0, 0)) := hwa ▸ heap_alloc_new _ _
  have hza : wa.heap.size = w.heap.size + 1 := hwa ▸ by simp
  obtain ⟨w0, hmk, o0, g0⟩ := make_zero wa wa.heap.size 16 (by decide) (Nat.le_refl _)
  have hmk : (Instr.makeSlice 29 (.int .i64 16) (.int .i64 16)).run Tryz.prog wa = .ok (.slice (some ⟨wa.heap.size, 0, none⟩) 16 16) w0 := hmk
  have hb0 : Below wa.heap.size wa w0 := (Below.refl _ _).grown g0 (Nat.le_refl _) (fun k h => by cases h)
  have h0 : Blk w0 wa.heap.size (Z 16) := Blk.of_own (L := Z 16) o0 (by rw [Z_len])
  have hx := (hb0.block w.heap.size (by omega)).trans x0
  have hne : w.heap.size < wa.heap.size := by omega
  clear o0 x0 hza
  generalize hG : wa.heap.size = g at *
  generalize hB : w.heap.size = B at *
  have hBn : B ≠ g := by omega
  have HB := Lib.hid (And.intro hba (And.intro hb0 (And.intro g0 (And.intro hne hG))))
  obtain ⟨L0, hL0⟩ : ∃ L, L = Z 16 := ⟨_, rfl⟩
  rw [← hL0] at h0
  have l0 : L0.length = 16 := by rw [hL0, Z_len]
  have H0 := Lib.hid h0
  have HE := Lib.hid hB
  have X0 := Lib.hid hx
  clear hba hb0 g0 hne hG h0 hL0 hB hx
  go_enter Tryz.func86, Tryz.ntmps86
  go_upto_region 1 with (fail)
  rw [← hwa]
  clear hwa
  go_upto_region 2 with (fail)
  rw [HE.out]
  clear hmk
  go_wp2
  refine wp_loop_rounds 9 ?_
  have c0 := H0.out.cell 0 (by omega)
  have d0 := H0.out.cell 8 (by omega)
  have e0 := H0.out.free (by omega) 0
  have f0 := H0.out.free (by omega) 8
  have y0 : w0.cell? ⟨B, 0, none⟩ = some (.int .u64 0) := by rw [cell_of_row _ _ _ _ _ _ X0.out]; rfl
  have y1 : w0.cell? ⟨B, 1, none⟩ = some (.int .u64 1) := by rw [cell_of_row _ _ _ _ _ _ X0.out]; rfl
  rw [rounds_succ]
  go_wp2
  have s0 : Blk (w0.setCell ⟨g, 0, none⟩ (.int .u8 0)) g (L0.set 0 0) ∧ w0.grownBy (w0.setCell ⟨g, 0, none⟩ (.int .u8 0)) (some g) := H0.out.store 0 0 (by omega)
  have t0 : Blk ((w0.setCell ⟨g, 0, none⟩ (.int .u8 0)).setCell ⟨g, 8, none⟩ (.int .u8 0)) g ((L0.set 0 0).set 8 0) ∧ (w0.setCell ⟨g, 0, none⟩ (.int .u8 0)).grownBy ((w0.setCell ⟨g, 0, none⟩ (.int .u8 0)).setCell ⟨g, 8, none⟩ (.int .u8 0)) (some g) := s0.1.store 8 0 (by rw [List.length_set]; omega)
  have j0 := s0.2.trans t0.2
  have t0 := t0.1
  have l1 : ((L0.set 0 0).set 8 0).length = 16 := by rw [List.length_set, List.length_set, l0]
  generalize (w0.setCell ⟨g, 0, none⟩ (.int .u8 0)).setCell ⟨g, 8, none⟩ (.int .u8 0) = w1 at *
  generalize (L0.set 0 0).set 8 0 = L1 at *
  have H1 := Lib.hid t0
  have X1 := Lib.hid ((j0.block B (lt_of_cell y0) (fun e => hBn (Option.some.inj e))).trans X0.out)
  have J1 := Lib.hid (j0)
  clear s0 t0 j0 c0 d0 e0 f0 y0 y1 H0 X0 l0
  have c1 := H1.out.cell 1 (by omega)
  have d1 := H1.out.cell 9 (by omega)
  have e1 := H1.out.free (by omega) 1
  have f1 := H1.out.free (by omega) 9
  have y0 : w1.cell? ⟨B, 0, none⟩ = some (.int .u64 0) := by rw [cell_of_row _ _ _ _ _ _ X1.out]; rfl
  have y1 : w1.cell? ⟨B, 1, none⟩ = some (.int .u64 1) := by rw [cell_of_row _ _ _ _ _ _ X1.out]; rfl
  rw [rounds_succ]
  go_wp2
  have s1 : Blk (w1.setCell ⟨g, 1, none⟩ (.int .u8 0)) g (L1.set 1 0) ∧ w1.grownBy (w1.setCell ⟨g, 1, none⟩ (.int .u8 0)) (some g) := H1.out.store 1 0 (by omega)
  have t1 : Blk ((w1.setCell ⟨g, 1, none⟩ (.int .u8 0)).setCell ⟨g, 9, none⟩ (.int .u8 0)) g ((L1.set 1 0).set 9 0) ∧ (w1.setCell ⟨g, 1, none⟩ (.int .u8 0)).grownBy ((w1.setCell ⟨g, 1, none⟩ (.int .u8 0)).setCell ⟨g, 9, none⟩ (.int .u8 0)) (some g) := s1.1.store 9 0 (by rw [List.length_set]; omega)
  have j1 := s1.2.trans t1.2
  have t1 := t1.1
  have l2 : ((L1.set 1 0).set 9 0).length = 16 := by rw [List.length_set, List.length_set, l1]
  generalize (w1.setCell ⟨g, 1, none⟩ (.int .u8 0)).setCell ⟨g, 9, none⟩ (.int .u8 0) = w2 at *
  generalize (L1.set 1 0).set 9 0 = L2 at *
  have H2 := Lib.hid t1
  have X2 := Lib.hid ((j1.block B (lt_of_cell y0) (fun e => hBn (Option.some.inj e))).trans X1.out)
  have J2 := Lib.hid (J1.out.trans j1)
  clear s1 t1 j1 c1 d1 e1 f1 y0 y1 H1 X1 l1 J1
  have c2 := H2.out.cell 2 (by omega)
  have d2 := H2.out.cell 10 (by omega)
  have e2 := H2.out.free (by omega) 2
  have f2 := H2.out.free (by omega) 10
  have y0 : w2.cell? ⟨B, 0, none⟩ = some (.int .u64 0) := by rw [cell_of_row _ _ _ _ _ _ X2.out]; rfl
  have y1 : w2.cell? ⟨B, 1, none⟩ = some (.int .u64 1) := by rw [cell_of_row _ _ _ _ _ _ X2.out]; rfl
  rw [rounds_succ]
  go_wp2
  have s2 : Blk (w2.setCell ⟨g, 2, none⟩ (.int .u8 0)) g (L2.set 2 0) ∧ w2.grownBy (w2.setCell ⟨g, 2, none⟩ (.int .u8 0)) (some g) := H2.out.store 2 0 (by omega)
  have t2 : Blk ((w2.setCell ⟨g, 2, none⟩ (.int .u8 0)).setCell ⟨g, 10, none⟩ (.int .u8 0)) g ((L2.set 2 0).set 10 0) ∧ (w2.setCell ⟨g, 2, none⟩ (.int .u8 0)).grownBy ((w2.setCell ⟨g, 2, none⟩ (.int .u8 0)).setCell ⟨g, 10, none⟩ (.int .u8 0)) (some g) := s2.1.store 10 0 (by rw [List.length_set]; omega)
  have j2 := s2.2.trans t2.2
  have t2 := t2.1
  have l3 : ((L2.set 2 0).set 10 0).length = 16 := by rw [List.length_set, List.length_set, l2]
  generalize (w2.setCell ⟨g, 2, none⟩ (.int .u8 0)).setCell ⟨g, 10, none⟩ (.int .u8 0) = w3 at *
  generalize (L2.set 2 0).set 10 0 = L3 at *
  have H3 := Lib.hid t2
  have X3 := Lib.hid ((j2.block B (lt_of_cell y0) (fun e => hBn (Option.some.inj e))).trans X2.out)
  have J3 := Lib.hid (J2.out.trans j2)
  clear s2 t2 j2 c2 d2 e2 f2 y0 y1 H2 X2 l2 J2
  have c3 := H3.out.cell 3 (by omega)
  have d3 := H3.out.cell 11 (by omega)
  have e3 := H3.out.free (by omega) 3
  have f3 := H3.out.free (by omega) 11
  have y0 : w3.cell? ⟨B, 0, none⟩ = some (.int .u64 0) := by rw [cell_of_row _ _ _ _ _ _ X3.out]; rfl
  have y1 : w3.cell? ⟨B, 1, none⟩ = some (.int .u64 1) := by rw [cell_of_row _ _ _ _ _ _ X3.out]; rfl
  rw [rounds_succ]
  go_wp2
  have s3 : Blk (w3.setCell ⟨g, 3, none⟩ (.int .u8 0)) g (L3.set 3 0) ∧ w3.grownBy (w3.setCell ⟨g, 3, none⟩ (.int .u8 0)) (some g) := H3.out.store 3 0 (by omega)
  have t3 : Blk ((w3.setCell ⟨g, 3, none⟩ (.int .u8 0)).setCell ⟨g, 11, none⟩ (.int .u8 0)) g ((L3.set 3 0).set 11 0) ∧ (w3.setCell ⟨g, 3, none⟩ (.int .u8 0)).grownBy ((w3.setCell ⟨g, 3, none⟩ (.int .u8 0)).setCell ⟨g, 11, none⟩ (.int .u8 0)) (some g) := s3.1.store 11 0 (by rw [List.length_set]; omega)
  have j3 := s3.2.trans t3.2
  have t3 := t3.1
  have l4 : ((L3.set 3 0).set 11 0).length = 16 := by rw [List.length_set, List.length_set, l3]
  generalize (w3.setCell ⟨g, 3, none⟩ (.int .u8 0)).setCell ⟨g, 11, none⟩ (.int .u8 0) = w4 at *
  generalize (L3.set 3 0).set 11 0 = L4 at *
  have H4 := Lib.hid t3
  have X4 := Lib.hid ((j3.block B (lt_of_cell y0) (fun e => hBn (Option.some.inj e))).trans X3.out)
  have J4 := Lib.hid (J3.out.trans j3)
  clear s3 t3 j3 c3 d3 e3 f3 y0 y1 H3 X3 l3 J3
  have c4 := H4.out.cell 4 (by omega)
  have d4 := H4.out.cell 12 (by omega)
  have e4 := H4.out.free (by omega) 4
  have f4 := H4.out.free (by omega) 12
  have y0 : w4.cell? ⟨B, 0, none⟩ = some (.int .u64 0) := by rw [cell_of_row _ _ _ _ _ _ X4.out]; rfl
  have y1 : w4.cell? ⟨B, 1, none⟩ = some (.int .u64 1) := by rw [cell_of_row _ _ _ _ _ _ X4.out]; rfl
  rw [rounds_succ]
  go_wp2
  have s4 : Blk (w4.setCell ⟨g, 4, none⟩ (.int .u8 0)) g (L4.set 4 0) ∧ w4.grownBy (w4.setCell ⟨g, 4, none⟩ (.int .u8 0)) (some g) := H4.out.store 4 0 (by omega)
  have t4 : Blk ((w4.setCell ⟨g, 4, none⟩ (.int .u8 0)).setCell ⟨g, 12, none⟩ (.int .u8 0)) g ((L4.set 4 0).set 12 0) ∧ (w4.setCell ⟨g, 4, none⟩ (.int .u8 0)).grownBy ((w4.setCell ⟨g, 4, none⟩ (.int .u8 0)).setCell ⟨g, 12, none⟩ (.int .u8 0)) (some g) := s4.1.store 12 0 (by rw [List.length_set]; omega)
  have j4 := s4.2.trans t4.2
  have t4 := t4.1
  have l5 : ((L4.set 4 0).set 12 0).length = 16 := by rw [List.length_set, List.length_set, l4]
  generalize (w4.setCell ⟨g, 4, none⟩ (.int .u8 0)).setCell ⟨g, 12, none⟩ (.int .u8 0) = w5 at *
  generalize (L4.set 4 0).set 12 0 = L5 at *
  have H5 := Lib.hid t4
  have X5 := Lib.hid ((j4.block B (lt_of_cell y0) (fun e => hBn (Option.some.inj e))).trans X4.out)
  have J5 := Lib.hid (J4.out.trans j4)
  clear s4 t4 j4 c4 d4 e4 f4 y0 y1 H4 X4 l4 J4
  have c5 := H5.out.cell 5 (by omega)
  have d5 := H5.out.cell 13 (by omega)
  have e5 := H5.out.free (by omega) 5
  have f5 := H5.out.free (by omega) 13
  have y0 : w5.cell? ⟨B, 0, none⟩ = some (.int .u64 0) := by rw [cell_of_row _ _ _ _ _ _ X5.out]; rfl
  have y1 : w5.cell? ⟨B, 1, none⟩ = some (.int .u64 1) := by rw [cell_of_row _ _ _ _ _ _ X5.out]; rfl
  rw [rounds_succ]
  go_wp2
  have s5 : Blk (w5.setCell ⟨g, 5, none⟩ (.int .u8 0)) g (L5.set 5 0) ∧ w5.grownBy (w5.setCell ⟨g, 5, none⟩ (.int .u8 0)) (some g) := H5.out.store 5 0 (by omega)
  have t5 : Blk ((w5.setCell ⟨g, 5, none⟩ (.int .u8 0)).setCell ⟨g, 13, none⟩ (.int .u8 0)) g ((L5.set 5 0).set 13 0) ∧ (w5.setCell ⟨g, 5, none⟩ (.int .u8 0)).grownBy ((w5.setCell ⟨g, 5, none⟩ (.int .u8 0)).setCell ⟨g, 13, none⟩ (.int .u8 0)) (some g) := s5.1.store 13 0 (by rw [List.length_set]; omega)
  have j5 := s5.2.trans t5.2
  have t5 := t5.1
  have l6 : ((L5.set 5 0).set 13 0).length = 16 := by rw [List.length_set, List.length_set, l5]
  generalize (w5.setCell ⟨g, 5, none⟩ (.int .u8 0)).setCell ⟨g, 13, none⟩ (.int .u8 0) = w6 at *
  generalize (L5.set 5 0).set 13 0 = L6 at *
  have H6 := Lib.hid t5
  have X6 := Lib.hid ((j5.block B (lt_of_cell y0) (fun e => hBn (Option.some.inj e))).trans X5.out)
  have J6 := Lib.hid (J5.out.trans j5)
  clear s5 t5 j5 c5 d5 e5 f5 y0 y1 H5 X5 l5 J5
  have c6 := H6.out.cell 6 (by omega)
  have d6 := H6.out.cell 14 (by omega)
  have e6 := H6.out.free (by omega) 6
  have f6 := H6.out.free (by omega) 14
  have y0 : w6.cell? ⟨B, 0, none⟩ = some (.int .u64 0) := by rw [cell_of_row _ _ _ _ _ _ X6.out]; rfl
  have y1 : w6.cell? ⟨B, 1, none⟩ = some (.int .u64 1) := by rw [cell_of_row _ _ _ _ _ _ X6.out]; rfl
  rw [rounds_succ]
  go_wp2
  have s6 : Blk (w6.setCell ⟨g, 6, none⟩ (.int .u8 0)) g (L6.set 6 0) ∧ w6.grownBy (w6.setCell ⟨g, 6, none⟩ (.int .u8 0)) (some g) := H6.out.store 6 0 (by omega)
  have t6 : Blk ((w6.setCell ⟨g, 6, none⟩ (.int .u8 0)).setCell ⟨g, 14, none⟩ (.int .u8 0)) g ((L6.set 6 0).set 14 0) ∧ (w6.setCell ⟨g, 6, none⟩ (.int .u8 0)).grownBy ((w6.setCell ⟨g, 6, none⟩ (.int .u8 0)).setCell ⟨g, 14, none⟩ (.int .u8 0)) (some g) := s6.1.store 14 0 (by rw [List.length_set]; omega)
  have j6 := s6.2.trans t6.2
  have t6 := t6.1
  have l7 : ((L6.set 6 0).set 14 0).length = 16 := by rw [List.length_set, List.length_set, l6]
  generalize (w6.setCell ⟨g, 6, none⟩ (.int .u8 0)).setCell ⟨g, 14, none⟩ (.int .u8 0) = w7 at *
  generalize (L6.set 6 0).set 14 0 = L7 at *
  have H7 := Lib.hid t6
  have X7 := Lib.hid ((j6.block B (lt_of_cell y0) (fun e => hBn (Option.some.inj e))).trans X6.out)
  have J7 := Lib.hid (J6.out.trans j6)
  clear s6 t6 j6 c6 d6 e6 f6 y0 y1 H6 X6 l6 J6
  have c7 := H7.out.cell 7 (by omega)
  have d7 := H7.out.cell 15 (by omega)
  have e7 := H7.out.free (by omega) 7
  have f7 := H7.out.free (by omega) 15
  have y0 : w7.cell? ⟨B, 0, none⟩ = some (.int .u64 0) := by rw [cell_of_row _ _ _ _ _ _ X7.out]; rfl
  have y1 : w7.cell? ⟨B, 1, none⟩ = some (.int .u64 1) := by rw [cell_of_row _ _ _ _ _ _ X7.out]; rfl
  rw [rounds_succ]
  go_wp2
  have s7 : Blk (w7.setCell ⟨g, 7, none⟩ (.int .u8 0)) g (L7.set 7 0) ∧ w7.grownBy (w7.setCell ⟨g, 7, none⟩ (.int .u8 0)) (some g) := H7.out.store 7 0 (by omega)
  have t7 : Blk ((w7.setCell ⟨g, 7, none⟩ (.int .u8 0)).setCell ⟨g, 15, none⟩ (.int .u8 1)) g ((L7.set 7 0).set 15 1) ∧ (w7.setCell ⟨g, 7, none⟩ (.int .u8 0)).grownBy ((w7.setCell ⟨g, 7, none⟩ (.int .u8 0)).setCell ⟨g, 15, none⟩ (.int .u8 1)) (some g) := s7.1.store 15 1 (by rw [List.length_set]; omega)
  have j7 := s7.2.trans t7.2
  have t7 := t7.1
  have l8 : ((L7.set 7 0).set 15 1).length = 16 := by rw [List.length_set, List.length_set, l7]
  generalize (w7.setCell ⟨g, 7, none⟩ (.int .u8 0)).setCell ⟨g, 15, none⟩ (.int .u8 1) = w8 at *
  generalize (L7.set 7 0).set 15 1 = L8 at *
  have H8 := Lib.hid t7
  have X8 := Lib.hid ((j7.block B (lt_of_cell y0) (fun e => hBn (Option.some.inj e))).trans X7.out)
  have J8 := Lib.hid (J7.out.trans j7)
  clear s7 t7 j7 c7 d7 e7 f7 y0 y1 H7 X7 l7 J7
  rw [rounds_succ]
  go_wp2
  go_returns
  obtain ⟨hba, hb0, g0, hne, hG⟩ := HB.out
  have hbb : Below B w w0 := hba.trans (hb0.mono (by omega))
  exact ⟨g, L8, rfl, by omega, l8, H8.out, hbb.grown J8.out (by have := hbb.size; have := HE.out; omega) (fun k e => by cases e; omega)⟩

theorem wbytes_top (w : World) : Calls Tryz.prog 86 #[.agg #[.int .u64 0, .int .u64 18446744073709551615]] w fun e w' => ∃ g L, e = .returned (.slice (some ⟨g, 0, none⟩) 16 16) ∧ w.heap.size ≤ g ∧ L.length = 16 ∧ Blk w' g L ∧ Below w.heap.size w w' := by
  obtain ⟨wa, hwa⟩ : ∃ wa, wa = w.alloc (.cells #[.int .u64 0, .int .u64 18446744073709551615] 46) := ⟨_, rfl⟩
  have hba : Below w.heap.size w wa := hwa ▸ (Below.refl _ w).alloc (Nat.le_refl _) _
  have x0 : wa.heap[w.heap.size]? = some (.cells #[.int .u64 0, .int .u64 18446744073709551615] 46 (0, 0)) := hwa ▸ heap_alloc_new _ _
  have hza : wa.heap.size = w.heap.size + 1 := hwa ▸ by simp
  obtain ⟨w0, hmk, o0, g0⟩ := make_zero wa wa.heap.size 16 (by decide) (Nat.le_refl _)
  have hmk : (Instr.makeSlice 29 (.int .i64 16) (.int .i64 16)).run Tryz.prog wa = .ok (.slice (some ⟨wa.heap.size, 0, none⟩) 16 16) w0 := hmk
  have hb0 : Below wa.heap.size wa w0 := (Below.refl _ _).grown g0 (Nat.le_refl _) (fun k h => by cases h)
  have h0 : Blk w0 wa.heap.size (Z 16) := Blk.of_own (L := Z 16) o0 (by rw [Z_len])
  have hx := (hb0.block w.heap.size (by omega)).trans x0
  have hne : w.heap.size < wa.heap.size := by omega
  clear o0 x0 hza
  generalize hG : wa.heap.size = g at *
  generalize hB : w.heap.size = B at *
  have hBn : B ≠ g := by omega
  have HB := Lib.hid (And.intro hba (And.intro hb0 (And.intro g0 (And.intro hne hG))))
  obtain ⟨L0, hL0⟩ : ∃ L, L = Z 16 := ⟨_, rfl⟩
  rw [← hL0] at h0
  have l0 : L0.length = 16 := by rw [hL0, Z_len]
  have H0 := Lib.hid h0
  have HE := Lib.hid hB
  have X0 := Lib.hid hx
  clear hba hb0 g0 hne hG h0 hL0 hB hx
  go_enter Tryz.func86, Tryz.ntmps86
  go_upto_region 1 with (fail)
  rw [← hwa]
  clear hwa
  go_upto_region 2 with (fail)
  rw [HE.out]
  clear hmk
  go_wp2
  refine wp_loop_rounds 9 ?_
  have c0 := H0.out.cell 0 (by omega)
  have d0 := H0.out.cell 8 (by omega)
  have e0 := H0.out.free (by omega) 0
  have f0 := H0.out.free (by omega) 8
  have y0 : w0.cell? ⟨B, 0, none⟩ = some (.int .u64 0) := by rw [cell_of_row _ _ _ _ _ _ X0.out]; rfl
  have y1 : w0.cell? ⟨B, 1, none⟩ = some (.int .u64 18446744073709551615) := by rw [cell_of_row _ _ _ _ _ _ X0.out]; rfl
  rw [rounds_succ]
  go_wp2
  have s0 : Blk (w0.setCell ⟨g, 0, none⟩ (.int .u8 0)) g (L0.set 0 0) ∧ w0.grownBy (w0.setCell ⟨g, 0, none⟩ (.int .u8 0)) (some g) := H0.out.store 0 0 (by omega)
  have t0 : Blk ((w0.setCell ⟨g, 0, none⟩ (.int .u8 0)).setCell ⟨g, 8, none⟩ (.int .u8 255)) g ((L0.set 0 0).set 8 255) ∧ (w0.setCell ⟨g, 0, none⟩ (.int .u8 0)).grownBy ((w0.setCell ⟨g, 0, none⟩ (.int .u8 0)).setCell ⟨g, 8, none⟩ (.int .u8 255)) (some g) := s0.1.store 8 255 (by rw [List.length_set]; omega)
  have j0 := s0.2.trans t0.2
  have t0 := t0.1
  have l1 : ((L0.set 0 0).set 8 255).length = 16 := by rw [List.length_set, List.length_set, l0]
  generalize (w0.setCell ⟨g, 0, none⟩ (.int .u8 0)).setCell ⟨g, 8, none⟩ (.int .u8 255) = w1 at *
  generalize (L0.set 0 0).set 8 255 = L1 at *
  have H1 := Lib.hid t0
  have X1 := Lib.hid ((j0.block B (lt_of_cell y0) (fun e => hBn (Option.some.inj e))).trans X0.out)
  have J1 := Lib.hid (j0)
  clear s0 t0 j0 c0 d0 e0 f0 y0 y1 H0 X0 l0
  have c1 := H1.out.cell 1 (by omega)
  have d1 := H1.out.cell 9 (by omega)
  have e1 := H1.out.free (by omega) 1
  have f1 := H1.out.free (by omega) 9
  have y0 : w1.cell? ⟨B, 0, none⟩ = some (.int .u64 0) := by rw [cell_of_row _ _ _ _ _ _ X1.out]; rfl
  have y1 : w1.cell? ⟨B, 1, none⟩ = some (.int .u64 18446744073709551615) := by rw [cell_of_row _ _ _ _ _ _ X1.out]; rfl
  rw [rounds_succ]
  go_wp2
  have s1 : Blk (w1.setCell ⟨g, 1, none⟩ (.int .u8 0)) g (L1.set 1 0) ∧ w1.grownBy (w1.setCell ⟨g, 1, none⟩ (.int .u8 0)) (some g) := H1.out.store 1 0 (by omega)
  have t1 : Blk ((w1.setCell ⟨g, 1, none⟩ (.int .u8 0)).setCell ⟨g, 9, none⟩ (.int .u8 255)) g ((L1.set 1 0).set 9 255) ∧ (w1.setCell ⟨g, 1, none⟩ (.int .u8 0)).grownBy ((w1.setCell ⟨g, 1, none⟩ (.int .u8 0)).setCell ⟨g, 9, none⟩ (.int .u8 255)) (some g) := s1.1.store 9 255 (by rw [List.length_set]; omega)
  have j1 := s1.2.trans t1.2
  have t1 := t1.1
  have l2 : ((L1.set 1 0).set 9 255).length = 16 := by rw [List.length_set, List.length_set, l1]
  generalize (w1.setCell ⟨g, 1, none⟩ (.int .u8 0)).setCell ⟨g, 9, none⟩ (.int .u8 255) = w2 at *
  generalize (L1.set 1 0).set 9 255 = L2 at *
  have H2 := Lib.hid t1
  have X2 := Lib.hid ((j1.block B (lt_of_cell y0) (fun e => hBn (Option.some.inj e))).trans X1.out)
  have J2 := Lib.hid (J1.out.trans j1)
  clear s1 t1 j1 c1 d1 e1 f1 y0 y1 H1 X1 l1 J1
  have c2 := H2.out.cell 2 (by omega)
  have d2 := H2.out.cell 10 (by omega)
  have e2 := H2.out.free (by omega) 2
  have f2 := H2.out.free (by omega) 10
  have y0 : w2.cell? ⟨B, 0, none⟩ = some (.int .u64 0) := by rw [cell_of_row _ _ _ _ _ _ X2.out]; rfl
  have y1 : w2.cell? ⟨B, 1, none⟩ = some (.int .u64 18446744073709551615) := by rw [cell_of_row _ _ _ _ _ _ X2.out]; rfl
  rw [rounds_succ]
  go_wp2
  have s2 : Blk (w2.setCell ⟨g, 2, none⟩ (.int .u8 0)) g (L2.set 2 0) ∧ w2.grownBy (w2.setCell ⟨g, 2, none⟩ (.int .u8 0)) (some g) := H2.out.store 2 0 (by omega)
  have t2 : Blk ((w2.setCell ⟨g, 2, none⟩ (.int .u8 0)).setCell ⟨g, 10, none⟩ (.int .u8 255)) g ((L2.set 2 0).set 10 255) ∧ (w2.setCell ⟨g, 2, none⟩ (.int .u8 0)).grownBy ((w2.setCell ⟨g, 2, none⟩ (.int .u8 0)).setCell ⟨g, 10, none⟩ (.int .u8 255)) (some g) := s2.1.store 10 255 (by rw [List.length_set]; omega)
  have j2 := s2.2.trans t2.2
  have t2 := t2.1
  have l3 : ((L2.set 2 0).set 10 255).length = 16 := by rw [List.length_set, List.length_set, l2]
  generalize (w2.setCell ⟨g, 2, none⟩ (.int .u8 0)).setCell ⟨g, 10, none⟩ (.int .u8 255) = w3 at *
  generalize (L2.set 2 0).set 10 255 = L3 at *
  have H3 := Lib.hid t2
  have X3 := Lib.hid ((j2.block B (lt_of_cell y0) (fun e => hBn (Option.some.inj e))).trans X2.out)
  have J3 := Lib.hid (J2.out.trans j2)
  clear s2 t2 j2 c2 d2 e2 f2 y0 y1 H2 X2 l2 J2
  have c3 := H3.out.cell 3 (by omega)
  have d3 := H3.out.cell 11 (by omega)
  have e3 := H3.out.free (by omega) 3
  have f3 := H3.out.free (by omega) 11
  have y0 : w3.cell? ⟨B, 0, none⟩ = some (.int .u64 0) := by rw [cell_of_row _ _ _ _ _ _ X3.out]; rfl
  have y1 : w3.cell? ⟨B, 1, none⟩ = some (.int .u64 18446744073709551615) := by rw [cell_of_row _ _ _ _ _ _ X3.out]; rfl
  rw [rounds_succ]
  go_wp2
  have s3 : Blk (w3.setCell ⟨g, 3, none⟩ (.int .u8 0)) g (L3.set 3 0) ∧ w3.grownBy (w3.setCell ⟨g, 3, none⟩ (.int .u8 0)) (some g) := H3.out.store 3 0 (by omega)
  have t3 : Blk ((w3.setCell ⟨g, 3, none⟩ (.int .u8 0)).setCell ⟨g, 11, none⟩ (.int .u8 255)) g ((L3.set 3 0).set 11 255) ∧ (w3.setCell ⟨g, 3, none⟩ (.int .u8 0)).grownBy ((w3.setCell ⟨g, 3, none⟩ (.int .u8 0)).setCell ⟨g, 11, none⟩ (.int .u8 255)) (some g) := s3.1.store 11 255 (by rw [List.length_set]; omega)
  have j3 := s3.2.trans t3.2
  have t3 := t3.1
  have l4 : ((L3.set 3 0).set 11 255).length = 16 := by rw [List.length_set, List.length_set, l3]
  generalize (w3.setCell ⟨g, 3, none⟩ (.int .u8 0)).setCell ⟨g, 11, none⟩ (.int .u8 255) = w4 at *
  generalize (L3.set 3 0).set 11 255 = L4 at *
  have H4 := Lib.hid t3
  have X4 := Lib.hid ((j3.block B (lt_of_cell y0) (fun e => hBn (Option.some.inj e))).trans X3.out)
  have J4 := Lib.hid (J3.out.trans j3)
  clear s3 t3 j3 c3 d3 e3 f3 y0 y1 H3 X3 l3 J3
  have c4 := H4.out.cell 4 (by omega)
  have d4 := H4.out.cell 12 (by omega)
  have e4 := H4.out.free (by omega) 4
  have f4 := H4.out.free (by omega) 12
  have y0 : w4.cell? ⟨B, 0, none⟩ = some (.int .u64 0) := by rw [cell_of_row _ _ _ _ _ _ X4.out]; rfl
  have y1 : w4.cell? ⟨B, 1, none⟩ = some (.int .u64 18446744073709551615) := by rw [cell_of_row _ _ _ _ _ _ X4.out]; rfl
  rw [rounds_succ]
  go_wp2
  have s4 : Blk (w4.setCell ⟨g, 4, none⟩ (.int .u8 0)) g (L4.set 4 0) ∧ w4.grownBy (w4.setCell ⟨g, 4, none⟩ (.int .u8 0)) (some g) := H4.out.store 4 0 (by omega)
  have t4 : Blk ((w4.setCell ⟨g, 4, none⟩ (.int .u8 0)).setCell ⟨g, 12, none⟩ (.int .u8 255)) g ((L4.set 4 0).set 12 255) ∧ (w4.setCell ⟨g, 4, none⟩ (.int .u8 0)).grownBy ((w4.setCell ⟨g, 4, none⟩ (.int .u8 0)).setCell ⟨g, 12, none⟩ (.int .u8 255)) (some g) := s4.1.store 12 255 (by rw [List.length_set]; omega)
  have j4 := s4.2.trans t4.2
  have t4 := t4.1
  have l5 : ((L4.set 4 0).set 12 255).length = 16 := by rw [List.length_set, List.length_set, l4]
  generalize (w4.setCell ⟨g, 4, none⟩ (.int .u8 0)).setCell ⟨g, 12, none⟩ (.int .u8 255) = w5 at *
  generalize (L4.set 4 0).set 12 255 = L5 at *
  have H5 := Lib.hid t4
  have X5 := Lib.hid ((j4.block B (lt_of_cell y0) (fun e => hBn (Option.some.inj e))).trans X4.out)
  have J5 := Lib.hid (J4.out.trans j4)
  clear s4 t4 j4 c4 d4 e4 f4 y0 y1 H4 X4 l4 J4
  have c5 := H5.out.cell 5 (by omega)
  have d5 := H5.out.cell 13 (by omega)
  have e5 := H5.out.free (by omega) 5
  have f5 := H5.out.free (by omega) 13
  have y0 : w5.cell? ⟨B, 0, none⟩ = some (.int .u64 0) := by rw [cell_of_row _ _ _ _ _ _ X5.out]; rfl
  have y1 : w5.cell? ⟨B, 1, none⟩ = some (.int .u64 18446744073709551615) := by rw [cell_of_row _ _ _ _ _ _ X5.out]; rfl
  rw [rounds_succ]
  go_wp2
  have s5 : Blk (w5.setCell ⟨g, 5, none⟩ (.int .u8 0)) g (L5.set 5 0) ∧ w5.grownBy (w5.setCell ⟨g, 5, none⟩ (.int .u8 0)) (some g) := H5.out.store 5 0 (by omega)
  have t5 : Blk ((w5.setCell ⟨g, 5, none⟩ (.int .u8 0)).setCell ⟨g, 13, none⟩ (.int .u8 255)) g ((L5.set 5 0).set 13 255) ∧ (w5.setCell ⟨g, 5, none⟩ (.int .u8 0)).grownBy ((w5.setCell ⟨g, 5, none⟩ (.int .u8 0)).setCell ⟨g, 13, none⟩ (.int .u8 255)) (some g) := s5.1.store 13 255 (by rw [List.length_set]; omega)
  have j5 := s5.2.trans t5.2
  have t5 := t5.1
  have l6 : ((L5.set 5 0).set 13 255).length = 16 := by rw [List.length_set, List.length_set, l5]
  generalize (w5.setCell ⟨g, 5, none⟩ (.int .u8 0)).setCell ⟨g, 13, none⟩ (.int .u8 255) = w6 at *
  generalize (L5.set 5 0).set 13 255 = L6 at *
  have H6 := Lib.hid t5
  have X6 := Lib.hid ((j5.block B (lt_of_cell y0) (fun e => hBn (Option.some.inj e))).trans X5.out)
  have J6 := Lib.hid (J5.out.trans j5)
  clear s5 t5 j5 c5 d5 e5 f5 y0 y1 H5 X5 l5 J5
  have c6 := H6.out.cell 6 (by omega)
  have d6 := H6.out.cell 14 (by omega)
  have e6 := H6.out.free (by omega) 6
  have f6 := H6.out.free (by omega) 14
  have y0 : w6.cell? ⟨B, 0, none⟩ = some (.int .u64 0) := by rw [cell_of_row _ _ _ _ _ _ X6.out]; rfl
  have y1 : w6.cell? ⟨B, 1, none⟩ = some (.int .u64 18446744073709551615) := by rw [cell_of_row _ _ _ _ _ _ X6.out]; rfl
  rw [rounds_succ]
  go_wp2
  have s6 : Blk (w6.setCell ⟨g, 6, none⟩ (.int .u8 0)) g (L6.set 6 0) ∧ w6.grownBy (w6.setCell ⟨g, 6, none⟩ (.int .u8 0)) (some g) := H6.out.store 6 0 (by omega)
  have t6 : Blk ((w6.setCell ⟨g, 6, none⟩ (.int .u8 0)).setCell ⟨g, 14, none⟩ (.int .u8 255)) g ((L6.set 6 0).set 14 255) ∧ (w6.setCell ⟨g, 6, none⟩ (.int .u8 0)).grownBy ((w6.setCell ⟨g, 6, none⟩ (.int .u8 0)).setCell ⟨g, 14, none⟩ (.int .u8 255)) (some g) := s6.1.store 14 255 (by rw [List.length_set]; omega)
  have j6 := s6.2.trans t6.2
  have t6 := t6.1
  have l7 : ((L6.set 6 0).set 14 255).length = 16 := by rw [List.length_set, List.length_set, l6]
  generalize (w6.setCell ⟨g, 6, none⟩ (.int .u8 0)).setCell ⟨g, 14, none⟩ (.int .u8 255) = w7 at *
  generalize (L6.set 6 0).set 14 255 = L7 at *
  have H7 := Lib.hid t6
  have X7 := Lib.hid ((j6.block B (lt_of_cell y0) (fun e => hBn (Option.some.inj e))).trans X6.out)
  have J7 := Lib.hid (J6.out.trans j6)
  clear s6 t6 j6 c6 d6 e6 f6 y0 y1 H6 X6 l6 J6
  have c7 := H7.out.cell 7 (by omega)
  have d7 := H7.out.cell 15 (by omega)
  have e7 := H7.out.free (by omega) 7
  have f7 := H7.out.free (by omega) 15
  have y0 : w7.cell? ⟨B, 0, none⟩ = some (.int .u64 0) := by rw [cell_of_row _ _ _ _ _ _ X7.out]; rfl
  have y1 : w7.cell? ⟨B, 1, none⟩ = some (.int .u64 18446744073709551615) := by rw [cell_of_row _ _ _ _ _ _ X7.out]; rfl
  rw [rounds_succ]
  go_wp2
  have s7 : Blk (w7.setCell ⟨g, 7, none⟩ (.int .u8 0)) g (L7.set 7 0) ∧ w7.grownBy (w7.setCell ⟨g, 7, none⟩ (.int .u8 0)) (some g) := H7.out.store 7 0 (by omega)
  have t7 : Blk ((w7.setCell ⟨g, 7, none⟩ (.int .u8 0)).setCell ⟨g, 15, none⟩ (.int .u8 255)) g ((L7.set 7 0).set 15 255) ∧ (w7.setCell ⟨g, 7, none⟩ (.int .u8 0)).grownBy ((w7.setCell ⟨g, 7, none⟩ (.int .u8 0)).setCell ⟨g, 15, none⟩ (.int .u8 255)) (some g) := s7.1.store 15 255 (by rw [List.length_set]; omega)
  have j7 := s7.2.trans t7.2
  have t7 := t7.1
  have l8 : ((L7.set 7 0).set 15 255).length = 16 := by rw [List.length_set, List.length_set, l7]
  generalize (w7.setCell ⟨g, 7, none⟩ (.int .u8 0)).setCell ⟨g, 15, none⟩ (.int .u8 255) = w8 at *
  generalize (L7.set 7 0).set 15 255 = L8 at *
  have H8 := Lib.hid t7
  have X8 := Lib.hid ((j7.block B (lt_of_cell y0) (fun e => hBn (Option.some.inj e))).trans X7.out)
  have J8 := Lib.hid (J7.out.trans j7)
  clear s7 t7 j7 c7 d7 e7 f7 y0 y1 H7 X7 l7 J7
  rw [rounds_succ]
  go_wp2
  go_returns
  obtain ⟨hba, hb0, g0, hne, hG⟩ := HB.out
  have hbb : Below B w w0 := hba.trans (hb0.mono (by omega))
  exact ⟨g, L8, rfl, by omega, l8, H8.out, hbb.grown J8.out (by have := hbb.size; have := HE.out; omega) (fun k e => by cases e; omega)⟩

end Go.Proofs.YtagmldkcogidgaaGreatDoor
namespace Go.Proofs.YtagmldkcogidgaaGreatDoor
open Go.RowKit Pgp
set_option maxRecDepth 100000

theorem stamp_1 (w : World) : Calls Tryz.prog 146 #[.int .u64 1] w fun e w' => ∃ g L, e = .returned (.slice (some ⟨g, 8, none⟩) 8 8) ∧ w.heap.size ≤ g ∧ L.length = 16 ∧ Blk w' g L ∧ Below w.heap.size w w' := by
  have cO := wof_any 1 w
  have cB := fun W => wbytes_1 W
  go_enter Tryz.func146, Tryz.ntmps146
  go_wp2_with (first
    | (go_at_call 186; go_must (refine cO.mono ?_); rintro e w1 ⟨rfl, hb1⟩)
    | (go_at_call 86; go_must (refine (cB _).mono ?_); rintro e w2 ⟨g, L, rfl, hg, hl, hB, hb2⟩))
  go_returns
  exact ⟨g, L, rfl, Nat.le_trans hb1.size hg, hl, hB, hb1.trans (hb2.mono hb1.size)⟩
theorem stamp_top (w : World) : Calls Tryz.prog 146 #[.int .u64 18446744073709551615] w fun e w' => ∃ g L, e = .returned (.slice (some ⟨g, 8, none⟩) 8 8) ∧ w.heap.size ≤ g ∧ L.length = 16 ∧ Blk w' g L ∧ Below w.heap.size w w' := by
  have cO := wof_any 18446744073709551615 w
  have cB := fun W => wbytes_top W
  go_enter Tryz.func146, Tryz.ntmps146
  go_wp2_with (first
    | (go_at_call 186; go_must (refine cO.mono ?_); rintro e w1 ⟨rfl, hb1⟩)
    | (go_at_call 86; go_must (refine (cB _).mono ?_); rintro e w2 ⟨g, L, rfl, hg, hl, hB, hb2⟩))
  go_returns
  exact ⟨g, L, rfl, Nat.le_trans hb1.size hg, hl, hB, hb1.trans (hb2.mono hb1.size)⟩
end Go.Proofs.YtagmldkcogidgaaGreatDoor
namespace Go.Proofs.YtagmldkcogidgaaGreatDoor
open Go.RowKit Pgp
set_option maxRecDepth 100000

theorem Rd.cells {w : World} {A : Addr} {s : ByteArray} (h : Rd w (some A) s) : ∀ j u, (bcells s).toList[j]? = some u → w.cell? (A.add j) = some u := by
  intro j u hu
  obtain ⟨hj, rfl⟩ := bcells_get s j u hu
  obtain ⟨b, o, e, _, hc⟩ := h (by omega)
  obtain rfl : A = ⟨b, o, none⟩ := Option.some.inj e
  rw [addAt]
  exact hc j hj
/-- An append onto a slice with no room. -/
theorem wpList_appg {w : World} {ops : Array Oper} {rest : List Oper} {o : Oper} {a : Act} {Q : Exit → Act → World → Prop} (hgd : o.guard = none) (x y : Operand)
    (ho : o.op = .call { callee := .builtin .append, args := #[x, y], argTypes := #[29, 29] }) (hty : o.type = 29)
    (A B : Addr) (s t : ByteArray) (n m l c : Nat) (hn : s.size = n) (hm : t.size = m) (hl : n + m = l) (hx : a.eval x = .slice (some A) n n) (hs : Rd w (some A) s) (hy : a.eval y = .slice (some B) m c) (ht : Rd w (some B) t) (h0 : 0 < m)
    (hsz : n + m ≤ 140737488355328)
    (h : ∀ A' c' u w', u.size = l → Own w' w.heap.size (.slice A' l c') u → w.grownBy w' none → wpList Tryz.prog ops Q rest (a.put o.dst (.slice A' l c')) w') : wpList Tryz.prog ops Q (o :: rest) a w := by
  subst hn hm hl
  refine wpList_plain hgd fun K hK => ?_
  obtain ⟨i0, hi, hz0, hz1, hz2⟩ := info_parts info5
  obtain ⟨v', w', hrun, r1, r2⟩ := run_append_arg_grows (P := Tryz.prog) w 29 29 5 i0 (.int .u8 0) 1 1 Tryz.underlying29 hi hz0 hz1 hz2 rfl (by decide) A s.size s.size (bcells s).toList
    (by rw [Array.length_toList, bcells_size, Nat.mul_one]) hs.cells B t.size c (bcells t).toList (by rw [Array.length_toList, bcells_size, Nat.mul_one]) ht.cells (by omega) (by unfold maxLen; omega) (by omega)
  have hown : Own w' w.heap.size v' (s ++ t) := by
    unfold Own
    rw [bcells_append, ByteArray.size_append]
    exact r1
  obtain ⟨A', c', rfl, _, _, _⟩ := hown.form
  unfold Oper.wp execOp
  simp only [ho, hty, resolve, invoke, builtin, Sem.run_bind, Sem.run_pure, Result.andThen_ok, List.map_toArray, List.map_cons, List.map_nil, hx, hy, hrun]
  have hz : (s ++ t).size = s.size + t.size := ByteArray.size_append
  rw [hz] at hown ⊢
  exact hK _ _ (h A' c' (s ++ t) w' hz hown r2)
theorem size8 (L : List UInt8) (h : L.length = 16) : (⟨((L.drop 8).take 8).toArray⟩ : ByteArray).size = 8 := by
  show (((L.drop 8).take 8).toArray).size = 8
  simp [h]
/-- sixteen bytes that can be read -/
def R16 (w : World) (v : Value) : Prop := ∃ A c u, v = .slice (some A) 16 c ∧ u.size = 16 ∧ Rd w (some A) u
theorem R16.below {w w' : World} {v : Value} (h : R16 w v) (hb : Below w.heap.size w w') : R16 w' v := by
  obtain ⟨A, c, u, h1, h2, h3⟩ := h
  exact ⟨A, c, u, h1, h2, h3.below hb⟩
theorem joined_any (w : World) : Calls Tryz.prog 187 #[.int .u64 1, .int .u64 18446744073709551615, .func (.func 146) #[] #[], .func (.func 146) #[] #[]] w fun e w' => ∃ v, e = .returned v ∧ R16 w' v ∧ Below w.heap.size w w' := by
  have c1 := stamp_1 w
  have c2 := fun W => stamp_top W
  go_enter Tryz.func187, Tryz.ntmps187
  go_wp2_with (first
    | (go_at_call 146; with_reducible refine c1.mono ?_; rintro e w1 ⟨g, L, rfl, hg, hl, hB, hb1⟩)
    | (go_at_call 146; go_must (refine (c2 _).mono ?_); rintro e w2 ⟨g2, L2, rfl, hg2, hl2, hB2, hb2⟩)
    | (refine wpList_appg (o := ⟨some 15, _, _, _, _, _⟩) rfl (.tmp 11) (.tmp 14) rfl rfl ⟨g, 8, none⟩ ⟨g2, 8, none⟩ ⟨((L.drop 8).take 8).toArray⟩ ⟨((L2.drop 8).take 8).toArray⟩ 8 8 16 8 (size8 L hl) (size8 L2 hl2) rfl rfl ((hB.below hb2).rd 8 8 (by omega)) rfl (hB2.rd 8 8 (by omega)) (by decide) (by decide) ?_; intro A' c' u w3 hu ho hg3))
  have hb3 : Below w2.heap.size w2 w3 := (Below.refl _ _).grown hg3 (Nat.le_refl _) (fun k h => by cases h)
  obtain ⟨b, o, e, _⟩ := ho.rd (by omega)
  refine bodyPost_ret (results_tmp rfl _ _ _) rfl ?_
  refine ⟨_, rfl, ⟨⟨b, o, none⟩, c', u, ?_, hu, ?_⟩, hb1.trans ((hb2.mono hb1.size).trans (hb3.mono (Nat.le_trans hb1.size hb2.size)))⟩
  · rw [← e]
    rfl
  · rw [← e, ← hu] at *
    exact ho.rd
end Go.Proofs.YtagmldkcogidgaaGreatDoor
