/- tree.Get where the tree is empty. -/
/- A struct is stored over a whole block. -/
/- tree.begin, tree.Get, store.Last where the trees are empty. -/
/- store.Last, server.first where the trees are empty. -/
import Derived.Test.YtagmldkcogidgaaGreatDoorSrvA
namespace Go.Proofs.YtagmldkcogidgaaGreatDoor
open Go.RowKit Pgp
set_option maxRecDepth 100000

/-- a pager whose roots are none -/
def Pw (w : World) (p : Nat) : Prop := ∃ D VL VN b1 b2 m, Pg w p D VL VN 1 (WKof b1 b2 m)
theorem Pw.below {w w' : World} {p : Nat} (h : Pw w p) (hb : Below w.heap.size w w') : Pw w' p := by
  obtain ⟨D, VL, VN, b1, b2, m, hp⟩ := h
  exact ⟨D, VL, VN, b1, b2, m, hp.block (hb.block p hp.lt)⟩
theorem Pw.root {w : World} {p : Nat} (h : Pw w p) (j : Nat) (hj : j < 24) : w.cell? ⟨p, 36 + j, none⟩ = some (.int .u32 0) := by
  obtain ⟨D, VL, VN, b1, b2, m, hp⟩ := h
  refine hp.at (36 + j) _ ?_
  rw [pcells_pre, List.getElem?_append_right (by rw [pre33_len]; omega), pre33_len, show 36 + j - 33 = j + 3 by omega]
  show RC[j]? = _
  rw [show RC = List.replicate 24 (.int .u32 0) from rfl, List.getElem?_replicate, if_pos hj]
theorem root7 {w : World} {p : Nat} (h : Pw w p) : Calls Tryz.prog 106 #[.pointer (some ⟨p, 0, none⟩), .int .i64 7] w fun e w' => e = .returned (.agg #[.int .u32 0, .int .u32 0, .int .u32 0]) ∧ Below w.heap.size w w' := by
  have hb : Below w.heap.size w (w.alloc (.cells #[.int .u32 0, .int .u32 0, .int .u32 0] 101)) := (Below.refl _ w).alloc (Nat.le_refl _) _
  have hlt : p < w.heap.size := lt_of_cell (h.root 0 (by decide))
  have c0 := (hb.cell (p := ⟨p, 57, none⟩) hlt).trans (h.root 21 (by decide))
  have c1 := (hb.cell (p := ⟨p, 58, none⟩) hlt).trans (h.root 22 (by decide))
  have c2 := (hb.cell (p := ⟨p, 59, none⟩) hlt).trans (h.root 23 (by decide))
  clear h
  go_enter Tryz.func106, Tryz.ntmps106
  go_wp2_with fail
  exact bodyPost_ret (results_cell_row rfl _ _ w.heap.size 101 _ (0, 0) _ rfl (heap_alloc_new _ _) rfl rfl rfl) rfl ⟨rfl, hb⟩
theorem root3 {w : World} {p : Nat} (h : Pw w p) : Calls Tryz.prog 106 #[.pointer (some ⟨p, 0, none⟩), .int .i64 3] w fun e w' => e = .returned (.agg #[.int .u32 0, .int .u32 0, .int .u32 0]) ∧ Below w.heap.size w w' := by
  have hb : Below w.heap.size w (w.alloc (.cells #[.int .u32 0, .int .u32 0, .int .u32 0] 101)) := (Below.refl _ w).alloc (Nat.le_refl _) _
  have hlt : p < w.heap.size := lt_of_cell (h.root 0 (by decide))
  have c0 := (hb.cell (p := ⟨p, 45, none⟩) hlt).trans (h.root 9 (by decide))
  have c1 := (hb.cell (p := ⟨p, 46, none⟩) hlt).trans (h.root 10 (by decide))
  have c2 := (hb.cell (p := ⟨p, 47, none⟩) hlt).trans (h.root 11 (by decide))
  clear h
  go_enter Tryz.func106, Tryz.ntmps106
  go_wp2_with fail
  exact bodyPost_ret (results_cell_row rfl _ _ w.heap.size 101 _ (0, 0) _ rfl (heap_alloc_new _ _) rfl rfl rfl) rfl ⟨rfl, hb⟩
theorem shape_7 (w : World) : Calls Tryz.prog 153 #[.int .i64 7] w fun e w' => e = .returned (.tuple #[.int .i64 1, .int .i64 8]) ∧ w = w' := by
  go_enter Tryz.func153, Tryz.ntmps153
  go_wp2
  go_ret2
  exact ⟨rfl, rfl⟩
theorem shape_3 (w : World) : Calls Tryz.prog 153 #[.int .i64 3] w fun e w' => e = .returned (.tuple #[.int .i64 16, .int .i64 16]) ∧ w = w' := by
  go_enter Tryz.func153, Tryz.ntmps153
  go_wp2
  go_ret2
  exact ⟨rfl, rfl⟩
theorem caps_1_8 (w : World) : Calls Tryz.prog 154 #[.int .i64 1, .int .i64 8] w fun e w' => (∃ a b : Int, e = .returned (.tuple #[.int .i64 a, .int .i64 b])) ∧ Below w.heap.size w w' := by
  go_enter Tryz.func154, Tryz.ntmps154
  go_wp2
  go_quiet (fail)
  go_wp2
  go_ret2
  exact ⟨⟨_, _, rfl⟩, below_drewN w _⟩
end Go.Proofs.YtagmldkcogidgaaGreatDoor
namespace Go.Proofs.YtagmldkcogidgaaGreatDoor
open Go.RowKit Pgp
set_option maxRecDepth 100000

theorem size_setC (g : Nat) : ∀ (vs : List Value) (o : Nat) (w : World), (w.setCells g o vs).heap.size = w.heap.size
  | [], _, _ => rfl
  | v :: r, o, w => by rw [World.setCells, size_setC g r]; simp [World.setCell]
theorem wpList_stw {P : Program} {ops : Array Oper} {rest : List Oper} {op : Oper} {a : Act} {w : World} {Q : Exit → Act → World → Prop} (hgd : op.guard = none) (ty : TypeId) (x y : Operand) (ho : op.op = .store ty x y)
    (g : Nat) (C old : List Value) (t : TypeId) (hx : a.eval x = .pointer (some ⟨g, 0, none⟩)) (hy : a.eval y = .agg C.toArray) (hg : w.heap[g]? = some (.cells old.toArray t (0, 0)))
    (hl : old.length = C.length) (hi : (P.info? ty).map (·.size) = some C.length) (h1 : C.toArray.all (·.oneCell') = true)
    (h : ∀ w', w'.heap[g]? = some (.cells C.toArray t (0, 0)) → (∀ B, B ≤ g → Below B w w') → w'.heap.size = w.heap.size → wpList P ops Q rest (a.put op.dst undef) w') :
    wpList P ops Q (op :: rest) a w := by
  refine wpList_store_mid hgd ty x y ho g 0 C.toArray hx hy ?_ (by simpa using hi) h1 (h _ ?_ ?_ ?_)
  · intro j hj
    refine ⟨?_, by simp [World.frozen?, hg]⟩
    rw [cell_of_row _ _ _ _ _ _ hg, List.getElem?_toArray, List.getElem?_eq_getElem (by simp at hj; omega)]
    rfl
  · have := heap_setCells_same g t (0, 0) C 0 w old hg (by omega)
    rw [show splice old 0 C = C by simp [splice, hl]] at this
    exact this
  · intro B hB
    exact below_setCells hB C.toArray.toList 0 _ (Below.refl B w)
  · exact size_setC _ _ _ _
end Go.Proofs.YtagmldkcogidgaaGreatDoor
namespace Go.Proofs.YtagmldkcogidgaaGreatDoor
open Go.RowKit Pgp
set_option maxRecDepth 100000

def W309 (p : Option Addr) (k v x y t : Int) : List Value := [.int .i64 k, .int .i64 v, .int .i64 x, .int .i64 y, .pointer p, .int .i64 t]
theorem W309_one (p : Option Addr) (k v x y t : Int) : (W309 p k v x y t).toArray.all (·.oneCell') = true := by cases p <;> simp [W309, Value.oneCell']
theorem tbegin7 {w : World} {p : Nat} (a : Option Addr) (cp : Nat) : Calls Tryz.prog 171 #[.pointer (some ⟨p, 0, none⟩), .int .i64 7, .slice a 1 cp] w fun e w' => (∃ x y : Int, e = .returned (.tuple #[.agg (W309 (some ⟨p, 0, none⟩) 1 8 x y 7).toArray, .int .i64 0])) ∧ Below w.heap.size w w' := by
  obtain ⟨w0, hw0⟩ : ∃ w0, w0 = w.alloc (.cells #[.int .i64 0, .int .i64 0, .int .i64 0, .int .i64 0, .pointer none, .int .i64 0] 309) := ⟨_, rfl⟩
  have hb : Below w.heap.size w w0 := hw0 ▸ (Below.refl _ w).alloc (Nat.le_refl _) _
  have hn : w0.heap[w.heap.size]? = some (.cells #[.int .i64 0, .int .i64 0, .int .i64 0, .int .i64 0, .pointer none, .int .i64 0] 309 (0, 0)) := hw0 ▸ heap_alloc_new _ _
  have hsz : w0.heap.size = w.heap.size + 1 := hw0 ▸ by simp
  have cS := shape_7 w0
  have cC := caps_1_8 w0
  go_enter Tryz.func171, Tryz.ntmps171
  go_upto_region 1 with (fail)
  rw [← hw0]
  clear hw0
  go_wp2_with (first
    | (go_at_call 153; go_must (refine cS.mono ?_); rintro e _ ⟨rfl, rfl⟩)
    | (go_at_call 154; go_must (refine cC.mono ?_); rintro e w1 ⟨⟨x, y, rfl⟩, hb1⟩)
    | (refine wpList_stw (op := ⟨none, _, _, _, _, _⟩) rfl 309 (.tmp 6) (.tmp 40) rfl w.heap.size (W309 (some ⟨p, 0, none⟩) 1 8 x y 7) (W309 none 0 0 0 0 0) 309 rfl rfl ((hb1.block w.heap.size (by omega)).trans hn) rfl rfl (W309_one _ _ _ _ _ _) ?_; intro w2 hc hb2 hs2))
  refine bodyPost_ret (v := .tuple #[.agg (W309 (some ⟨p, 0, none⟩) 1 8 x y 7).toArray, .int .i64 0]) ?_ rfl ⟨⟨x, y, rfl⟩, hb.trans ((hb1.mono hb.size).trans (hb2 _ (Nat.le_refl _)))⟩
  have hl := run_loadVar_row (P := Tryz.prog) w2 w.heap.size 309 309 _ (0, 0) _ hc (by rfl) (by rfl) (by rfl)
  rw [results_cell_tmp rfl]
  simp [asAddr, Result.andThen, hl]
theorem field_root (W : World) : (Instr.field 101 (.agg #[.int .u32 0, .int .u32 0, .int .u32 0]) 0).run Tryz.prog W = .ok (.int .u32 0) W := by kernel_rfl
theorem tget7 {w : World} {p : Nat} (h : Pw w p) (a : Option Addr) (cp : Nat) : Calls Tryz.prog 128 #[.pointer (some ⟨p, 0, none⟩), .int .i64 7, .slice a 1 cp] w fun e w' => e = .returned (.tuple #[.slice none 0 0, .int .i64 5]) ∧ Below w.heap.size w w' := by
  have cB := tbegin7 (w := w) (p := p) a cp
  go_enter Tryz.func128, Tryz.ntmps128
  go_upto_region 2 with (first
    | (go_at_call 171; go_must (refine cB.mono ?_); rintro e w1 ⟨⟨x, y, rfl⟩, hb1⟩)
    | (refine wpList_stw (op := ⟨none, _, _, _, _, _⟩) rfl 309 (.tmp 8) (.tmp 20) rfl w1.heap.size (W309 (some ⟨p, 0, none⟩) 1 8 x y 7) (W309 none 0 0 0 0 0) 309 rfl rfl (heap_alloc_new _ _) rfl rfl (W309_one _ _ _ _ _ _) ?_; intro w2 hc hb2 hs2))
  have hb3 : Below w.heap.size w w2 := hb1.trans (((Below.refl w1.heap.size w1).alloc (Nat.le_refl _) _ |>.trans (hb2 _ (Nat.le_refl _))).mono hb1.size)
  have cR := root7 (h.below hb3)
  clear cB hb2 hs2 hc h
  have hf := field_root
  go_wp2_with (go_at_call 106; go_must (refine cR.mono ?_); rintro e w3 ⟨rfl, hb4⟩)
  go_loop [10] (fun x => x = .int .u32 0) (fun _ => 0)
  case atStart => rfl
  go_wp2
  go_returns
  exact ⟨rfl, hb3.trans (hb4.mono hb3.size)⟩
end Go.Proofs.YtagmldkcogidgaaGreatDoor
namespace Go.Proofs.YtagmldkcogidgaaGreatDoor
open Go.RowKit Pgp
set_option maxRecDepth 100000

theorem Sv.st_cell {w : World} {sv D p st : Nat} (h : Sv w sv D p st) : w.cell? ⟨st, 0, none⟩ = some (.pointer (some ⟨p, 0, none⟩)) := by rw [cell_of_row _ _ _ _ _ _ h.ht]; rfl
theorem Sv.cs {w : World} {sv D p st : Nat} (h : Sv w sv D p st) : w.cell? ⟨sv, 0, none⟩ = some (.pointer (some ⟨D, 0, none⟩)) ∧ w.cell? ⟨sv, 1, none⟩ = some (.pointer (some ⟨p, 0, none⟩)) ∧ w.cell? ⟨sv, 2, none⟩ = some (.pointer (some ⟨st, 0, none⟩)) ∧ w.cell? ⟨sv, 3, none⟩ = some (.bool false) := by
  refine ⟨?_, ?_, ?_, ?_⟩ <;> (rw [cell_of_row _ _ _ _ _ _ h.hv]; rfl)
theorem Sv.pw {w : World} {sv D p st : Nat} (h : Sv w sv D p st) : Pw w p := by
  obtain ⟨VL, VN, b1, b2, m, hp⟩ := h.hp
  exact ⟨D, VL, VN, b1, b2, m, hp⟩
theorem Sv.below {w w' : World} {sv D p st : Nat} (h : Sv w sv D p st) (hb : Below w.heap.size w w') : Sv w' sv D p st := by
  obtain ⟨VL, VN, b1, b2, m, hp⟩ := h.hp
  exact { hv := (hb.block sv (lt_of_cell h.cs.1)).trans h.hv, ht := (hb.block st (lt_of_cell h.st_cell)).trans h.ht, hp := ⟨VL, VN, b1, b2, m, hp.block (hb.block p hp.lt)⟩ }
theorem last_any {w : World} {st p : Nat} (hc : w.cell? ⟨st, 0, none⟩ = some (.pointer (some ⟨p, 0, none⟩))) (h : Pw w p) : Calls Tryz.prog 102 #[.pointer (some ⟨st, 0, none⟩)] w fun e w' => e = .returned (.int .u64 0) ∧ Below w.heap.size w w' := by
  obtain ⟨w0, hw0⟩ : ∃ w0, w0 = w.alloc (.cells #[.int .u8 1] 5) := ⟨_, rfl⟩
  have hb : Below w.heap.size w w0 := hw0 ▸ (Below.refl _ w).alloc (Nat.le_refl _) _
  have cG := tget7 (h.below hb) (some ⟨w.heap.size, 0, none⟩) 1
  clear h
  go_enter Tryz.func102, Tryz.ntmps102
  go_wp2_with (go_at_call 128; rw [← hw0]; go_must (refine cG.mono ?_); rintro e w1 ⟨rfl, hb1⟩)
  go_ret
  exact ⟨rfl, hb.trans (hb1.mono hb.size)⟩
theorem first_any {w : World} {sv D p st : Nat} (h : Sv w sv D p st) : Calls Tryz.prog 65 #[.pointer (some ⟨sv, 0, none⟩), .int .u64 1] w fun e w' => e = .returned (.int .u64 1) ∧ Below w.heap.size w w' := by
  have c2 := h.cs.2.2.1
  have cL := last_any h.st_cell h.pw
  clear h
  go_enter Tryz.func65, Tryz.ntmps65
  go_wp2_with (go_at_call 102; go_must (refine cL.mono ?_); rintro e w1 ⟨rfl, hb1⟩)
  go_ret
  exact ⟨rfl, hb1⟩
end Go.Proofs.YtagmldkcogidgaaGreatDoor
