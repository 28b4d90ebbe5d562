/- bytes.Clone, key.Two, cursor.Start. -/
/- cursor.Next, cursor.List, store.Due where the tree is empty. -/
/- cursor.List, store.Due where the tree is empty. -/
import Derived.Test.YtagmldkcogidgaaGreatDoorKey
import Derived.Laws.EntriesVeiled
namespace Go.Proofs.YtagmldkcogidgaaGreatDoor
open Go.RowKit Pgp
set_option maxRecDepth 100000

theorem two_any (w : World) : Calls Tryz.prog 150 #[.int .u64 1, .int .u64 18446744073709551615] w fun e w' => ∃ v, e = .returned v ∧ R16 w' v ∧ Below w.heap.size w w' := by
  have cJ := joined_any w
  go_enter Tryz.func150, Tryz.ntmps150
  go_wp2_with (go_at_call 187; go_must (refine cJ.mono ?_); rintro e w1 ⟨v, rfl, hv, hb⟩)
  go_ret
  exact ⟨_, rfl, hv, hb⟩
theorem clone_nil (w : World) : Calls Tryz.prog 124 #[.slice none 0 0] w fun e w' => e = .returned (.slice none 0 0) ∧ w = w' := by
  have hnil : (binOp .eql 29 (.slice none 0 0) (.slice none 0 0)).run Tryz.prog w = .ok (.bool true) w := Lib.run_eql_slice_nil (P := Tryz.prog) w 29 5 none 0 0 0 0 Tryz.underlying29
  go_enter Tryz.func124, Tryz.ntmps124
  go_wp2
  go_ret
  exact ⟨rfl, rfl⟩
theorem clone_16 {w : World} {v : Value} (h : R16 w v) : Calls Tryz.prog 124 #[v] w fun e w' => (∃ A c, e = .returned (.slice A 16 c)) ∧ Below w.heap.size w w' := by
  obtain ⟨A, c, u, rfl, hu, hr⟩ := h
  obtain ⟨b, o, e, _⟩ := hr (by omega)
  obtain rfl : A = ⟨b, o, none⟩ := Option.some.inj e
  have hl : u.data.toList.length = 16 := by rw [Array.length_toList]; exact hu
  have cC := clone_any b o u.data.toList c w hr (by omega)
  rw [hl] at cC
  refine cC.mono ?_
  rintro e w1 ⟨v, rfl, hv, hb⟩
  obtain ⟨A', c', rfl, _⟩ := hv.form
  refine ⟨⟨A', c', ?_⟩, hb⟩
  have : (⟨u.data.toList.toArray⟩ : ByteArray).size = 16 := hu
  rw [this]
def C324 (p : Nat) (v f1 f2 f3 : Value) : List Value := [.pointer (some ⟨p, 0, none⟩), .int .i64 16, .int .i64 16, .slice none 0 0, v, .slice none 0 0, f1, f2, f3]
theorem build324 (p : Nat) (A : Option Addr) (c : Nat) (W : World) : (Instr.build 324 #[(0, .pointer (some ⟨p, 0, none⟩)), (1, .int .i64 16), (2, .int .i64 16), (3, .slice none 0 0), (4, .slice A 16 c)]).run Tryz.prog W = .ok (.agg (C324 p (.slice A 16 c) .nilFunc .nilFunc .nilFunc).toArray) W := by
  refine run_build W 324 _ _ ?_
  kernel_rfl
theorem start_any {w : World} {p : Nat} {v : Value} (h : Pw w p) (hv : R16 w v) : Calls Tryz.prog 137 #[.pointer (some ⟨p, 0, none⟩), .int .i64 3, .slice none 0 0, v, .bool false] w fun e w' => ∃ c u f1 f2 f3, e = .returned (.pointer (some ⟨c, 0, none⟩)) ∧ w.heap.size ≤ c ∧ w'.heap[c]? = some (.cells (C324 p u f1 f2 f3).toArray 324 (0, 0)) ∧ Below w.heap.size w w' := by
  have cS := shape_3 w
  have cN := clone_nil w
  have c16 := clone_16 hv
  have hb := build324 p
  have H := Lib.hid h
  clear h hv
  go_enter Tryz.func137, Tryz.ntmps137
  go_upto_region 3 with (first
    | (go_at_call 153; go_must (refine cS.mono ?_); rintro e _ ⟨rfl, rfl⟩)
    | (go_at_call 124; with_reducible refine cN.mono ?_; rintro e _ ⟨rfl, rfl⟩)
    | (go_at_call 124; go_must (refine c16.mono ?_); rintro e w1 ⟨⟨A, c, rfl⟩, hb1⟩))
  obtain ⟨w2, hw2⟩ : ∃ w2, w2 = w1.alloc (.cells (C324 p (.slice A 16 c) .nilFunc .nilFunc .nilFunc).toArray 324) := ⟨_, rfl⟩
  have hn : w2.heap[w1.heap.size]? = some (.cells (C324 p (.slice A 16 c) .nilFunc .nilFunc .nilFunc).toArray 324 (0, 0)) := hw2 ▸ heap_alloc_new _ _
  have hb2 : Below w1.heap.size w1 w2 := hw2 ▸ (Below.refl _ w1).alloc (Nat.le_refl _) _
  rw [show w1.alloc (.cells #[.pointer (some ⟨p, 0, none⟩), .int .i64 16, .int .i64 16, .slice none 0 0, .slice A 16 c, .slice none 0 0, .nilFunc, .nilFunc, .nilFunc] 324) = w2 from hw2.symm]
  clear hw2
  generalize hC : w1.heap.size = C at *
  have d6 : w2.cell? ⟨C, 6, none⟩ = some .nilFunc := by rw [cell_of_row _ _ _ _ _ _ hn]; rfl
  have d7 : w2.cell? ⟨C, 7, none⟩ = some .nilFunc := by rw [cell_of_row _ _ _ _ _ _ hn]; rfl
  have d8 : w2.cell? ⟨C, 8, none⟩ = some .nilFunc := by rw [cell_of_row _ _ _ _ _ _ hn]; rfl
  have fr : ∀ j, w2.frozen? ⟨C, j, none⟩ = false := fun j => by simp [World.frozen?, hn]
  have HH := Lib.hid (And.intro hn (And.intro hb1 (And.intro hb2 hC)))
  clear hn hb1 hb2 hC cS cN c16 hb
  go_upto_region 6 with (fail)
  obtain ⟨f1, hf1⟩ : ∃ f, f = Value.func (Fn.func 176) #[Value.pointer (some { block := C, off := 0 })] #[] := ⟨_, rfl⟩
  obtain ⟨f2, hf2⟩ : ∃ f, f = Value.func (Fn.func 177) #[Value.pointer (some { block := C, off := 0 })] #[] := ⟨_, rfl⟩
  obtain ⟨f3, hf3⟩ : ∃ f, f = Value.func (Fn.func 178) #[Value.pointer (some { block := C, off := 0 })] #[] := ⟨_, rfl⟩
  rw [← hf1, ← hf2, ← hf3]
  clear hf1 hf2 hf3
  obtain ⟨hn, hb1, hb2, hC⟩ := HH.out
  have hb3 : Below C w1 (((w2.setCell ⟨C, 6, none⟩ f1).setCell ⟨C, 7, none⟩ f2).setCell ⟨C, 8, none⟩ f3) := ((hb2.setCell (Nat.le_refl _) _).setCell (Nat.le_refl _) _).setCell (Nat.le_refl _) _
  have hn3 := heap_setCell_list (heap_setCell_list (heap_setCell_list hn f1 (j := 6)) f2 (j := 7)) f3 (j := 8)
  rw [show (((C324 p (.slice A 16 c) .nilFunc .nilFunc .nilFunc).set 6 f1).set 7 f2).set 8 f3 = C324 p (.slice A 16 c) f1 f2 f3 from rfl] at hn3
  generalize ((w2.setCell ⟨C, 6, none⟩ f1).setCell ⟨C, 7, none⟩ f2).setCell ⟨C, 8, none⟩ f3 = w3 at *
  have hle : w.heap.size ≤ C := hC ▸ hb1.size
  have hb4 := hb1.trans (hb3.mono hle)
  have cR := root3 (H.out.below hb4)
  have hfr := field_root
  have HH := Lib.hid (And.intro hn3 (And.intro hb4 hle))
  clear hn hb1 hb2 hC hb3 hn3 hle hb4 d6 d7 d8 fr H
  go_wp2_with (go_at_call 106; go_must (refine cR.mono ?_); rintro e w4 ⟨rfl, hb5⟩)
  go_ret
  obtain ⟨hn3, hb4, hle⟩ := HH.out
  exact ⟨C, _, f1, f2, f3, rfl, hle, (hb5.block C (Array.getElem?_eq_some_iff.1 hn3).1).trans hn3, hb4.trans (hb5.mono hb4.size)⟩
end Go.Proofs.YtagmldkcogidgaaGreatDoor
namespace Go.Proofs.YtagmldkcogidgaaGreatDoor
open Go.RowKit Pgp
set_option maxRecDepth 100000

def Z254 : List Value := [.slice none 0 0, .slice none 0 0]
theorem Z254_one : Z254.toArray.all (·.oneCell') = true := by simp [Z254, Value.oneCell']
theorem build254 (W : World) : (Instr.build 254 #[]).run Tryz.prog W = .ok (.agg Z254.toArray) W := by
  refine run_build W 254 _ _ ?_
  kernel_rfl
theorem next_any {w : World} {c p : Nat} {u f1 f2 f3 : Value} (h : w.heap[c]? = some (.cells (C324 p u f1 f2 f3).toArray 324 (0, 0))) : Calls Tryz.prog 139 #[.pointer (some ⟨c, 0, none⟩)] w fun e w' => e = .returned (.tuple #[.agg Z254.toArray, .bool false]) ∧ (∀ B, B ≤ c → Below B w w') := by
  have hlt : c < w.heap.size := (Array.getElem?_eq_some_iff.1 h).1
  obtain ⟨w0, hw0⟩ : ∃ w0, w0 = w.alloc (.cells Z254.toArray 254) := ⟨_, rfl⟩
  have hb : Below w.heap.size w w0 := hw0 ▸ (Below.refl _ w).alloc (Nat.le_refl _) _
  have hn : w0.heap[w.heap.size]? = some (.cells Z254.toArray 254 (0, 0)) := hw0 ▸ heap_alloc_new _ _
  have h0 := (hb.block c hlt).trans h
  have c5 : w0.cell? ⟨c, 5, none⟩ = some (.slice none 0 0) := by rw [cell_of_row _ _ _ _ _ _ h0]; rfl
  have f5 : w0.frozen? ⟨c, 5, none⟩ = false := by simp [World.frozen?, h0]
  have hbu := build254
  have hne : c ≠ w.heap.size := by omega
  have HH := Lib.hid (And.intro hb (And.intro hn hlt))
  clear hb hn h0 h hlt
  go_enter Tryz.func139, Tryz.ntmps139
  go_upto_region 1 with (fail)
  rw [show w.alloc (.cells #[.slice none 0 0, .slice none 0 0] 254) = w0 from hw0.symm]
  clear hw0
  generalize hG : w.heap.size = g at *
  go_wp2
  go_loop [3] (fun x => x = .bool false) (fun _ => 0)
  case atStart => rfl
  subst hrel
  go_wp2_with (refine wpList_stw (op := ⟨none, _, _, _, _, _⟩) rfl 254 (.tmp 2) (.tmp 99) rfl g Z254 Z254 254 rfl rfl ((Below.heap_setCell _ _ _ _ (fun e => hne e.symm)).trans HH.out.2.1) rfl rfl Z254_one ?_; intro w2 hc hb2 hs2)
  refine bodyPost_ret (v := .tuple #[.agg Z254.toArray, .bool false]) ?_ rfl ⟨rfl, ?_⟩
  · have hl := run_loadVar_row (P := Tryz.prog) w2 g 254 254 _ (0, 0) _ hc (by rfl) (by rfl) (by rfl)
    rw [results_cell_tmp rfl]
    simp [asAddr, Result.andThen, hl]
  · intro B hB
    obtain ⟨hb, hn, hlt⟩ := HH.out
    have hB2 : B ≤ g := Nat.le_trans hB (Nat.le_of_lt hlt)
    exact ((hb.mono hB2).setCell (p := ⟨c, 5, none⟩) hB _).trans (hb2 B hB2)
end Go.Proofs.YtagmldkcogidgaaGreatDoor
namespace Go.Proofs.YtagmldkcogidgaaGreatDoor
open Go.RowKit Pgp
set_option maxRecDepth 100000

theorem list_any {w : World} {p : Nat} {v : Value} (h : Pw w p) (hv : R16 w v) : Calls Tryz.prog 149 #[.pointer (some ⟨p, 0, none⟩), .int .i64 3, .slice none 0 0, v, .bool false, .int .i64 16] w fun e w' => e = .returned (.slice none 0 0) ∧ Below w.heap.size w w' := by
  have cS := start_any h hv
  clear h hv
  go_enter Tryz.func149, Tryz.ntmps149
  go_wp2_with (go_at_call 137; go_must (refine cS.mono ?_); rintro e w1 ⟨c, u, f1, f2, f3, rfl, hle, hc, hb1⟩)
  have cN := next_any hc
  have hlt : c < w1.heap.size := (Array.getElem?_eq_some_iff.1 hc).1
  clear cS hc
  refine wp_loop_rounds 1 ?_
  rw [rounds_succ]
  go_wp2_with (first
    | (go_at_call 139; go_must (refine cN.mono ?_); rintro e w2 ⟨rfl, hb2⟩)
    | (refine wpList_stw (op := ⟨none, _, _, _, _, _⟩) rfl 254 (.tmp 15) (.tmp 30) rfl w2.heap.size Z254 Z254 254 rfl rfl (heap_alloc_new _ _) rfl rfl Z254_one ?_; intro w3 _ hb3 _))
  go_ret
  have hs2 := (hb2 _ (Nat.le_refl _)).size
  have hb2 := hb2 w.heap.size hle
  have hle2 : w.heap.size ≤ w2.heap.size := Nat.le_trans hb1.size (hb1.trans hb2 |>.size |> fun h => by omega)
  exact ⟨rfl, (hb1.trans hb2).trans (((Below.refl w.heap.size w2).alloc hle2 _).trans (hb3 _ hle2))⟩
theorem due_any {w : World} {st p : Nat} (hc : w.cell? ⟨st, 0, none⟩ = some (.pointer (some ⟨p, 0, none⟩))) (h : Pw w p) : Calls Tryz.prog 103 #[.pointer (some ⟨st, 0, none⟩), .int .u64 1, .int .i64 16] w fun e w' => e = .returned (.slice none 0 0) ∧ Below w.heap.size w w' := by
  have c2 := two_any w.drew
  have cL := fun (V : World) (v : Value) (hV : Pw V p) (hR : R16 V v) => list_any hV hR
  have hbd : Below w.heap.size w w.drew := (Below.refl _ w).drew
  have hcd : w.drew.cell? ⟨st, 0, none⟩ = some (.pointer (some ⟨p, 0, none⟩)) := hc
  have H := Lib.hid (And.intro h hbd)
  clear h hbd
  go_enter Tryz.func103, Tryz.ntmps103
  go_upto_region 2 with (fail)
  go_region_held3 (fun w' => w'.cell? ⟨st, 0, none⟩ = some (.pointer (some ⟨p, 0, none⟩)))
    (first | exact hc | exact hcd | exact k1 | exact k2)
    (first
      | (go_at_call 149; refine (cL w1 v (H.out.1.below hb1) hv).mono ?_; rintro e w2 ⟨rfl, hb2⟩; have k2 := (hb2.cell (lt_of_cell k1)).trans k1)
      | (go_at_call 150; go_must (refine c2.mono ?_); rintro e w1 ⟨v, rfl, hv, hb1⟩; have k1 := (hb1.cell (lt_of_cell hcd)).trans hcd; have hb1 : Below w.heap.size w w1 := H.out.2.trans hb1))
  have hb2 := hb1.trans (hb2.mono hb1.size)
  clear c2 cL k1 k2 hv H hc hcd
  go_wp2
  refine wp_loop_rounds 1 ?_
  rw [rounds_succ]
  go_wp2
  go_ret
  exact ⟨rfl, hb2⟩
end Go.Proofs.YtagmldkcogidgaaGreatDoor
