/- server.events, change, answer of a Pulse where nothing is due. -/
/- wire.parse, wire.GetRequest of a Pulse; wire.PutReply of its answer. -/
import Derived.Test.YtagmldkcogidgaaGreatDoorCur
namespace Go.Proofs.YtagmldkcogidgaaGreatDoor
open Go.RowKit Pgp
set_option maxRecDepth 100000

theorem events_any {w : World} {sv D p st : Nat} (h : Sv w sv D p st) : Calls Tryz.prog 66 #[.pointer (some ⟨sv, 0, none⟩), .agg #[.int .i64 7, .slice none 0 0, .slice none 0 0, .slice none 0 0, .int .u64 0, .int .u64 0, .int .u64 0, .int .u64 0, .int .u32 0, .int .u32 0], .int .u64 1] w fun e w' => e = .returned (.int .i64 0) ∧ Below w.heap.size w w' := by
  obtain ⟨w0, hw0⟩ : ∃ w0, w0 = w.alloc (.cells #[.int .i64 7, .slice none 0 0, .slice none 0 0, .slice none 0 0, .int .u64 0, .int .u64 0, .int .u64 0, .int .u64 0, .int .u32 0, .int .u32 0] 51) := ⟨_, rfl⟩
  have hb : Below w.heap.size w w0 := hw0 ▸ (Below.refl _ w).alloc (Nat.le_refl _) _
  have k0 : w0.cell? ⟨w.heap.size, 0, none⟩ = some (.int .i64 7) := by rw [hw0, cell_of_row _ _ _ _ _ _ (heap_alloc_new _ _)]; rfl
  have h0 := h.below hb
  have c2 := h0.cs.2.2.1
  have cD := due_any h0.st_cell h0.pw
  clear h h0
  go_enter Tryz.func66, Tryz.ntmps66
  go_upto_region 1 with (fail)
  rw [← hw0]
  clear hw0
  go_wp2_with (go_at_call 103; go_must (refine cD.mono ?_); rintro e w1 ⟨rfl, hb1⟩)
  go_ret
  exact ⟨rfl, hb.trans (hb1.mono hb.size)⟩
def ReplyZ : List Value := [.int .i64 0, .int .i64 0, .slice none 0 0, .slice none 0 0, .slice none 0 0, .slice none 0 0, .int .u32 0]
def Reply7 : List Value := [.int .i64 0, .int .i64 7, .slice none 0 0, .slice none 0 0, .slice none 0 0, .slice none 0 0, .int .u32 0]
theorem Reply7_one : Reply7.toArray.all (·.oneCell') = true := by simp [Reply7, Value.oneCell']
theorem build58 (W : World) : (Instr.build 58 #[(1, .int .i64 7)]).run Tryz.prog W = .ok (.agg Reply7.toArray) W := by
  refine run_build W 58 _ _ ?_
  kernel_rfl
theorem change_any {w : World} {sv D p st : Nat} (h : Sv w sv D p st) : Calls Tryz.prog 30 #[.pointer (some ⟨sv, 0, none⟩), .int .u64 1, .agg #[.int .i64 7, .slice none 0 0, .slice none 0 0, .slice none 0 0, .int .u64 0, .int .u64 0, .int .u64 0, .int .u64 0, .int .u32 0, .int .u32 0]] w fun e w' => e = .returned (.tuple #[.agg Reply7.toArray, .int .i64 0]) ∧ Below w.heap.size w w' := by
  obtain ⟨w0, hw0⟩ : ∃ w0, w0 = (w.alloc (.cells #[.int .i64 7, .slice none 0 0, .slice none 0 0, .slice none 0 0, .int .u64 0, .int .u64 0, .int .u64 0, .int .u64 0, .int .u32 0, .int .u32 0] 51)).alloc (.cells #[.int .i64 0, .int .i64 0, .slice none 0 0, .slice none 0 0, .slice none 0 0, .slice none 0 0, .int .u32 0] 58) := ⟨_, rfl⟩
  have hb : Below w.heap.size w w0 := hw0 ▸ ((Below.refl _ w).alloc (Nat.le_refl _) _).alloc (by simp) _
  have hz : (w.alloc (.cells #[.int .i64 7, .slice none 0 0, .slice none 0 0, .slice none 0 0, .int .u64 0, .int .u64 0, .int .u64 0, .int .u64 0, .int .u32 0, .int .u32 0] 51)).heap.size = w.heap.size + 1 := by simp
  have hn : w0.heap[w.heap.size + 1]? = some (.cells #[.int .i64 0, .int .i64 0, .slice none 0 0, .slice none 0 0, .slice none 0 0, .slice none 0 0, .int .u32 0] 58 (0, 0)) := by
    rw [hw0, ← hz]
    exact heap_alloc_new _ _
  have hq : w0.heap[w.heap.size]? = some (.cells #[.int .i64 7, .slice none 0 0, .slice none 0 0, .slice none 0 0, .int .u64 0, .int .u64 0, .int .u64 0, .int .u64 0, .int .u32 0, .int .u32 0] 51 (0, 0)) := by
    rw [hw0, Below.heap_alloc _ _ _ (by rw [hz]; omega)]
    exact heap_alloc_new _ _
  have h0 := h.below hb
  have cF := first_any h0
  have HH := Lib.hid (And.intro hb (And.intro hn (And.intro hq h0)))
  have hbu := build58
  clear h h0 hb hn hq
  go_enter Tryz.func30, Tryz.ntmps30
  go_upto_region 1 with (fail)
  rw [← hw0]
  clear hw0 hz
  go_upto_region 2 with (go_at_call 65; go_must (refine cF.mono ?_); rintro e w1 ⟨rfl, hb1⟩)
  have l2 : w0.heap.size ≥ w.heap.size + 2 := by
    have := (Array.getElem?_eq_some_iff.1 HH.out.2.1).1
    omega
  have hq1 := (hb1.block w.heap.size (by omega)).trans HH.out.2.2.1
  have cE := events_any (HH.out.2.2.2.below hb1)
  have k1 : w1.cell? ⟨w.heap.size, 0, none⟩ = some (.int .i64 7) := by rw [cell_of_row _ _ _ _ _ _ hq1]; rfl
  clear cF
  generalize hG : w.heap.size = g at *
  go_upto_region 3 with (first
    | (refine wpList_load_row (o := ⟨some 16, _, _, _, _, _⟩) rfl 51 (.tmp 5) rfl g rfl 51 #[.int .i64 7, .slice none 0 0, .slice none 0 0, .slice none 0 0, .int .u64 0, .int .u64 0, .int .u64 0, .int .u64 0, .int .u32 0, .int .u32 0] (0, 0) _ hq1 (by rfl) (by rfl) (by rfl) ?_)
    | (go_at_call 66; go_must (refine cE.mono ?_); rintro e w2 ⟨rfl, hb2⟩))
  obtain ⟨hb, hn, hq, h0⟩ := HH.out
  have l1 := hb1.size
  have hb12 := hb1.trans (hb2.mono l1)
  have hn2 : w2.heap[g + 1]? = some (.cells ReplyZ.toArray 58 (0, 0)) := (hb12.block (g + 1) (by omega)).trans hn
  have hq2 := (hb12.block g (by omega)).trans hq
  have k2 : w2.cell? ⟨g, 0, none⟩ = some (.int .i64 7) := by rw [cell_of_row _ _ _ _ _ _ hq2]; rfl
  have HB := Lib.hid (And.intro hb (And.intro hb12 (And.intro l2 hG)))
  clear cE hb1 hb2 hb12 hq1 k1 hb hn hq h0 l1 l2 hG HH hq2
  go_wp2_with (refine wpList_stw (op := ⟨none, _, _, _, _, _⟩) rfl 58 (.tmp 6) (.tmp 24) rfl (g + 1) Reply7 ReplyZ 58 rfl rfl hn2 rfl rfl Reply7_one ?_; intro w3 hc hb3 _)
  refine bodyPost_ret (v := .tuple #[.agg Reply7.toArray, .int .i64 0]) ?_ rfl ⟨rfl, ?_⟩
  · have hl := run_loadVar_row (P := Tryz.prog) w3 (g + 1) 58 58 _ (0, 0) _ hc (by rfl) (by rfl) (by rfl)
    rw [results_cell_tmp rfl]
    simp [asAddr, Result.andThen, hl]
  · obtain ⟨hb, hb12, l2, hG⟩ := HB.out
    rw [hG]
    exact (hb.trans (hb12.mono (by omega))).trans (hb3 g (by omega))
set_option maxHeartbeats 3200000 in
theorem answer_any {w : World} {sv D p st : Nat} (h : Sv w sv D p st) : Calls Tryz.prog 13 #[.pointer (some ⟨sv, 0, none⟩), .int .u64 1, .agg #[.int .i64 7, .slice none 0 0, .slice none 0 0, .slice none 0 0, .int .u64 0, .int .u64 0, .int .u64 0, .int .u64 0, .int .u32 0, .int .u32 0]] w fun e w' => e = .returned (.tuple #[.agg Reply7.toArray, .int .i64 0]) ∧ Below w.heap.size w w' := by
  obtain ⟨w0, hw0⟩ : ∃ w0, w0 = (w.alloc (.cells #[.int .i64 7, .slice none 0 0, .slice none 0 0, .slice none 0 0, .int .u64 0, .int .u64 0, .int .u64 0, .int .u64 0, .int .u32 0, .int .u32 0] 51)).alloc (.cells #[.int .i64 0, .int .i64 0, .slice none 0 0, .slice none 0 0, .slice none 0 0, .slice none 0 0, .int .u32 0] 58) := ⟨_, rfl⟩
  have hb : Below w.heap.size w w0 := hw0 ▸ ((Below.refl _ w).alloc (Nat.le_refl _) _).alloc (by simp) _
  have hz : (w.alloc (.cells #[.int .i64 7, .slice none 0 0, .slice none 0 0, .slice none 0 0, .int .u64 0, .int .u64 0, .int .u64 0, .int .u64 0, .int .u32 0, .int .u32 0] 51)).heap.size = w.heap.size + 1 := by simp
  have hn : w0.heap[w.heap.size + 1]? = some (.cells #[.int .i64 0, .int .i64 0, .slice none 0 0, .slice none 0 0, .slice none 0 0, .slice none 0 0, .int .u32 0] 58 (0, 0)) := by
    rw [hw0, ← hz]
    exact heap_alloc_new _ _
  have hq : w0.heap[w.heap.size]? = some (.cells #[.int .i64 7, .slice none 0 0, .slice none 0 0, .slice none 0 0, .int .u64 0, .int .u64 0, .int .u64 0, .int .u64 0, .int .u32 0, .int .u32 0] 51 (0, 0)) := by
    rw [hw0, Below.heap_alloc _ _ _ (by rw [hz]; omega)]
    exact heap_alloc_new _ _
  have hzz : w0.heap.size = w.heap.size + 2 := by rw [hw0]; simp
  have k0 : w0.cell? ⟨w.heap.size, 0, none⟩ = some (.int .i64 7) := by rw [cell_of_row _ _ _ _ _ _ hq]; rfl
  have hbu := build58
  have h0 := h.below hb
  have HH := Lib.hid (And.intro hb (And.intro hn (And.intro hq h0)))
  clear h h0 hb hn hq
  go_enter Tryz.func13, Tryz.ntmps13
  go_upto_region 1 with (fail)
  rw [← hw0]
  clear hw0 hz
  go_upto_region 2 with (fail)
  obtain ⟨w1, hw1⟩ : ∃ w1, w1 = w0.alloc (.cells #[.int .i64 0, .int .i64 7, .slice none 0 0, .slice none 0 0, .slice none 0 0, .slice none 0 0, .int .u32 0] 58) := ⟨_, rfl⟩
  have hb1 : Below w0.heap.size w0 w1 := hw1 ▸ (Below.refl w0.heap.size w0).alloc (Nat.le_refl _) _
  rw [← hw1]
  clear hw1
  generalize hG : w.heap.size = g at *
  have hq1 := (hb1.block g (by omega)).trans HH.out.2.2.1
  have hn1 : w1.heap[g + 1]? = some (.cells ReplyZ.toArray 58 (0, 0)) := (hb1.block (g + 1) (by omega)).trans HH.out.2.1
  have k1 : w1.cell? ⟨g, 0, none⟩ = some (.int .i64 7) := by rw [cell_of_row _ _ _ _ _ _ hq1]; rfl
  have l1 : g + 2 ≤ w1.heap.size := by have := hb1.size; omega
  have cC := change_any (HH.out.2.2.2.below hb1)
  have HB := Lib.hid (And.intro hb1 (And.intro hn1 (And.intro l1 (And.intro hzz hG))))
  clear k0 hbu hb1 hn1 l1 hzz hG
  go_wp2_with (first
    | (refine wpList_load_row (o := ⟨some 61, _, _, _, _, _⟩) rfl 51 (.tmp 5) rfl g rfl 51 #[.int .i64 7, .slice none 0 0, .slice none 0 0, .slice none 0 0, .int .u64 0, .int .u64 0, .int .u64 0, .int .u64 0, .int .u32 0, .int .u32 0] (0, 0) _ hq1 (by rfl) (by rfl) (by rfl) ?_)
    | (go_at_call 30; go_must (refine cC.mono ?_); rintro e w2 ⟨rfl, hb2⟩)
    | (refine wpList_stw (op := ⟨none, _, _, _, _, _⟩) rfl 58 (.tmp 6) (.tmp 63) rfl (g + 1) Reply7 ReplyZ 58 rfl rfl ((hb2.block (g + 1) HB.out.2.2.1).trans HB.out.2.1) rfl rfl Reply7_one ?_; intro w3 hc hb3 _))
  refine bodyPost_ret (v := .tuple #[.agg Reply7.toArray, .int .i64 0]) ?_ rfl ⟨rfl, ?_⟩
  · have hl := run_loadVar_row (P := Tryz.prog) w3 (g + 1) 58 58 _ (0, 0) _ hc (by rfl) (by rfl) (by rfl)
    rw [results_cell_tmp rfl]
    simp [asAddr, Result.andThen, hl]
  · obtain ⟨hb1, _, l1, hzz, hG⟩ := HB.out
    have hb := HH.out.1
    rw [hG]
    exact ((hb.trans (hb1.mono (by omega))).trans (hb2.mono (by omega))).trans (hb3 g (by omega))
end Go.Proofs.YtagmldkcogidgaaGreatDoor
namespace Go.Proofs.YtagmldkcogidgaaGreatDoor
open Go.RowKit Pgp
set_option maxRecDepth 100000

theorem results_cell_tmp2 {fn : Func} {p u v : Tmp} {ty : TypeId} (h : fn.results = #[.cell p ty, .tmp u, .tmp v]) (tmps : Array Value) (P : Program) (w : World) :
    (results fn tmps).run P w =
      ((asAddr (tmps.getD p undef)).run P w).andThen fun a w₁ => ((loadVar ty a).run P w₁).andThen fun x w₂ => .ok (.tuple #[x, tmps.getD u undef, tmps.getD v undef]) w₂ := by
  simp only [results, h]
  simp [Sem.run_bind, Result.andThen]
def ReqZ : List Value := [.int .i64 0, .slice none 0 0, .slice none 0 0, .slice none 0 0, .int .u64 0, .int .u64 0, .int .u64 0, .int .u64 0, .int .u32 0, .int .u32 0]
def Req7 : List Value := [.int .i64 7, .slice none 0 0, .slice none 0 0, .slice none 0 0, .int .u64 0, .int .u64 0, .int .u64 0, .int .u64 0, .int .u32 0, .int .u32 0]
theorem Req7_one : Req7.toArray.all (·.oneCell') = true := by simp [Req7, Value.oneCell']
theorem build51 (W : World) : (Instr.build 51 #[(0, .int .i64 7)]).run Tryz.prog W = .ok (.agg Req7.toArray) W := by
  refine run_build W 51 _ _ ?_
  kernel_rfl
set_option maxHeartbeats 3200000 in
theorem parse_7 {w : World} (A : Option Addr) (c : Nat) : Calls Tryz.prog 17 #[.int .u8 7, .slice A 0 c] w fun e w' => e = .returned (.tuple #[.agg Req7.toArray, .int .i64 0, .bool true]) ∧ Below w.heap.size w w' := by
  obtain ⟨w0, hw0⟩ : ∃ w0, w0 = w.alloc (.cells #[.int .i64 0, .slice none 0 0, .slice none 0 0, .slice none 0 0, .int .u64 0, .int .u64 0, .int .u64 0, .int .u64 0, .int .u32 0, .int .u32 0] 51) := ⟨_, rfl⟩
  have hb : Below w.heap.size w w0 := hw0 ▸ (Below.refl _ w).alloc (Nat.le_refl _) _
  have hn : w0.heap[w.heap.size]? = some (.cells ReqZ.toArray 51 (0, 0)) := hw0 ▸ heap_alloc_new _ _
  have hz : w0.heap.size = w.heap.size + 1 := by rw [hw0]; simp
  have hbu := build51
  go_enter Tryz.func17, Tryz.ntmps17
  go_upto_region 1 with (fail)
  rw [← hw0]
  clear hw0
  go_upto_region 2 with (fail)
  obtain ⟨w1, hw1⟩ : ∃ w1, w1 = w0.alloc (.cells #[.int .i64 7, .slice none 0 0, .slice none 0 0, .slice none 0 0, .int .u64 0, .int .u64 0, .int .u64 0, .int .u64 0, .int .u32 0, .int .u32 0] 51) := ⟨_, rfl⟩
  have hb1 : Below w0.heap.size w0 w1 := hw1 ▸ (Below.refl w0.heap.size w0).alloc (Nat.le_refl _) _
  have hq1 : w1.heap[w.heap.size + 1]? = some (.cells #[.int .i64 7, .slice none 0 0, .slice none 0 0, .slice none 0 0, .int .u64 0, .int .u64 0, .int .u64 0, .int .u64 0, .int .u32 0, .int .u32 0] 51 (0, 0)) := by
    rw [hw1, ← hz]
    exact heap_alloc_new _ _
  rw [← hw1]
  clear hw1
  generalize hG : w.heap.size = g at *
  have hn1 := (hb1.block g (by omega)).trans hn
  have HB := Lib.hid (And.intro hb (And.intro hb1 (And.intro hz hG)))
  clear hb hb1 hn hz hG hbu
  go_wp2_with (first
    | (refine wpList_load_row (o := ⟨some 67, _, _, _, _, _⟩) rfl 51 (.tmp 7) rfl (g + 1) rfl 51 #[.int .i64 7, .slice none 0 0, .slice none 0 0, .slice none 0 0, .int .u64 0, .int .u64 0, .int .u64 0, .int .u64 0, .int .u32 0, .int .u32 0] (0, 0) _ hq1 (by rfl) (by rfl) (by rfl) ?_)
    | (refine wpList_stw (op := ⟨none, _, _, _, _, _⟩) rfl 51 (.tmp 4) (.tmp 67) rfl g Req7 ReqZ 51 rfl rfl hn1 rfl rfl Req7_one ?_; intro w3 hc hb3 _))
  refine bodyPost_ret (v := .tuple #[.agg Req7.toArray, .int .i64 0, .bool true]) ?_ rfl ⟨rfl, ?_⟩
  · have hl := run_loadVar_row (P := Tryz.prog) w3 g 51 51 _ (0, 0) _ hc (by rfl) (by rfl) (by rfl)
    rw [results_cell_tmp2 rfl]
    simp [asAddr, Result.andThen, hl]
  · obtain ⟨hb, hb1, hz, hG⟩ := HB.out
    rw [hG]
    exact (hb.trans (hb1.mono (by omega))).trans (hb3 g (Nat.le_refl _))
end Go.Proofs.YtagmldkcogidgaaGreatDoor
