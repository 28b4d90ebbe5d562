/- wire.PutReply of a Pulse's answer. -/
/- server.Do of a Pulse. -/
import Derived.Test.YtagmldkcogidgaaGreatDoorSrvE
namespace Go.Proofs.YtagmldkcogidgaaGreatDoor
open Go.RowKit Pgp
set_option maxRecDepth 100000

def out6 : ByteArray := ⟨#[0, 7, 0, 0, 0, 0]⟩
set_option maxHeartbeats 3200000 in
theorem putreply_7 {w : World} : Calls Tryz.prog 12 #[.agg #[.int .i64 0, .int .i64 7, .slice none 0 0, .slice none 0 0, .slice none 0 0, .slice none 0 0, .int .u32 0]] w fun e w' => ∃ v, e = .returned v ∧ Own w' w.heap.size v out6 ∧ Below w.heap.size w w' := by
  obtain ⟨w1, hw1⟩ : ∃ w1, w1 = (w.alloc (.cells #[.int .i64 0, .int .i64 7, .slice none 0 0, .slice none 0 0, .slice none 0 0, .slice none 0 0, .int .u32 0] 58)).alloc (.cells #[.int .u8 0, .int .u8 7] 5) := ⟨_, rfl⟩
  have hb : Below w.heap.size w w1 := hw1 ▸ ((Below.refl _ w).alloc (Nat.le_refl _) _).alloc (by simp) _
  have hz : (w.alloc (.cells #[.int .i64 0, .int .i64 7, .slice none 0 0, .slice none 0 0, .slice none 0 0, .slice none 0 0, .int .u32 0] 58)).heap.size = w.heap.size + 1 := by simp
  have hq : w1.heap[w.heap.size]? = some (.cells #[.int .i64 0, .int .i64 7, .slice none 0 0, .slice none 0 0, .slice none 0 0, .slice none 0 0, .int .u32 0] 58 (0, 0)) := by
    rw [hw1, Below.heap_alloc _ _ _ (by rw [hz]; omega)]
    exact heap_alloc_new _ _
  have ho : Own w1 w.heap.size (.slice (some ⟨w.heap.size + 1, 0, none⟩) 2 2) ⟨#[0, 7]⟩ := by
    have := Own.lit (w.alloc (.cells #[.int .i64 0, .int .i64 7, .slice none 0 0, .slice none 0 0, .slice none 0 0, .slice none 0 0, .int .u32 0] 58)) w.heap.size ⟨#[0, 7]⟩ #[.int .u8 0, .int .u8 7] (by simp [bcells]) (by rw [hz]; omega) (by decide)
    rw [hz] at this
    rw [hw1]
    exact this
  have k0 : w1.cell? ⟨w.heap.size, 0, none⟩ = some (.int .i64 0) := by rw [cell_of_row _ _ _ _ _ _ hq]; rfl
  have k1 : w1.cell? ⟨w.heap.size, 1, none⟩ = some (.int .i64 7) := by rw [cell_of_row _ _ _ _ _ _ hq]; rfl
  have k6 : w1.cell? ⟨w.heap.size, 6, none⟩ = some (.int .u32 0) := by rw [cell_of_row _ _ _ _ _ _ hq]; rfl
  have HH := Lib.hid (And.intro hb ho)
  clear hq hb ho hz
  go_enter Tryz.func12, Tryz.ntmps12
  go_upto_region 6 with (fail)
  rw [← hw1]
  clear hw1
  have hR := Rd.fresh w1 ⟨#[0, 0, 0, 0]⟩ #[.int .u8 0, .int .u8 0, .int .u8 0, .int .u8 0] (by simp [bcells]) 5 (0, 0)
  have hO := HH.out.2.alloc (.cells #[.int .u8 0, .int .u8 0, .int .u8 0, .int .u8 0] 5)
  have hB := HH.out.1.alloc HH.out.1.size (.cells #[.int .u8 0, .int .u8 0, .int .u8 0, .int .u8 0] 5)
  have hle := hB.size
  go_wp2_with (at_builtin; refine wpList_app (by simp [Region.wanted, go_sem]) (.tmp 53) (.tmp 69) rfl rfl w.heap.size (.slice (some ⟨w.heap.size + 1, 0, none⟩) 2 2) ⟨#[0, 7]⟩ rfl hO (some ⟨w1.heap.size, 0, none⟩) 4 ⟨#[0, 0, 0, 0]⟩ rfl hR (by decide) hle ?_; intro A' c' u w' hu _ ho2 hg2 _)
  go_ret
  refine ⟨_, rfl, ?_, hB.grown hg2 hle (fun k e => by cases e; show w.heap.size ≤ w.heap.size + 1; omega)⟩
  have hu : u = out6 := by rw [hu.out]; decide
  rw [← hu]
  exact ho2
end Go.Proofs.YtagmldkcogidgaaGreatDoor
namespace Go.Proofs.YtagmldkcogidgaaGreatDoor
open Go.RowKit Pgp
set_option maxRecDepth 100000

set_option maxHeartbeats 3200000 in
theorem do_7 {base : Nat} {w : World} {D S k sv p st b : Nat} {L : List UInt8} {V : Value} {ws : List (Nat × List UInt8)} (hD : Dk base w D S L V ws k) (h : Sv w sv D p st) (hb : w.cell? ⟨b, 0, none⟩ = some (.int .u8 7)) :
    Calls Tryz.prog 6 #[.pointer (some ⟨sv, 0, none⟩), .int .u64 1, .slice (some ⟨b, 0, none⟩) 1 1] w fun e w' => ∃ v, e = .returned (.tuple #[v, .int .i64 0]) ∧ Own w' w.heap.size v out6 ∧ Below w.heap.size w w' := by
  have cD := down_any hD
  have cQ := getreq_7 b hb
  obtain ⟨c0, c1, c2, c3⟩ := h.cs
  have H := Lib.hid h
  clear hD hb h c1 c2
  go_enter Tryz.func6, Tryz.ntmps6
  go_upto_region 6 with (first
    | (go_at_call 10; go_must (refine cD.mono ?_); rintro e w' ⟨rfl, rfl⟩)
    | (go_at_call 11; go_must (refine cQ.mono ?_); rintro e w1 ⟨rfl, hb1⟩)
    | (refine wpList_stw (op := ⟨none, _, _, _, _, _⟩) rfl 51 (.tmp 8) (.tmp 26) rfl w1.heap.size Req7 ReqZ 51 rfl rfl (heap_alloc_new _ _) rfl rfl Req7_one ?_; intro w2 hn2 hb2 _))
  have hb2 : Below w1.heap.size w1 w2 := ((Below.refl _ w1).alloc (Nat.le_refl _) _).trans (hb2 _ (Nat.le_refl _))
  have hb2 := hb1.trans (hb2.mono hb1.size)
  have cA := answer_any (H.out.below hb2)
  have HB := Lib.hid hb2
  clear hb1 hb2 cD cQ c0 c3 H
  go_upto_region 10 with (first
    | (refine wpList_load_row (o := ⟨some 36, _, _, _, _, _⟩) rfl 51 (.tmp 8) rfl w1.heap.size rfl 51 #[.int .i64 7, .slice none 0 0, .slice none 0 0, .slice none 0 0, .int .u64 0, .int .u64 0, .int .u64 0, .int .u64 0, .int .u32 0, .int .u32 0] (0, 0) _ hn2 (by rfl) (by rfl) (by rfl) ?_)
    | (go_at_call 13; go_must (refine cA.mono ?_); rintro e w3 ⟨rfl, hb3⟩)
    | (refine wpList_stw (op := ⟨none, _, _, _, _, _⟩) rfl 58 (.tmp 10) (.tmp 38) rfl w3.heap.size Reply7 ReplyZ 58 rfl rfl (heap_alloc_new _ _) rfl rfl Reply7_one ?_; intro w4 hn4 hb4 _))
  have hb4 : Below w3.heap.size w3 w4 := ((Below.refl _ w3).alloc (Nat.le_refl _) _).trans (hb4 _ (Nat.le_refl _))
  have hb3 := HB.out.trans (hb3.mono HB.out.size)
  have hb4 := hb3.trans (hb4.mono hb3.size)
  have cR := putreply_7 (w := w4)
  have HB := Lib.hid hb4
  clear hb3 hb4 cA hn2
  go_wp2_with (first
    | (refine wpList_load_row (o := ⟨some 51, _, _, _, _, _⟩) rfl 58 (.tmp 10) rfl w3.heap.size rfl 58 #[.int .i64 0, .int .i64 7, .slice none 0 0, .slice none 0 0, .slice none 0 0, .slice none 0 0, .int .u32 0] (0, 0) _ hn4 (by rfl) (by rfl) (by rfl) ?_)
    | (go_at_call 12; go_must (refine cR.mono ?_); rintro e w5 ⟨v, rfl, ho, hb5⟩))
  go_returns
  exact ⟨v, rfl, Go.World.ownsRow.mono ho HB.out.size, HB.out.trans (hb5.mono HB.out.size)⟩
end Go.Proofs.YtagmldkcogidgaaGreatDoor
