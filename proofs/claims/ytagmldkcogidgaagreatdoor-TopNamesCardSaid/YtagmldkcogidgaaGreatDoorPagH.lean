/- pager.Open, server.Open of the formatted disk. -/
import Derived.Test.YtagmldkcogidgaaGreatDoorPagF
import Derived.Test.YtagmldkcogidgaaGreatDoorPagG
namespace Go.Proofs.YtagmldkcogidgaaGreatDoor
open Go.RowKit Pgp
set_option maxRecDepth 100000

def WK0 : List Value := .pointer none :: .pointer none :: .map none :: RC
theorem build112 (D : Nat) (W : World) : (Instr.build 112 #[(0, .pointer (some ⟨D, 0, none⟩)), (1, .agg (SV 1 r0).toArray)]).run Tryz.prog W = .ok (.agg (pcells D (.slice none 0 0) (.slice none 0 0) 0 WK0).toArray) W := by
  refine run_build W 112 _ _ ?_
  kernel_rfl
theorem size112 : (Tryz.prog.info? 112).map (·.size) = some 60 := by kernel_rfl
theorem ex_alloc104 {w : World} {a : Act} {o : Oper} (ho : o.op = .alloc 104) : (execOp a.eval o).run Tryz.prog w = .ok (.value (.pointer (some ⟨w.heap.size, 0, none⟩))) (w.alloc (.cells (SV 0 zeros27).toArray 104)) := by
  have hz : (Tryz.prog.info? 104).bind (·.zero) = some (.agg (SV 0 zeros27).toArray) := by kernel_rfl
  cases hq : Tryz.prog.info? 104 with
  | none => simp [hq] at hz
  | some i =>
    rw [hq] at hz
    have hz : i.zero = some (.agg (SV 0 zeros27).toArray) := hz
    generalize (SV 0 zeros27).toArray = C at *
    unfold execOp
    simp only [ho]
    simp [Instr.alloc, newVar, zeroValue, typeInfo, hq, hz, cells_agg, newRow]
theorem ex_box112 {w : World} {a : Act} {o : Oper} {x : Operand} {X : Array Value} (ho : o.op = .box 112 x) (hx : a.eval x = .agg X) : (execOp a.eval o).run Tryz.prog w = .ok (.value (.pointer (some ⟨w.heap.size, 0, none⟩))) (w.alloc (.cells X 112)) := by
  unfold execOp
  simp only [ho, hx]
  simp [Instr.box, newVar, newRow, cells_agg]
theorem ex_build112 {o : Oper} {a : Act} {w : World} {x y : Operand} {v1 v2 X : Value} (ho : o.op = .build 112 #[(0, x), (1, y)]) (h1 : a.eval x = v1) (h2 : a.eval y = v2)
    (hb : (Instr.build 112 #[(0, v1), (1, v2)]).run Tryz.prog w = .ok X w) : (execOp a.eval o).run Tryz.prog w = .ok (.value X) w := by
  unfold execOp
  simp only [ho, List.map_toArray, List.map_cons, List.map_nil, h1, h2, Sem.run_bind, hb, Result.andThen_ok]
  rfl
set_option maxHeartbeats 6400000 in
theorem popen_any {base : Nat} {w : World} {D S k : Nat} (h : Dk base w D S disk0 (.slice none 0 0) [] k) (hT : Tab w) (hb : base ≤ w.heap.size) :
    Calls Tryz.prog 15 #[.pointer (some ⟨D, 0, none⟩)] w fun e w' => ∃ p, e = .returned (.tuple #[.pointer (some ⟨p, 0, none⟩), .int .i64 0]) ∧ (∃ VL VN b1 b2 m, Pg w' p D VL VN 1 (WKof b1 b2 m)) ∧ w.heap.size ≤ p ∧ Below w.heap.size w w' := by
  have cN := pnewest_any h hT
  have HH := Lib.hid (And.intro h hT)
  clear h hT
  go_enter Tryz.func15, Tryz.ntmps15
  go_upto_region 1 with fail
  refine wp_region_lit ?_
  refine wpList_run (v := .pointer (some ⟨D, 0, none⟩)) (w' := w) rfl (by go_simp) ?_
  try simp only [Act.put, List.setIfInBounds_toArray, List.set_cons_zero, List.set_cons_succ]
  refine wpList_plain rfl fun K hK => ?_
  go_simp
  go_at_call 37
  refine cN.mono ?_
  rintro e w1 ⟨rfl, hb1⟩
  refine hK _ _ ?_
  clear hK cN
  try simp only [Act.put, List.setIfInBounds_toArray, List.set_cons_zero, List.set_cons_succ]
  refine wpList_run (v := .tuple #[.agg (SV 1 r0).toArray, .int .i64 0]) (w' := w1) rfl (by go_simp) ?_
  try simp only [Act.put, List.setIfInBounds_toArray, List.set_cons_zero, List.set_cons_succ]
  refine wpList_run (v := .agg (SV 1 r0).toArray) (w' := w1) rfl (by go_simp) ?_
  refine wpList_run (v := .int .i64 0) (w' := w1) rfl (by go_simp) ?_
  try simp only [Act.put, List.setIfInBounds_toArray, List.set_cons_zero, List.set_cons_succ]
  refine wpList_run rfl (ex_alloc104 rfl) ?_
  try simp only [Act.put, List.setIfInBounds_toArray, List.set_cons_zero, List.set_cons_succ]
  refine wpList_st_new (op := ⟨none, _, _, _, _, _⟩) rfl (.tmp 4) (.tmp 10) rfl w1 1 r0 rfl (by rfl) (by rfl) rfl rfl ?_
  have hSN := sup_new w1 1 r0
  have hBN : Below w1.heap.size w1 (w1.alloc (.cells (SV 1 r0).toArray 104)) := (Below.refl _ _).alloc (Nat.le_refl _) _
  have hb2 : Below w.heap.size w (w1.alloc (.cells (SV 1 r0).toArray 104)) := hb1.trans (hBN.mono hb1.size)
  generalize w1.alloc (.cells (SV 1 r0).toArray 104) = w2 at *
  have h2 := HH.out.1.below hb2
  have cK := blocks_any h2
  have hrg := hSN.range56
  have s8 : w2.cell? ⟨w1.heap.size, 1, none⟩ = some (.int .u32 8) := hSN.at 0 (by decide)
  have H2 := Lib.hid (And.intro hb2 (And.intro h2 hSN))
  clear hBN hb2 h2 hSN
  go_upto_region 4 with fail
  refine wp_region_lit ?_
  refine wpList_run (v := .pointer (some ⟨D, 0, none⟩)) (w' := w2) rfl (by go_simp) ?_
  try simp only [Act.put, List.setIfInBounds_toArray, List.set_cons_zero, List.set_cons_succ]
  refine wpList_load_mid (op := ⟨some 16, _, _, _, _, _⟩) rfl 104 (.tmp 4) rfl w1.heap.size 0 (by rfl) (SV 1 r0) _ hrg Tryz.underlying104 rfl (by rw [size56]; rfl) ?_
  refine wpList_run (o := ⟨some 17, _, _, _, _, _⟩) (w' := w2) rfl (ex_build112 (x := .tmp 15) (y := .tmp 16) rfl (by rfl) (by rfl) (build112 D w2)) ?_
  refine wpList_run (o := ⟨some 18, _, _, _, _, _⟩) rfl (ex_box112 (x := .tmp 17) rfl (by rfl)) ?_
  try simp only [Act.put, List.setIfInBounds_toArray, List.set_cons_zero, List.set_cons_succ]
  have hPg : Pg (w2.alloc (.cells (pcells D (.slice none 0 0) (.slice none 0 0) 0 WK0).toArray 112)) w2.heap.size D (.slice none 0 0) (.slice none 0 0) 0 WK0 := heap_alloc_new w2 _
  have hb3 : Below w2.heap.size w2 (w2.alloc (.cells (pcells D (.slice none 0 0) (.slice none 0 0) 0 WK0).toArray 112)) := (Below.refl _ _).alloc (Nat.le_refl _) _
  generalize w2.alloc (.cells (pcells D (.slice none 0 0) (.slice none 0 0) 0 WK0).toArray 112) = w3 at *
  have hlt1 : w1.heap.size < w2.heap.size := lt_of_cell s8
  have t8 := (hb3.cell (p := ⟨w1.heap.size, 1, none⟩) hlt1).trans s8
  have hd3 := H2.out.2.1.below hb3
  have hlD := H2.out.2.1.lt
  have hT3 : Tab w3 := HH.out.2.below HH.out.2.pos (H2.out.1.trans (hb3.mono H2.out.1.size))
  have cK3 := blocks_any (hd3.below ((Below.refl _ w3).drew))
  have hbd : Below w3.heap.size w3 w3.drew := (Below.refl _ w3).drew
  have cL := load_any (hd3.below hbd) (hT3.below hT3.pos hbd) (hPg.block (hbd.block _ hPg.lt)) (by omega) (by omega)
  have H3 := Lib.hid (And.intro hb3 hlt1)
  clear cK s8 hrg hd3 hT3 hbd hb3
  have HP := Lib.hid hPg
  have HL := Lib.hid cL
  have HK3 := Lib.hid cK3
  clear hPg cL cK3 hlD hb
  generalize (SV 1 r0).toArray = cc
  generalize (pcells D (.slice none 0 0) (.slice none 0 0) 0 WK0).toArray = pc
  generalize Value.tuple #[Value.agg cc, Value.int .i64 0] = tt
  generalize Value.agg cc = vcc
  generalize Value.agg pc = vpc
  go_upto_region 5 with fail
  refine wp_region_held_drew (S := fun w' => w'.cell? ⟨w1.heap.size, 1, none⟩ = some (.int .u32 8)) (by kernel_rfl) ?_ (fun hHeld => ?_)
  · exact t8
  refine wpAnyH_take (i := 0) (oi := ⟨some 19, _, _, _, _, _⟩) (v := ?_) rfl (by kernel_rfl) (by kernel_rfl) (by kernel_rfl) (fun _ _ _ h => h) (Or.inl ⟨by rfl, ?_⟩) (by assumption) ?_
  rotate_left
  · (intro w hSw; (try dsimp only at hSw); go_simp)
    all_goals (with_reducible rfl)
  try simp only [Act.put, List.setIfInBounds_toArray, List.set_cons_zero, List.set_cons_succ]
  refine wpAnyH_take (i := 1) (oi := ⟨some 20, _, _, _, _, _⟩) (v := ?_) rfl (by kernel_rfl) (by kernel_rfl) (by kernel_rfl) (fun _ _ _ h => h) (Or.inl ⟨by rfl, ?_⟩) (by assumption) ?_
  rotate_left
  · (intro w hSw; (try dsimp only at hSw); go_simp)
    all_goals (with_reducible rfl)
  try simp only [Act.put, List.setIfInBounds_toArray, List.set_cons_zero, List.set_cons_succ]
  refine wpAnyH_take (i := 2) (oi := ⟨some 21, _, _, _, _, _⟩) (v := ?_) rfl (by kernel_rfl) (by kernel_rfl) (by kernel_rfl) (fun _ _ _ h => h) (Or.inl ⟨by rfl, ?_⟩) (by assumption) ?_
  rotate_left
  · (intro w hSw; (try dsimp only at hSw); go_simp)
    all_goals (with_reducible rfl)
  try simp only [Act.put, List.setIfInBounds_toArray, List.set_cons_zero, List.set_cons_succ]
  refine wpAnyH_ready (rs := [3]) (by kernel_rfl) (by simp) ?_
  refine AllReadyH.cons (o := ⟨some 22, _, _, _, _, _⟩) rfl (fun K hK => ?_) AllReadyH.nil
  go_simp
  go_at_call 33
  refine HK3.out.mono ?_
  rintro e w' ⟨rfl, rfl⟩
  go_wp2_with fail
  refine hK.out _ _ ?_ (fun hHeld => ?_)
  · exact t8
  clear hK K
  try simp only [Act.put, List.setIfInBounds_toArray, List.set_cons_zero, List.set_cons_succ]
  refine wpAnyH_take (i := 4) (oi := ⟨some 23, _, _, _, _, _⟩) (v := ?_) rfl (by kernel_rfl) (by kernel_rfl) (by kernel_rfl) (fun _ _ _ h => h) (Or.inl ⟨by rfl, ?_⟩) (by assumption) ?_
  rotate_left
  · (intro w hSw; (try dsimp only at hSw); go_simp)
    all_goals (with_reducible rfl)
  try simp only [Act.put, List.setIfInBounds_toArray, List.set_cons_zero, List.set_cons_succ]
  refine wpAnyH_take (i := 5) (oi := ⟨some 24, _, _, _, _, _⟩) (v := ?_) rfl (by kernel_rfl) (by kernel_rfl) (by kernel_rfl) (fun _ _ _ h => h) (Or.inl ⟨by rfl, ?_⟩) (by assumption) ?_
  rotate_left
  · (intro w hSw; (try dsimp only at hSw); go_simp)
    all_goals (with_reducible rfl)
  try simp only [Act.put, List.setIfInBounds_toArray, List.set_cons_zero, List.set_cons_succ]
  refine wpAnyH_take (i := 6) (oi := ⟨some 25, _, _, _, _, _⟩) (v := ?_) rfl (by kernel_rfl) (by kernel_rfl) (by kernel_rfl) (fun _ _ _ h => h) (Or.inl ⟨by rfl, ?_⟩) (by assumption) ?_
  rotate_left
  · (intro w hSw; (try dsimp only at hSw); go_simp)
    all_goals (with_reducible rfl)
  try simp only [Act.put, List.setIfInBounds_toArray, List.set_cons_zero, List.set_cons_succ]
  refine wpAnyH_take (i := 7) (oi := ⟨some 26, _, _, _, _, _⟩) (v := ?_) rfl (by kernel_rfl) (by kernel_rfl) (by kernel_rfl) (fun _ _ _ h => h) (Or.inl ⟨by rfl, ?_⟩) (by assumption) ?_
  rotate_left
  · (intro w hSw; (try dsimp only at hSw); go_simp)
    all_goals (with_reducible rfl)
  try simp only [Act.put, List.setIfInBounds_toArray, List.set_cons_zero, List.set_cons_succ]
  refine wpAnyH_ready (rs := [8]) (by kernel_rfl) (by simp) ?_
  refine AllReadyH.cons (o := ⟨some 27, _, _, _, _, _⟩) rfl (fun K hK => ?_) AllReadyH.nil
  rw [if_pos (by rfl)]
  go_simp
  go_at_call 38
  refine HL.out.mono ?_
  rintro e w4 ⟨rfl, VL, VN, hP4, hN4, hg4⟩
  have u8 := (hg4.cell_far ⟨w1.heap.size, 1, none⟩ (lt_of_cell t8) (fun e => by have h9 : w1.heap.size = w2.heap.size := Option.some.inj e; omega)).trans t8
  refine hK.out _ _ ?_ (fun hHeld => ?_)
  · exact u8
  clear hK
  try simp only [Act.put, List.setIfInBounds_toArray, List.set_cons_zero, List.set_cons_succ]
  refine wpAnyH_take (i := 9) (oi := ⟨some 28, _, _, _, _, _⟩) (v := ?_) rfl (by kernel_rfl) (by kernel_rfl) (by kernel_rfl) (fun _ _ _ h => h) (Or.inl ⟨by rfl, ?_⟩) (by assumption) ?_
  rotate_left
  · (intro w hSw; (try dsimp only at hSw); go_simp)
    all_goals (with_reducible rfl)
  try simp only [Act.put, List.setIfInBounds_toArray, List.set_cons_zero, List.set_cons_succ]
  refine wpAnyH_take (i := 10) (oi := ⟨some 29, _, _, _, _, _⟩) (v := ?_) rfl (by kernel_rfl) (by kernel_rfl) (by kernel_rfl) (fun _ _ _ h => h) (Or.inl ⟨by rfl, ?_⟩) (by assumption) ?_
  rotate_left
  · (intro w hSw; (try dsimp only at hSw); go_simp)
    all_goals (with_reducible rfl)
  try simp only [Act.put, List.setIfInBounds_toArray, List.set_cons_zero, List.set_cons_succ]
  refine wpAnyH_done (by kernel_rfl) ?_ _
  have hNp : VN.ownBlock ≠ some w2.heap.size := fun e => by have h1 := (hN4.lt _ e).1; have h2 : w3.heap.size ≤ w2.heap.size := h1; have := HP.out.lt; omega
  have cB := begin_any hP4 rfl hN4 hNp
  have H4 := Lib.hid hg4
  clear hP4 hN4 hg4 hNp t8 u8
  go_wp2_with (go_at_call 39; go_must (refine cB.mono ?_); rintro e w5 ⟨⟨v, rfl⟩, hP5, hg5⟩)
  go_returns
  obtain ⟨b1, b2, m, hP5⟩ := hP5
  refine ⟨w2.heap.size, rfl, ⟨_, _, _, _, _, hP5⟩, H2.out.1.size, ?_⟩
  have hb3 := H2.out.1.trans (H3.out.1.mono H2.out.1.size)
  have hb4 : Below w.heap.size w w4 := (hb3.trans ((Below.refl w.heap.size w3).drew)).grown H4.out hb3.size (fun k e => by cases e; exact H2.out.1.size)
  exact hb4.grown hg5 hb4.size (fun k e => by cases e; exact H2.out.1.size)
end Go.Proofs.YtagmldkcogidgaaGreatDoor
