/- wire.GetRequest of a Pulse. -/
import Derived.Test.YtagmldkcogidgaaGreatDoorSrvC
namespace Go.Proofs.YtagmldkcogidgaaGreatDoor
open Go.RowKit Pgp
set_option maxRecDepth 100000

theorem wp_stw {P : Program} {op : Oper} {a : Act} {w : World} {K : Act → World → Prop} {Q : Exit → Act → World → Prop} (ty : TypeId) (x y : Operand) (ho : op.op = .store ty x y)
    (g : Nat) (C old : List Value) (t : TypeId) (hx : a.eval x = .pointer (some ⟨g, 0, none⟩)) (hy : a.eval y = .agg C.toArray) (hg : w.heap[g]? = some (.cells old.toArray t (0, 0)))
    (hl : old.length = C.length) (hi : (P.info? ty).map (·.size) = some C.length) (h1 : C.toArray.all (·.oneCell') = true)
    (h : ∀ w', w'.heap[g]? = some (.cells C.toArray t (0, 0)) → (∀ B, B ≤ g → Below B w w') → w'.heap.size = w.heap.size → K (a.put op.dst undef) w') :
    op.wp P a w K Q := by
  refine wp_store_mid ty x y ho g 0 C.toArray hx hy ?_ (by simpa using hi) h1 (h _ ?_ ?_ ?_)
  · intro j hj
    refine ⟨?_, by simp [World.frozen?, hg]⟩
    rw [cell_of_row _ _ _ _ _ _ hg, List.getElem?_toArray, List.getElem?_eq_getElem (by simp at hj; omega)]
    rfl
  · have := heap_setCells_same g t (0, 0) C 0 w old hg (by omega)
    rw [show splice old 0 C = C by simp [splice, hl]] at this
    exact this
  · intro B hB
    exact below_setCells hB C.toArray.toList 0 _ (Below.refl B w)
  · exact size_setC _ _ _ _
set_option maxHeartbeats 3200000 in
theorem getreq_7 {w : World} (b : Nat) (h : w.cell? ⟨b, 0, none⟩ = some (.int .u8 7)) : Calls Tryz.prog 11 #[.slice (some ⟨b, 0, none⟩) 1 1] w fun e w' => e = .returned (.tuple #[.agg Req7.toArray, .int .i64 0]) ∧ Below w.heap.size w w' := by
  obtain ⟨w0, hw0⟩ : ∃ w0, w0 = w.alloc (.cells #[.int .i64 0, .slice none 0 0, .slice none 0 0, .slice none 0 0, .int .u64 0, .int .u64 0, .int .u64 0, .int .u64 0, .int .u32 0, .int .u32 0] 51) := ⟨_, rfl⟩
  have hb : Below w.heap.size w w0 := hw0 ▸ (Below.refl _ w).alloc (Nat.le_refl _) _
  have hn : w0.heap[w.heap.size]? = some (.cells ReqZ.toArray 51 (0, 0)) := hw0 ▸ heap_alloc_new _ _
  have hz : w0.heap.size = w.heap.size + 1 := by rw [hw0]; simp
  have k0 : w0.drew.cell? ⟨b, 0, none⟩ = some (.int .u8 7) := (hb.cell (lt_of_cell h)).trans h
  have cP := fun (V : World) A c => parse_7 (w := V) A c
  go_enter Tryz.func11, Tryz.ntmps11
  go_upto_region 1 with (fail)
  rw [← hw0]
  clear hw0
  generalize hG : w.heap.size = g at *
  go_upto_region 3 with (fail)
  refine wp_region_held_drew (S := fun w' => w'.cell? ⟨b, 0, none⟩ = some (.int .u8 7)) (by kernel_rfl) ?_ (fun hHeld => ?_)
  · exact k0
  refine wpAnyH_take (i := 0) (oi := ⟨some 12, _, _, _, _, _⟩) (v := ?_) rfl (by kernel_rfl) (by kernel_rfl) (by kernel_rfl) (fun _ _ _ h => h) (Or.inl ⟨by rfl, ?_⟩) (by assumption) ?_
  rotate_left
  · (intro w hSw; (try dsimp only at hSw); go_simp)
    all_goals (with_reducible rfl)
  try simp only [Act.put, List.setIfInBounds_toArray, List.set_cons_zero, List.set_cons_succ]
  refine wpAnyH_take (i := 1) (oi := ⟨some 13, _, _, _, _, _⟩) (v := ?_) rfl (by kernel_rfl) (by kernel_rfl) (by kernel_rfl) (fun _ _ _ h => h) (Or.inl ⟨by rfl, ?_⟩) (by assumption) ?_
  rotate_left
  · (intro w hSw; (try dsimp only at hSw); go_simp)
    all_goals (with_reducible rfl)
  try simp only [Act.put, List.setIfInBounds_toArray, List.set_cons_zero, List.set_cons_succ]
  refine wpAnyH_take (i := 2) (oi := ⟨some 14, _, _, _, _, _⟩) (v := .int .u8 7) rfl (by kernel_rfl) (by kernel_rfl) (by kernel_rfl) (fun _ _ _ h => h) (Or.inl ⟨by rfl, ?_⟩) (by assumption) ?_
  · (intro w hSw; (try dsimp only at hSw); go_simp)
  try simp only [Act.put, List.setIfInBounds_toArray, List.set_cons_zero, List.set_cons_succ]
  refine wpAnyH_take (i := 3) (oi := ⟨some 15, _, _, _, _, _⟩) (v := ?_) rfl (by kernel_rfl) (by kernel_rfl) (by kernel_rfl) (fun _ _ _ h => h) (Or.inl ⟨by rfl, ?_⟩) (by assumption) ?_
  rotate_left
  · (intro w hSw; (try dsimp only at hSw); go_simp)
    all_goals (with_reducible rfl)
  try simp only [Act.put, List.setIfInBounds_toArray, List.set_cons_zero, List.set_cons_succ]
  refine wpAnyH_take (i := 4) (oi := ⟨some 16, _, _, _, _, _⟩) (v := ?_) rfl (by kernel_rfl) (by kernel_rfl) (by kernel_rfl) (fun _ _ _ h => h) (Or.inl ⟨by rfl, ?_⟩) (by assumption) ?_
  rotate_left
  · (intro w hSw; (try dsimp only at hSw); go_simp)
    all_goals (with_reducible rfl)
  try simp only [Act.put, List.setIfInBounds_toArray, List.set_cons_zero, List.set_cons_succ]
  refine wpAnyH_ready (rs := [5, 10]) (by kernel_rfl) (by simp) ?_
  refine AllReadyH.cons (o := ⟨some 17, _, _, _, _, _⟩) rfl (fun K hK => ?_) (AllReadyH.cons (o := ⟨some 4, _, _, _, _, _⟩) rfl (fun K hK => ?_) AllReadyH.nil)
  · go_simp
    go_at_call 17
    refine (cP _ _ _).mono ?_
    rintro e w1 ⟨rfl, hb1⟩
    have k1 := (hb1.cell (lt_of_cell k0)).trans k0
    refine hK.out _ _ ?_ (fun hHeld => ?_)
    · exact k1
    clear hK K
    try simp only [Act.put, List.setIfInBounds_toArray, List.set_cons_zero, List.set_cons_succ]
    refine wpAnyH_take (i := 6) (oi := ⟨some 11, _, _, _, _, _⟩) (v := ?_) rfl (by kernel_rfl) (by kernel_rfl) (by kernel_rfl) (fun _ _ _ h => h) (Or.inl ⟨by rfl, ?_⟩) (by assumption) ?_
    rotate_left
    · (intro w hSw; (try dsimp only at hSw); go_simp)
      all_goals (with_reducible rfl)
    try simp only [Act.put, List.setIfInBounds_toArray, List.set_cons_zero, List.set_cons_succ]
    refine wpAnyH_take (i := 7) (oi := ⟨some 18, _, _, _, _, _⟩) (v := ?_) rfl (by kernel_rfl) (by kernel_rfl) (by kernel_rfl) (fun _ _ _ h => h) (Or.inl ⟨by rfl, ?_⟩) (by assumption) ?_
    rotate_left
    · (intro w hSw; (try dsimp only at hSw); go_simp)
      all_goals (with_reducible rfl)
    try simp only [Act.put, List.setIfInBounds_toArray, List.set_cons_zero, List.set_cons_succ]
    refine wpAnyH_take (i := 8) (oi := ⟨some 19, _, _, _, _, _⟩) (v := ?_) rfl (by kernel_rfl) (by kernel_rfl) (by kernel_rfl) (fun _ _ _ h => h) (Or.inl ⟨by rfl, ?_⟩) (by assumption) ?_
    rotate_left
    · (intro w hSw; (try dsimp only at hSw); go_simp)
      all_goals (with_reducible rfl)
    try simp only [Act.put, List.setIfInBounds_toArray, List.set_cons_zero, List.set_cons_succ]
    refine wpAnyH_take (i := 9) (oi := ⟨some 20, _, _, _, _, _⟩) (v := ?_) rfl (by kernel_rfl) (by kernel_rfl) (by kernel_rfl) (fun _ _ _ h => h) (Or.inl ⟨by rfl, ?_⟩) (by assumption) ?_
    rotate_left
    · (intro w hSw; (try dsimp only at hSw); go_simp)
      all_goals (with_reducible rfl)
    try simp only [Act.put, List.setIfInBounds_toArray, List.set_cons_zero, List.set_cons_succ]
    refine wpAnyH_ready (rs := [10]) (by kernel_rfl) (by simp) ?_
    refine AllReadyH.cons (o := ⟨some 4, _, _, _, _, _⟩) rfl (fun K hK => ?_) AllReadyH.nil
    have hb2 : Below w1.heap.size w1 (w1.alloc (.cells #[.int .i64 0, .slice none 0 0, .slice none 0 0, .slice none 0 0, .int .u64 0, .int .u64 0, .int .u64 0, .int .u64 0, .int .u32 0, .int .u32 0] 51)) := (Below.refl _ _).alloc (Nat.le_refl _) _
    have hr2 : (w1.alloc (.cells #[.int .i64 0, .slice none 0 0, .slice none 0 0, .slice none 0 0, .int .u64 0, .int .u64 0, .int .u64 0, .int .u64 0, .int .u32 0, .int .u32 0] 51)).heap[w1.heap.size]? = some (.cells ReqZ.toArray 51 (0, 0)) := heap_alloc_new _ _
    go_simp
    have k2 := (hb2.cell (lt_of_cell k1)).trans k1
    refine hK.out _ _ ?_ (fun hHeld => ?_)
    · exact k2
    clear hK K
    try simp only [Act.put, List.setIfInBounds_toArray, List.set_cons_zero, List.set_cons_succ]
    have hlt4 : w1.heap.size < (w1.alloc (.cells #[.int .i64 0, .slice none 0 0, .slice none 0 0, .slice none 0 0, .int .u64 0, .int .u64 0, .int .u64 0, .int .u64 0, .int .u32 0, .int .u32 0] 51)).heap.size := by simp
    generalize hW : w1.alloc (.cells #[.int .i64 0, .slice none 0 0, .slice none 0 0, .slice none 0 0, .int .u64 0, .int .u64 0, .int .u64 0, .int .u64 0, .int .u32 0, .int .u32 0] 51) = w2 at *
    have hB : Below g w w2 := (hb.trans ((Below.refl g w0).drew)).trans ((hb1.mono (by simp; omega)).trans (hb2.mono (by have := hb1.size; simp at this; omega)))
    have hgl : g < w1.heap.size := by have := hb1.size; simp at this; omega
    have hnn : w2.heap[g]? = some (.cells ReqZ.toArray 51 (0, 0)) := ((hb1.trans (hb2.mono hb1.size)).block g (by simp; omega)).trans hn
    generalize hBk : w1.heap.size = B at *
    have hlb : b < B := by have := lt_of_cell h; omega
    refine wpAnyH_ready (rs := [11]) (by kernel_rfl) (by simp) ?_
    refine AllReadyH.cons (o := ⟨none, _, _, _, _, _⟩) rfl (fun K hK => ?_) AllReadyH.nil
    rw [if_pos (by rfl)]
    refine wp_stw 51 (.tmp 4) (.tmp 18) rfl B Req7 ReqZ 51 (by rfl) (by rfl) hr2 rfl rfl Req7_one ?_
    intro w4 hc4 hb4 hs4
    refine hK.out _ _ ?_ (fun hHeld => ?_)
    · exact ((hb4 B (Nat.le_refl _)).cell (p := ⟨b, 0, none⟩) hlb).trans k2
    clear hK K
    try simp only [Act.put, List.setIfInBounds_toArray, List.set_cons_zero, List.set_cons_succ]
    refine wpAnyH_take (i := 12) (oi := ⟨some 5, _, _, _, _, _⟩) (v := ?_) rfl (by kernel_rfl) (by kernel_rfl) (by kernel_rfl) (fun _ _ _ h => h) (Or.inl ⟨by rfl, ?_⟩) (by assumption) ?_
    rotate_left
    · (intro w hSw; (try dsimp only at hSw); go_simp)
      all_goals (with_reducible rfl)
    try simp only [Act.put, List.setIfInBounds_toArray, List.set_cons_zero, List.set_cons_succ]
    refine wpAnyH_take (i := 13) (oi := ⟨some 6, _, _, _, _, _⟩) (v := ?_) rfl (by kernel_rfl) (by kernel_rfl) (by kernel_rfl) (fun _ _ _ h => h) (Or.inl ⟨by rfl, ?_⟩) (by assumption) ?_
    rotate_left
    · (intro w hSw; (try dsimp only at hSw); go_simp)
      all_goals (with_reducible rfl)
    try simp only [Act.put, List.setIfInBounds_toArray, List.set_cons_zero, List.set_cons_succ]
    refine wpAnyH_done (by kernel_rfl) ?_ _
    have hn4 := ((hb4 B (Nat.le_refl _)).block g hgl).trans hnn
    have hB4 := hB.trans (hb4 g (Nat.le_of_lt hgl))
    have HH := Lib.hid (And.intro hB4 hG)
    clear hB4 hB hb4 hs4 hnn hr2 hlt4 hgl hlb hBk hW hG k2 cP k0
    go_wp2_with (first
      | (refine wpList_load_row (o := ⟨some 29, _, _, _, _, _⟩) rfl 51 (.tmp 4) rfl B rfl 51 #[.int .i64 7, .slice none 0 0, .slice none 0 0, .slice none 0 0, .int .u64 0, .int .u64 0, .int .u64 0, .int .u64 0, .int .u32 0, .int .u32 0] (0, 0) _ hc4 (by rfl) (by rfl) (by rfl) ?_)
      | (refine wpList_stw (op := ⟨none, _, _, _, _, _⟩) rfl 51 (.tmp 2) (.tmp 29) rfl g Req7 ReqZ 51 rfl rfl hn4 rfl rfl Req7_one ?_; intro w5 hc5 hb5 _))
    refine bodyPost_ret (v := .tuple #[.agg Req7.toArray, .int .i64 0]) ?_ rfl ⟨rfl, ?_⟩
    · have hl := run_loadVar_row (P := Tryz.prog) w5 g 51 51 _ (0, 0) _ hc5 (by rfl) (by rfl) (by rfl)
      rw [results_cell_tmp rfl]
      simp [asAddr, Result.andThen, hl]
    · obtain ⟨hb, hG⟩ := HH.out
      rw [hG]
      exact hb.trans (hb5 g (Nat.le_refl _))
  · have hb2 : Below w0.heap.size w0 (w0.alloc (.cells #[.int .i64 0, .slice none 0 0, .slice none 0 0, .slice none 0 0, .int .u64 0, .int .u64 0, .int .u64 0, .int .u64 0, .int .u32 0, .int .u32 0] 51)).drew := ((Below.refl _ _).alloc (Nat.le_refl _) _).drew
    have hr2 : (w0.alloc (.cells #[.int .i64 0, .slice none 0 0, .slice none 0 0, .slice none 0 0, .int .u64 0, .int .u64 0, .int .u64 0, .int .u64 0, .int .u32 0, .int .u32 0] 51)).drew.heap[w0.heap.size]? = some (.cells ReqZ.toArray 51 (0, 0)) := heap_alloc_new w0 _
    have hz2 : (w0.alloc (.cells #[.int .i64 0, .slice none 0 0, .slice none 0 0, .slice none 0 0, .int .u64 0, .int .u64 0, .int .u64 0, .int .u64 0, .int .u32 0, .int .u32 0] 51)).drew.heap.size = w0.heap.size + 1 := by simp
    go_simp
    have k0w : w0.cell? ⟨b, 0, none⟩ = some (.int .u8 7) := k0
    have k2 := (hb2.cell (lt_of_cell k0w)).trans k0w
    refine hK.out _ _ ?_ (fun hHeld => ?_)
    · exact k2
    clear hK K
    try simp only [Act.put, List.setIfInBounds_toArray, List.set_cons_zero, List.set_cons_succ]
    refine wpAnyH_ready (rs := [5]) (by kernel_rfl) (by simp) ?_
    refine AllReadyH.cons (o := ⟨some 17, _, _, _, _, _⟩) rfl (fun K hK => ?_) AllReadyH.nil
    go_simp
    go_at_call 17
    refine (cP _ _ _).mono ?_
    rintro e w1 ⟨rfl, hb3⟩
    have k3 := (hb3.cell (lt_of_cell k2)).trans k2
    refine hK.out _ _ ?_ (fun hHeld => ?_)
    · exact k3
    clear hK K
    try simp only [Act.put, List.setIfInBounds_toArray, List.set_cons_zero, List.set_cons_succ]
    refine wpAnyH_take (i := 6) (oi := ⟨some 11, _, _, _, _, _⟩) (v := ?_) rfl (by kernel_rfl) (by kernel_rfl) (by kernel_rfl) (fun _ _ _ h => h) (Or.inl ⟨by rfl, ?_⟩) (by assumption) ?_
    rotate_left
    · (intro w hSw; (try dsimp only at hSw); go_simp)
      all_goals (with_reducible rfl)
    try simp only [Act.put, List.setIfInBounds_toArray, List.set_cons_zero, List.set_cons_succ]
    refine wpAnyH_take (i := 7) (oi := ⟨some 18, _, _, _, _, _⟩) (v := ?_) rfl (by kernel_rfl) (by kernel_rfl) (by kernel_rfl) (fun _ _ _ h => h) (Or.inl ⟨by rfl, ?_⟩) (by assumption) ?_
    rotate_left
    · (intro w hSw; (try dsimp only at hSw); go_simp)
      all_goals (with_reducible rfl)
    try simp only [Act.put, List.setIfInBounds_toArray, List.set_cons_zero, List.set_cons_succ]
    refine wpAnyH_take (i := 8) (oi := ⟨some 19, _, _, _, _, _⟩) (v := ?_) rfl (by kernel_rfl) (by kernel_rfl) (by kernel_rfl) (fun _ _ _ h => h) (Or.inl ⟨by rfl, ?_⟩) (by assumption) ?_
    rotate_left
    · (intro w hSw; (try dsimp only at hSw); go_simp)
      all_goals (with_reducible rfl)
    try simp only [Act.put, List.setIfInBounds_toArray, List.set_cons_zero, List.set_cons_succ]
    refine wpAnyH_take (i := 9) (oi := ⟨some 20, _, _, _, _, _⟩) (v := ?_) rfl (by kernel_rfl) (by kernel_rfl) (by kernel_rfl) (fun _ _ _ h => h) (Or.inl ⟨by rfl, ?_⟩) (by assumption) ?_
    rotate_left
    · (intro w hSw; (try dsimp only at hSw); go_simp)
      all_goals (with_reducible rfl)
    try simp only [Act.put, List.setIfInBounds_toArray, List.set_cons_zero, List.set_cons_succ]
    have hr2 := (hb3.block w0.heap.size (by omega)).trans hr2
    have hlt4 : w0.heap.size < w1.heap.size := by have := hb3.size; omega
    have hB : Below g w w1 := hb.trans ((hb2.mono (by omega)).trans (hb3.mono (by omega)))
    have hgl : g < w0.heap.size := by omega
    have hnn : w1.heap[g]? = some (.cells ReqZ.toArray 51 (0, 0)) := ((hb2.trans (hb3.mono (by omega))).block g (by omega)).trans hn
    have k2 := k3
    rw [hz] at hr2 hlt4 hgl
    generalize hBk : g + 1 = B at *
    generalize hW : w1 = w2 at *
    have hlb : b < B := by have := lt_of_cell h; omega
    refine wpAnyH_ready (rs := [11]) (by kernel_rfl) (by simp) ?_
    refine AllReadyH.cons (o := ⟨none, _, _, _, _, _⟩) rfl (fun K hK => ?_) AllReadyH.nil
    rw [if_pos (by rfl)]
    refine wp_stw 51 (.tmp 4) (.tmp 18) rfl B Req7 ReqZ 51 (by rfl) (by rfl) hr2 rfl rfl Req7_one ?_
    intro w4 hc4 hb4 hs4
    refine hK.out _ _ ?_ (fun hHeld => ?_)
    · exact ((hb4 B (Nat.le_refl _)).cell (p := ⟨b, 0, none⟩) hlb).trans k2
    clear hK K
    try simp only [Act.put, List.setIfInBounds_toArray, List.set_cons_zero, List.set_cons_succ]
    refine wpAnyH_take (i := 12) (oi := ⟨some 5, _, _, _, _, _⟩) (v := ?_) rfl (by kernel_rfl) (by kernel_rfl) (by kernel_rfl) (fun _ _ _ h => h) (Or.inl ⟨by rfl, ?_⟩) (by assumption) ?_
    rotate_left
    · (intro w hSw; (try dsimp only at hSw); go_simp)
      all_goals (with_reducible rfl)
    try simp only [Act.put, List.setIfInBounds_toArray, List.set_cons_zero, List.set_cons_succ]
    refine wpAnyH_take (i := 13) (oi := ⟨some 6, _, _, _, _, _⟩) (v := ?_) rfl (by kernel_rfl) (by kernel_rfl) (by kernel_rfl) (fun _ _ _ h => h) (Or.inl ⟨by rfl, ?_⟩) (by assumption) ?_
    rotate_left
    · (intro w hSw; (try dsimp only at hSw); go_simp)
      all_goals (with_reducible rfl)
    try simp only [Act.put, List.setIfInBounds_toArray, List.set_cons_zero, List.set_cons_succ]
    refine wpAnyH_done (by kernel_rfl) ?_ _
    have hn4 := ((hb4 B (Nat.le_refl _)).block g hgl).trans hnn
    have hB4 := hB.trans (hb4 g (Nat.le_of_lt hgl))
    have HH := Lib.hid (And.intro hB4 hG)
    clear hB4 hB hb4 hs4 hnn hr2 hlt4 hgl hlb hBk hW hG k2 cP k0
    go_wp2_with (first
      | (refine wpList_load_row (o := ⟨some 29, _, _, _, _, _⟩) rfl 51 (.tmp 4) rfl B rfl 51 #[.int .i64 7, .slice none 0 0, .slice none 0 0, .slice none 0 0, .int .u64 0, .int .u64 0, .int .u64 0, .int .u64 0, .int .u32 0, .int .u32 0] (0, 0) _ hc4 (by rfl) (by rfl) (by rfl) ?_)
      | (refine wpList_stw (op := ⟨none, _, _, _, _, _⟩) rfl 51 (.tmp 2) (.tmp 29) rfl g Req7 ReqZ 51 rfl rfl hn4 rfl rfl Req7_one ?_; intro w5 hc5 hb5 _))
    refine bodyPost_ret (v := .tuple #[.agg Req7.toArray, .int .i64 0]) ?_ rfl ⟨rfl, ?_⟩
    · have hl := run_loadVar_row (P := Tryz.prog) w5 g 51 51 _ (0, 0) _ hc5 (by rfl) (by rfl) (by rfl)
      rw [results_cell_tmp rfl]
      simp [asAddr, Result.andThen, hl]
    · obtain ⟨hb, hG⟩ := HH.out
      rw [hG]
      exact hb.trans (hb5 g (Nat.le_refl _))
end Go.Proofs.YtagmldkcogidgaaGreatDoor
