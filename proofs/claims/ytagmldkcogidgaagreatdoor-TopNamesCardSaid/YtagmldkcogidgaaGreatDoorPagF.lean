/- (*pager.Pager).load on the formatted disk. -/
import Derived.Test.YtagmldkcogidgaaGreatDoorPagE
namespace Go.Proofs.YtagmldkcogidgaaGreatDoor
open Go.RowKit Pgp
set_option maxRecDepth 100000

set_option maxHeartbeats 6400000 in
theorem load_any {base : Nat} {w : World} {D S p k : Nat} {WK : List Value} (h : Dk base w D S disk0 (.slice none 0 0) [] k) (hT : Tab w) (hp : Pg w p D (.slice none 0 0) (.slice none 0 0) 0 WK) (hpD : p ≠ D) (hpS : p ≠ S) :
    Calls Tryz.prog 38 #[.pointer (some ⟨p, 0, none⟩)] w fun e w' => e = .returned (.bool true) ∧ ∃ VL VN, Pg w' p D VL VN 0 WK ∧ L.Own w' w.heap.size 47 VN (lnums.map L.u32v) ∧ w.grownBy w' (some p) := by
  have hmm : ∀ W : World, (Instr.makeMap 172 none).run Tryz.prog W = .ok (.map (some W.heap.size)) (W.alloc (.map #[] 0)) := fun W => run_makeMap (P := Tryz.prog) 172 W
  have hb1 : Below w.heap.size w (w.alloc (.map #[] 0)) := (Below.refl _ w).alloc (Nat.le_refl _) _
  have hM : MapIs (w.alloc (.map #[] 0)) w.heap.size [] := World.alloc_heap_new w _
  have hp1 := hp.block (hb1.block p hp.lt)
  have a0 := hp1.at 0 _ rfl
  have a2 := hp1.at 2 _ rfl
  have a3 := hp1.at 3 _ rfl
  have hlk : (Instr.lookup 172 (.map (some w.heap.size)) (.int .u32 2) false).run Tryz.prog (w.alloc (.map #[] 0)) = .ok (.int .i64 0) (w.alloc (.map #[] 0)) := map_look hM 2
  obtain ⟨w2, hmu, hM2, hg2⟩ := map_put hM 2 (by decide)
  have hmu : (Instr.mapUpdate 172 (.map (some w.heap.size)) (.int .u32 2) (.int .i64 1)).run Tryz.prog (w.alloc (.map #[] 0)) = .ok () w2 := hmu
  have hpM : p ≠ w.heap.size := by have := hp.lt; omega
  have hp2 := hp1.block (hg2.block p hp1.lt (fun e => hpM (Option.some.inj e)))
  have b0 := hp2.at 0 _ rfl
  have hb2 : Below w.heap.size w w2 := hb1.grown hg2 hb1.size (fun k e => by cases e; exact Nat.le_refl _)
  have cR := dread (h.below hb2) 2 (by decide)
  rw [blk2] at cR
  have HH := Lib.hid (And.intro h (And.intro hT (And.intro hb2 (And.intro hM2 (And.intro hp2 hp)))))
  clear h hT hb1 hM hp hp1 hg2 hM2 hp2 hb2
  generalize hw1 : w.alloc (.map #[] 0) = w1 at *
  have hmm1 := hmm w
  rw [hw1] at hmm1
  clear hmm hw1
  go_enter Tryz.func38, Tryz.ntmps38
  go_upto_region 3 with fail
  refine wp_loop_rounds 2 ?_
  rw [rounds_succ]
  go_upto_region 10 with (go_at_call 78; go_must (refine cR.mono ?_); rintro e w3 ⟨A3, c3, rfl, hr3, hc3, hb3⟩)
  have hT3 : Tab w3 := HH.out.2.1.below HH.out.2.1.pos (HH.out.2.2.1.trans (hb3.mono HH.out.2.2.1.size))
  have cO := open2 A3 c3 w3 hr3 hc3 hT3
  have H3 := Lib.hid hb3
  clear cR hr3 hc3 hb3 hT3 hmu hlk hmm1 a0 a2 a3 b0
  go_upto_region 13 with (go_at_call 80; go_must (refine cO.mono ?_); rintro e w4 ⟨A4, c4, rfl, hr4, hc4, hb4⟩)
  have cP := parse2 A4 c4 w4 hr4 hc4
  have H4 := Lib.hid (hb4 : Below w3.heap.size w3 w4)
  clear cO hr4 hc4 hb4
  go_upto_region 16 with (go_at_call 81; go_must (refine cP.mono ?_); rintro e w5 ⟨A5, c5, rfl, hr5, hc5, hb5⟩)
  clear cP
  have hg5 : Below w2.heap.size w2 w5 := H3.out.trans ((H4.out.trans (hb5.mono H4.out.size)).mono H3.out.size)
  have hlp : p < w2.heap.size := HH.out.2.2.2.2.1.lt
  have hp5 := HH.out.2.2.2.2.1.block (hg5.block p hlp)
  have H5 := Lib.hid (And.intro hg5 (And.intro hp5 hlp))
  have l29 := hp5.at 29 _ rfl
  have l30 := hp5.at 30 _ rfl
  have f29 := hp5.free 29
  have f30 := hp5.free 30
  obtain ⟨a5, o5, rfl, hl5, hc5'⟩ := hr5 (by decide)
  have H6 := Lib.hid (And.intro hl5 hc5')
  clear hg5 hp5 hlp hb5 hc5' hl5 hr5
  obtain ⟨i0, hi0, hz0, hz1, hz2⟩ := info_parts (show (Tryz.prog.info? 47).map (fun i => (i.zero, i.size, i.bytes)) = some (some (.int .u32 0), 1, 4) by kernel_rfl)
  refine anyC_start (C := Two 17 20 (fun w' => w'.cell? ⟨p, 29, none⟩ = some (.slice none 0 0)) (fun w' => w'.cell? ⟨p, 30, none⟩ = some (.slice none 0 0))) (by kernel_rfl) ?_ (fun hHeld => ?_)
  · exact ⟨fun _ => l29, fun _ => l30⟩
  refine anyC_take (i := 0) (o := ⟨some 74, _, _, _, _, _⟩) (v := ?_) rfl (by kernel_rfl) (by kernel_rfl) (by kernel_rfl) (by kernel_rfl) (fun _ _ _ h => h) (Two.inv (i := 17) (j := 20) (k := 0) (by decide) (by decide)) (Or.inl ⟨by rfl, ?_⟩) (by assumption) (fun hHeld => ?_)
  rotate_left
  · (intro w hSw; clear hSw; go_simp)
    all_goals (with_reducible rfl)
  try simp only [Act.put, List.setIfInBounds_toArray, List.set_cons_zero, List.set_cons_succ]
  refine anyC_take (i := 1) (o := ⟨some 75, _, _, _, _, _⟩) (v := ?_) rfl (by kernel_rfl) (by kernel_rfl) (by kernel_rfl) (by kernel_rfl) (fun _ _ _ h => h) (Two.inv (i := 17) (j := 20) (k := 1) (by decide) (by decide)) (Or.inl ⟨by rfl, ?_⟩) (by assumption) (fun hHeld => ?_)
  rotate_left
  · (intro w hSw; clear hSw; go_simp)
    all_goals (with_reducible rfl)
  try simp only [Act.put, List.setIfInBounds_toArray, List.set_cons_zero, List.set_cons_succ]
  refine anyC_take (i := 2) (o := ⟨some 76, _, _, _, _, _⟩) (v := ?_) rfl (by kernel_rfl) (by kernel_rfl) (by kernel_rfl) (by kernel_rfl) (fun _ _ _ h => h) (Two.inv (i := 17) (j := 20) (k := 2) (by decide) (by decide)) (Or.inl ⟨by rfl, ?_⟩) (by assumption) (fun hHeld => ?_)
  rotate_left
  · (intro w hSw; clear hSw; go_simp)
    all_goals (with_reducible rfl)
  try simp only [Act.put, List.setIfInBounds_toArray, List.set_cons_zero, List.set_cons_succ]
  refine anyC_take (i := 3) (o := ⟨some 77, _, _, _, _, _⟩) (v := ?_) rfl (by kernel_rfl) (by kernel_rfl) (by kernel_rfl) (by kernel_rfl) (fun _ _ _ h => h) (Two.inv (i := 17) (j := 20) (k := 3) (by decide) (by decide)) (Or.inl ⟨by rfl, ?_⟩) (by assumption) (fun hHeld => ?_)
  rotate_left
  · (intro w hSw; clear hSw; go_simp)
    all_goals (with_reducible rfl)
  try simp only [Act.put, List.setIfInBounds_toArray, List.set_cons_zero, List.set_cons_succ]
  refine anyC_take (i := 4) (o := ⟨some 78, _, _, _, _, _⟩) (v := ?_) rfl (by kernel_rfl) (by kernel_rfl) (by kernel_rfl) (by kernel_rfl) (fun _ _ _ h => h) (Two.inv (i := 17) (j := 20) (k := 4) (by decide) (by decide)) (Or.inl ⟨by rfl, ?_⟩) (by assumption) (fun hHeld => ?_)
  rotate_left
  · (intro w hSw; clear hSw; go_simp)
    all_goals (with_reducible rfl)
  try simp only [Act.put, List.setIfInBounds_toArray, List.set_cons_zero, List.set_cons_succ]
  refine anyC_take (i := 5) (o := ⟨some 79, _, _, _, _, _⟩) (v := .slice none 0 0) rfl (by kernel_rfl) (by kernel_rfl) (by kernel_rfl) (by kernel_rfl) (fun _ _ _ h => h) (Two.inv (i := 17) (j := 20) (k := 5) (by decide) (by decide)) (Or.inl ⟨by rfl, ?_⟩) (by assumption) (fun hHeld => ?_)
  · intro w hSw
    have hcell := Two.left hSw (by kernel_rfl)
    go_simp
  try simp only [Act.put, List.setIfInBounds_toArray, List.set_cons_zero, List.set_cons_succ]
  refine anyC_take (i := 6) (o := ⟨some 80, _, _, _, _, _⟩) (v := ?_) rfl (by kernel_rfl) (by kernel_rfl) (by kernel_rfl) (by kernel_rfl) (fun _ _ _ h => h) (Two.inv (i := 17) (j := 20) (k := 6) (by decide) (by decide)) (Or.inl ⟨by rfl, ?_⟩) (by assumption) (fun hHeld => ?_)
  rotate_left
  · (intro w hSw; clear hSw; go_simp)
    all_goals (with_reducible rfl)
  try simp only [Act.put, List.setIfInBounds_toArray, List.set_cons_zero, List.set_cons_succ]
  refine anyC_take (i := 9) (o := ⟨some 83, _, _, _, _, _⟩) (v := ?_) rfl (by kernel_rfl) (by kernel_rfl) (by kernel_rfl) (by kernel_rfl) (fun _ _ _ h => h) (Two.inv (i := 17) (j := 20) (k := 9) (by decide) (by decide)) (Or.inl ⟨by rfl, ?_⟩) (by assumption) (fun hHeld => ?_)
  rotate_left
  · (intro w hSw; clear hSw; go_simp)
    all_goals (with_reducible rfl)
  try simp only [Act.put, List.setIfInBounds_toArray, List.set_cons_zero, List.set_cons_succ]
  refine anyC_take (i := 10) (o := ⟨some 84, _, _, _, _, _⟩) (v := ?_) rfl (by kernel_rfl) (by kernel_rfl) (by kernel_rfl) (by kernel_rfl) (fun _ _ _ h => h) (Two.inv (i := 17) (j := 20) (k := 10) (by decide) (by decide)) (Or.inl ⟨by rfl, ?_⟩) (by assumption) (fun hHeld => ?_)
  rotate_left
  · (intro w hSw; clear hSw; go_simp)
    all_goals (with_reducible rfl)
  try simp only [Act.put, List.setIfInBounds_toArray, List.set_cons_zero, List.set_cons_succ]
  refine anyC_take (i := 11) (o := ⟨some 85, _, _, _, _, _⟩) (v := ?_) rfl (by kernel_rfl) (by kernel_rfl) (by kernel_rfl) (by kernel_rfl) (fun _ _ _ h => h) (Two.inv (i := 17) (j := 20) (k := 11) (by decide) (by decide)) (Or.inl ⟨by rfl, ?_⟩) (by assumption) (fun hHeld => ?_)
  rotate_left
  · (intro w hSw; clear hSw; go_simp)
    all_goals (with_reducible rfl)
  try simp only [Act.put, List.setIfInBounds_toArray, List.set_cons_zero, List.set_cons_succ]
  refine anyC_take (i := 12) (o := ⟨some 86, _, _, _, _, _⟩) (v := .slice none 0 0) rfl (by kernel_rfl) (by kernel_rfl) (by kernel_rfl) (by kernel_rfl) (fun _ _ _ h => h) (Two.inv (i := 17) (j := 20) (k := 12) (by decide) (by decide)) (Or.inl ⟨by rfl, ?_⟩) (by assumption) (fun hHeld => ?_)
  · intro w hSw
    have hcell := Two.right hSw (by kernel_rfl)
    go_simp
  try simp only [Act.put, List.setIfInBounds_toArray, List.set_cons_zero, List.set_cons_succ]
  refine anyC_take (i := 13) (o := ⟨some 87, _, _, _, _, _⟩) (v := ?_) rfl (by kernel_rfl) (by kernel_rfl) (by kernel_rfl) (by kernel_rfl) (fun _ _ _ h => h) (Two.inv (i := 17) (j := 20) (k := 13) (by decide) (by decide)) (Or.inl ⟨by rfl, ?_⟩) (by assumption) (fun hHeld => ?_)
  rotate_left
  · (intro w hSw; clear hSw; go_simp)
    all_goals (with_reducible rfl)
  try simp only [Act.put, List.setIfInBounds_toArray, List.set_cons_zero, List.set_cons_succ]
  have hba : Below w5.heap.size w5 (w5.drew.alloc (.cells #[.int .u32 2] 47)) := (Below.drew (Below.refl w5.heap.size w5)).alloc (Nat.le_refl _) _
  have hlp5 : p < w5.heap.size := H5.out.2.1.lt
  have e29 := (hba.cell (p := ⟨p, 29, none⟩) hlp5).trans l29
  have e30 := (hba.cell (p := ⟨p, 30, none⟩) hlp5).trans l30
  refine anyC_each (rs := [7]) (by kernel_rfl) (by simp) ?_
  refine EachC.cons (o := ⟨some 81, _, _, _, _, _⟩) rfl (fun K hK => ?_) EachC.nil
  go_simp
  refine hK.out _ _ ?_ (fun hHeld => ?_)
  · exact ⟨fun _ => e29, fun _ => e30⟩
  clear hK K
  try simp only [Act.put, List.setIfInBounds_toArray, List.set_cons_zero, List.set_cons_succ]
  refine anyC_each (rs := [8]) (by kernel_rfl) (by simp) ?_
  refine EachC.cons (o := ⟨some 82, _, _, _, _, _⟩) rfl (fun K hK => ?_) EachC.nil
  refine step_append_lies _ (by rfl) _ _ _ (by rfl) w5.heap.size 47 i0 (.int .u32 0) 1 4 Tryz.underlying95 hi0 hz0 hz1 hz2 rfl (by decide) (.slice none 0 0) 0 [] (by rfl) (World.ownsRow_nil _ _ _ _)
        ⟨w5.heap.size, 0, none⟩ 1 1 [.int .u32 2] (by rfl) rfl (World.news_of_block (cs := #[.int .u32 2]) (t := 47) (fr := (0, 0)) (heap_alloc_new w5 _)) (by intro u hu; rw [List.mem_singleton.1 hu]; rfl)
        (by decide) (by decide) (by decide) (by simp) (w5.heap.size + 1) (by simp) ?_
  intro g1 cap1 w6 hown1 hgrow1 hat1 hlt1
  have hb6 : Below w5.heap.size w5 w6 := hba.grown hgrow1 hba.size (fun k e => by cases e)
  have n29 := (hb6.cell (p := ⟨p, 29, none⟩) hlp5).trans l29
  have n30 := (hb6.cell (p := ⟨p, 30, none⟩) hlp5).trans l30
  refine hK.out _ _ ?_ (fun hHeld => ?_)
  · exact ⟨fun _ => n29, fun _ => n30⟩
  clear hK K
  try simp only [Act.put, List.setIfInBounds_toArray, List.set_cons_zero, List.set_cons_succ]
  refine anyC_each (rs := [14]) (by kernel_rfl) (by simp) ?_
  refine EachC.cons (o := ⟨some 88, _, _, _, _, _⟩) rfl (fun K hK => ?_) EachC.nil
  refine step_append_lies _ (by rfl) _ _ _ (by rfl) w5.heap.size 47 i0 (.int .u32 0) 1 4 Tryz.underlying95 hi0 hz0 hz1 hz2 rfl (by decide) (.slice none 0 0) 0 [] (by rfl) (World.ownsRow_nil _ _ _ _)
        ⟨a5, o5, none⟩ 5 c5 (lnums.map L.u32v) (by rfl) rfl (fun j u hu => by rw [addAt]; exact (hb6.cell (p := ⟨a5, o5 + j, none⟩) H6.out.1).trans (H6.out.2 j u hu)) (L.one_u32 _)
        (by decide) (by decide) (by decide) hb6.size w6.heap.size rfl ?_
  intro g2 cap2 w7 hown2 hgrow2 hat2 hlt2
  have hb7 : Below w5.heap.size w5 w7 := hb6.grown hgrow2 hb6.size (fun k e => by cases e)
  have m29 := (hb7.cell (p := ⟨p, 29, none⟩) hlp5).trans l29
  have m30 := (hb7.cell (p := ⟨p, 30, none⟩) hlp5).trans l30
  have mf29 := (hb7.frozen (p := ⟨p, 29, none⟩) hlp5).trans f29
  have mf30 := (hb7.frozen (p := ⟨p, 30, none⟩) hlp5).trans f30
  refine hK.out _ _ ?_ (fun hHeld => ?_)
  · exact ⟨fun _ => m29, fun _ => m30⟩
  clear hK K
  try simp only [Act.put, List.setIfInBounds_toArray, List.set_cons_zero, List.set_cons_succ]
  refine anyC_take (i := 15) (o := ⟨some 89, _, _, _, _, _⟩) (v := ?_) rfl (by kernel_rfl) (by kernel_rfl) (by kernel_rfl) (by kernel_rfl) (fun _ _ _ h => h) (Two.inv (i := 17) (j := 20) (k := 15) (by decide) (by decide)) (Or.inl ⟨by rfl, ?_⟩) (by assumption) (fun hHeld => ?_)
  rotate_left
  · (intro w hSw; clear hSw; go_simp)
    all_goals (with_reducible rfl)
  try simp only [Act.put, List.setIfInBounds_toArray, List.set_cons_zero, List.set_cons_succ]
  refine anyC_take (i := 16) (o := ⟨some 90, _, _, _, _, _⟩) (v := ?_) rfl (by kernel_rfl) (by kernel_rfl) (by kernel_rfl) (by kernel_rfl) (fun _ _ _ h => h) (Two.inv (i := 17) (j := 20) (k := 16) (by decide) (by decide)) (Or.inl ⟨by rfl, ?_⟩) (by assumption) (fun hHeld => ?_)
  rotate_left
  · (intro w hSw; clear hSw; go_simp)
    all_goals (with_reducible rfl)
  try simp only [Act.put, List.setIfInBounds_toArray, List.set_cons_zero, List.set_cons_succ]
  have q30 := (World.cell?_setCell_other w7 ⟨p, 29, none⟩ ⟨p, 30, none⟩ (.slice (some ⟨g1, 0, none⟩) (0 + 1) cap1) (fun e => by cases e)).trans m30
  have qf30 : (w7.setCell ⟨p, 29, none⟩ (.slice (some ⟨g1, 0, none⟩) (0 + 1) cap1)).frozen? ⟨p, 30, none⟩ = false := by rw [World.frozen?_setCell]; exact mf30
  refine anyC_each (rs := [17]) (by kernel_rfl) (by simp) ?_
  refine EachC.cons (o := ⟨none, _, _, _, _, _⟩) rfl (fun K hK => ?_) EachC.nil
  go_simp
  refine hK.out _ _ ?_ (fun hHeld => ?_)
  · exact ⟨fun h => absurd h (by decide), fun _ => q30⟩
  clear hK K
  try simp only [Act.put, List.setIfInBounds_toArray, List.set_cons_zero, List.set_cons_succ]
  refine anyC_take (i := 18) (o := ⟨some 91, _, _, _, _, _⟩) (v := ?_) rfl (by kernel_rfl) (by kernel_rfl) (by kernel_rfl) (by kernel_rfl) (fun _ _ _ h => h) (Two.inv (i := 17) (j := 20) (k := 18) (by decide) (by decide)) (Or.inl ⟨by rfl, ?_⟩) (by assumption) (fun hHeld => ?_)
  rotate_left
  · (intro w hSw; clear hSw; go_simp)
    all_goals (with_reducible rfl)
  try simp only [Act.put, List.setIfInBounds_toArray, List.set_cons_zero, List.set_cons_succ]
  refine anyC_take (i := 19) (o := ⟨some 92, _, _, _, _, _⟩) (v := ?_) rfl (by kernel_rfl) (by kernel_rfl) (by kernel_rfl) (by kernel_rfl) (fun _ _ _ h => h) (Two.inv (i := 17) (j := 20) (k := 19) (by decide) (by decide)) (Or.inl ⟨by rfl, ?_⟩) (by assumption) (fun hHeld => ?_)
  rotate_left
  · (intro w hSw; clear hSw; go_simp)
    all_goals (with_reducible rfl)
  try simp only [Act.put, List.setIfInBounds_toArray, List.set_cons_zero, List.set_cons_succ]
  refine anyC_each (rs := [20]) (by kernel_rfl) (by simp) ?_
  refine EachC.cons (o := ⟨none, _, _, _, _, _⟩) rfl (fun K hK => ?_) EachC.nil
  go_simp
  refine hK.out _ _ ?_ (fun hHeld => ?_)
  · exact ⟨fun h => absurd h (by decide), fun h => absurd h (by decide)⟩
  clear hK K
  try simp only [Act.put, List.setIfInBounds_toArray, List.set_cons_zero, List.set_cons_succ]
  refine anyC_done (by kernel_rfl) ?_ _
  have hp7 := H5.out.2.1.block (hb7.block p hlp5)
  have hp8 := (hp7.set29 (.slice (some ⟨g1, 0, none⟩) (0 + 1) cap1)).set30 (.slice (some ⟨g2, 0, none⟩) (0 + 5) cap2)
  have hgs := (set_grown w7 p 29 (.slice (some ⟨g1, 0, none⟩) (0 + 1) cap1)).trans (set_grown _ p 30 (.slice (some ⟨g2, 0, none⟩) (0 + 5) cap2))
  have h25 : w2.heap.size ≤ w5.heap.size := H5.out.1.size
  have hgp : g2 ≠ p := by
    rcases hat2 with e | e
    · cases e
    · have := hb6.size; omega
  have hM8 := HH.out.2.2.2.1.block ((hgs.block w.heap.size (by have := HH.out.2.2.2.1.lt; have := hb7.size; omega) (fun e => hpM (Option.some.inj e).symm)).trans ((hb7.block w.heap.size (by have := HH.out.2.2.2.1.lt; omega)).trans (H5.out.1.block w.heap.size HH.out.2.2.2.1.lt)))
  have ho8 : L.Own ((w7.setCell ⟨p, 29, none⟩ (.slice (some ⟨g1, 0, none⟩) (0 + 1) cap1)).setCell ⟨p, 30, none⟩ (.slice (some ⟨g2, 0, none⟩) (0 + 5) cap2)) w.heap.size 47 (.slice (some ⟨g2, 0, none⟩) (0 + 5) cap2) (lnums.map L.u32v) :=
    (L.Own.kept (show L.Own w7 w5.heap.size 47 _ (lnums.map L.u32v) from hown2) hgs (.inr (fun e => hgp (Option.some.inj e)))).mono (by have := HH.out.2.2.1.size; omega)
  have hg8 : w.grownBy ((w7.setCell ⟨p, 29, none⟩ (.slice (some ⟨g1, 0, none⟩) (0 + 1) cap1)).setCell ⟨p, 30, none⟩ (.slice (some ⟨g2, 0, none⟩) (0 + 5) cap2)) (some p) :=
    ((L.grown_of_below HH.out.2.2.1 (some p)).trans ((L.grown_of_below H5.out.1 (some p)).trans (L.grown_of_below hb7 (some p)))).trans hgs
  have H8 := Lib.hid (And.intro hp8 (And.intro hM8 (And.intro ho8 hg8)))
  clear hp7 hp8 hgs h25 hgp hM8 ho8 hg8 hown1 hown2 hgrow1 hgrow2 hat1 hat2 hlt1 hlt2 hb6 hb7 m29 m30 mf29 mf30 n29 n30 e29 e30 l29 l30 f29 f30 hba hlp5 q30 qf30 hHeld H3 H4 H5 H6 HH hi0 hz0 hz1 hz2
  generalize (w7.setCell ⟨p, 29, none⟩ (.slice (some ⟨g1, 0, none⟩) (0 + 1) cap1)).setCell ⟨p, 30, none⟩ (.slice (some ⟨g2, 0, none⟩) (0 + 5) cap2) = w8 at *
  obtain ⟨hp8, hM8, ho8, hg8⟩ := H8.out
  have d2 := hp8.at 2 _ rfl
  have d4 := hp8.at 4 _ rfl
  have d30 := hp8.at 30 _ rfl
  obtain ⟨gx, ox, hgx, _, hcx⟩ := ho8.rd (by decide)
  obtain ⟨rfl, rfl⟩ : gx = g2 ∧ ox = 0 := by injection hgx with e; injection e with e1 e2; exact ⟨e1.symm, e2.symm⟩
  have v0 := hcx 0 (.int .u32 3) rfl
  have v1 := hcx 1 (.int .u32 4) rfl
  have v2 := hcx 2 (.int .u32 5) rfl
  have v3 := hcx 3 (.int .u32 6) rfl
  have v4 := hcx 4 (.int .u32 7) rfl
  have k3 : (Instr.lookup 172 (.map (some w.heap.size)) (.int .u32 3) false).run Tryz.prog w8 = .ok (.int .i64 0) w8 := map_look hM8 3
  have k4 : (Instr.lookup 172 (.map (some w.heap.size)) (.int .u32 4) false).run Tryz.prog w8 = .ok (.int .i64 0) w8 := map_look hM8 4
  have k5 : (Instr.lookup 172 (.map (some w.heap.size)) (.int .u32 5) false).run Tryz.prog w8 = .ok (.int .i64 0) w8 := map_look hM8 5
  have k6 : (Instr.lookup 172 (.map (some w.heap.size)) (.int .u32 6) false).run Tryz.prog w8 = .ok (.int .i64 0) w8 := map_look hM8 6
  have k7 : (Instr.lookup 172 (.map (some w.heap.size)) (.int .u32 7) false).run Tryz.prog w8 = .ok (.int .i64 0) w8 := map_look hM8 7
  rw [Nat.zero_add] at v0 v1 v2 v3 v4
  clear hp8 hM8 ho8 hg8 hcx hgx
  go_wp2_with fail
  rw [rounds_succ]
  go_wp2_with fail
  refine wp_loop_rounds 6 ?_
  rw [rounds_succ]
  go_wp2_with fail
  rw [rounds_succ]
  go_wp2_with fail
  rw [rounds_succ]
  go_wp2_with fail
  rw [rounds_succ]
  go_wp2_with fail
  rw [rounds_succ]
  go_wp2_with fail
  rw [rounds_succ]
  go_wp2_with fail
  go_quiet (fail)
  go_wp2_with fail
  go_ret
  obtain ⟨hp8, hM8, ho8, hg8⟩ := H8.out
  have hbd : Below w8.heap.size w8 (w8.drewN nq) := below_drewN w8 nq
  exact ⟨rfl, _, _, hp8.block (hbd.block p hp8.lt), L.Own.below ho8 hbd, hg8.trans (L.grown_of_below hbd (some p))⟩
end Go.Proofs.YtagmldkcogidgaaGreatDoor
