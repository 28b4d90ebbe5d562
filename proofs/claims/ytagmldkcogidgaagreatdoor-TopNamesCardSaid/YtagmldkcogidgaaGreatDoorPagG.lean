/- (*pager.Pager).begin: the transaction's work, with the free pages put in. -/
import Derived.Test.YtagmldkcogidgaaGreatDoorPool
namespace Go.Proofs.YtagmldkcogidgaaGreatDoor
open Go.RowKit Pgp
set_option maxRecDepth 100000

theorem Pl.mono {base base' : Nat} {w : World} {b M : Nat} {R : Value} {ks ms : List Nat} (h : Pl base w b M R ks ms) (hb : base' ≤ base) : Pl base' w b M R ks ms :=
  { h with ho := h.ho.mono hb, lo := ⟨Nat.le_trans hb h.lo.1, Nat.le_trans hb h.lo.2⟩ }
/-- the roots of an empty disk -/
def RC : List Value := U (r0.drop 3)
theorem RC_len : RC.length = 24 := rfl
theorem RC_one : ∀ v ∈ RC, v.oneCell' = true := by decide
def pre33 (D : Nat) (VL VN : Value) (turn : Int) : List Value := .pointer (some ⟨D, 0, none⟩) :: (SV 1 r0 ++ [VL, VN, .int .i64 turn, .bool false])
theorem pcells_pre (D : Nat) (VL VN : Value) (turn : Int) (WK : List Value) : pcells D VL VN turn WK = pre33 D VL VN turn ++ WK := by
  simp [pcells, pre33]
theorem pre33_len (D : Nat) (VL VN : Value) (turn : Int) : (pre33 D VL VN turn).length = 33 := rfl
theorem pcells_splice (D : Nat) (VL VN : Value) (turn : Int) (WK X : List Value) (hW : WK.length = 27) (hX : X.length = 27) : splice (pcells D VL VN turn WK) 33 X = pcells D VL VN turn X := by
  have hp := pre33_len D VL VN turn
  rw [pcells_pre, pcells_pre, splice, List.take_append_of_le_length (by omega), List.take_of_length_le (by omega), List.drop_append, List.drop_of_length_le (by omega), List.drop_of_length_le (by omega)]
  simp
theorem size110 : (Tryz.prog.info? 110).map (·.size) = some 27 := by kernel_rfl
theorem size102 : (Tryz.prog.info? 102).map (·.size) = some 24 := by kernel_rfl
def WKof (b1 b2 m : Nat) : List Value := .pointer (some ⟨b1, 0, none⟩) :: .pointer (some ⟨b2, 0, none⟩) :: .map (some m) :: RC
theorem WK_one (b1 b2 m : Nat) : ∀ v ∈ WKof b1 b2 m, v.oneCell' = true := by
  intro v hv
  rcases List.mem_cons.1 hv with rfl | hv
  · rfl
  rcases List.mem_cons.1 hv with rfl | hv
  · rfl
  rcases List.mem_cons.1 hv with rfl | hv
  · rfl
  exact RC_one v hv
theorem build110 (b1 b2 m : Nat) (W : World) : (Instr.build 110 #[(0, .pointer (some ⟨b1, 0, none⟩)), (1, .pointer (some ⟨b2, 0, none⟩)), (2, .map (some m)), (3, .agg RC.toArray)]).run Tryz.prog W = .ok (.agg (WKof b1 b2 m).toArray) W := by
  refine run_build W 110 _ _ ?_
  kernel_rfl
theorem Pg.set33 {w : World} {p D : Nat} {VL VN : Value} {turn : Int} {WK X : List Value} (h : Pg w p D VL VN turn WK) (hW : WK.length = 27) (hX : X.length = 27) : Pg (w.setCells p 33 X) p D VL VN turn X := by
  have hl : (pcells D VL VN turn WK).length = 60 := by rw [pcells_pre, List.length_append, pre33_len, hW]
  have := heap_setCells_same p 112 (0, 0) X 33 w _ h (by rw [hl, hX]; decide)
  rw [pcells_splice _ _ _ _ _ _ hW hX] at this
  exact this
theorem Pg.there33 {w : World} {p D : Nat} {VL VN : Value} {turn : Int} {WK : List Value} (h : Pg w p D VL VN turn WK) (hW : WK.length = 27) : w.there p 33 27 := fun j hj => by
  have hl : (pcells D VL VN turn WK).length = 60 := by rw [pcells_pre, List.length_append, pre33_len, hW]
  refine ⟨?_, h.free _⟩
  rw [cell_of_row _ _ _ _ _ _ h, List.getElem?_toArray, List.getElem?_eq_getElem (by omega)]
  rfl
theorem Pg.roots {w : World} {p D : Nat} {VL VN : Value} {turn : Int} {WK : List Value} (h : Pg w p D VL VN turn WK) : w.rangeAt p 5 RC := fun j v hv => by
  refine h.at (5 + j) v ?_
  have hj : j < 24 := by have := (List.getElem?_eq_some_iff.1 hv).1; rw [RC_len] at this; exact this
  rw [pcells_pre, List.getElem?_append_left (by rw [pre33_len]; omega)]
  have hd : RC = ((pre33 D VL VN turn).drop 5).take 24 := rfl
  rw [hd, List.getElem?_take_of_lt hj, List.getElem?_drop] at hv
  exact hv

theorem Pl.kept {base : Nat} {w w' : World} {b M p : Nat} {R : Value} {ks ms : List Nat} (h : Pl base w b M R ks ms) (hg : w.grownBy w' (some p)) (hp : p < base) : Pl base w' b M R ks ms := by
  have e1 : some b ≠ some p := fun e => by have := h.lo.1; have := Option.some.inj e; omega
  have e2 : some M ≠ some p := fun e => by have := h.lo.2; have := Option.some.inj e; omega
  have e3 : R.ownBlock ≠ some p := fun e => by have := (h.ho.lt p e).1; omega
  exact { h with hb := (hg.block b (lt_of_cell h.c.1) e1).trans h.hb, hm := h.hm.block (hg.block M h.hm.lt e2), ho := h.ho.kept hg (.inr e3) }
theorem ex_build4 {o : Oper} {a : Act} {w : World} {x y z u : Operand} {v1 v2 v3 v4 X : Value} (ho : o.op = .build 110 #[(0, x), (1, y), (2, z), (3, u)]) (h1 : a.eval x = v1) (h2 : a.eval y = v2) (h3 : a.eval z = v3) (h4 : a.eval u = v4)
    (hb : (Instr.build 110 #[(0, v1), (1, v2), (2, v3), (3, v4)]).run Tryz.prog w = .ok X w) : (execOp a.eval o).run Tryz.prog w = .ok (.value X) w := by
  unfold execOp
  simp only [ho, List.map_toArray, List.map_cons, List.map_nil, h1, h2, h3, h4, Sem.run_bind, hb, Result.andThen_ok]
  rfl
set_option maxHeartbeats 6400000 in
theorem begin_any {w : World} {p D base0 : Nat} {VL VN : Value} {WK : List Value} (hp : Pg w p D VL VN 0 WK) (hW : WK.length = 27) (hN : L.Own w base0 47 VN (lnums.map L.u32v)) (hNp : VN.ownBlock ≠ some p) :
    Calls Tryz.prog 39 #[.pointer (some ⟨p, 0, none⟩)] w fun e w' => (∃ v, e = .returned v) ∧ (∃ b1 b2 m, Pg w' p D VL VN 1 (WKof b1 b2 m)) ∧ w.grownBy w' (some p) := by
  have a31 := hp.at 31 _ rfl
  have f31 := hp.free 31
  have hp1 := hp.set31 1
  have hg1 := set_grown w p 31 (.int .i64 1)
  have hN1 : L.Own (w.setCell ⟨p, 31, none⟩ (.int .i64 1)) base0 47 VN (lnums.map L.u32v) := hN.kept hg1 (.inr hNp)
  have hi : (Tryz.prog.info? 102).map (·.size) = some RC.length := by rw [size102, RC_len]
  have hu := Tryz.underlying102
  have hmm : ∀ W : World, (Instr.makeMap 108 none).run Tryz.prog W = .ok (.map (some W.heap.size)) (W.alloc (.map #[] 0)) := fun W => run_makeMap (P := Tryz.prog) 108 W
  obtain ⟨An, cn, hVN, hrn, _, _⟩ := hN1.form
  obtain ⟨gn, on, rfl, hln, hcn⟩ := hrn (by decide)
  have hnp : gn ≠ p := fun e => by
    rcases hN1.2 with ⟨h0, _⟩ | ⟨g, cap, cur, h0, _⟩
    · rw [hVN] at h0; cases h0
    · rw [hVN] at h0
      injection h0 with h0
      injection h0 with h0
      injection h0 with h1
      exact hNp (by rw [hVN, e]; rfl)
  have HG := Lib.hid (show w.heap.size = (w.setCell ⟨p, 31, none⟩ (.int .i64 1)).heap.size by simp)
  have hVN : VN = .slice (some ⟨gn, on, none⟩) 5 cn := hVN
  have HW := Lib.hid (And.intro hp1 (And.intro hW (And.intro hN1 hg1)))
  subst hVN
  have hrc := hp1.roots
  clear hp hN hNp hp1 hW hN1 hg1
  go_enter Tryz.func39, Tryz.ntmps39
  go_upto_region 1 with fail
  generalize w.setCell ⟨p, 31, none⟩ (.int .i64 1) = w1 at *
  have hlp := HW.out.1.lt
  refine wp_region_held_drew (S := fun w' => w'.rangeAt p 5 RC) (by kernel_rfl) ?_ (fun hHeld => ?_)
  · exact hrc
  refine wpAnyH_take (i := 0) (oi := ⟨some 11, _, _, _, _, _⟩) (v := ?_) rfl (by kernel_rfl) (by kernel_rfl) (by kernel_rfl) (fun _ _ _ h => h) (Or.inl ⟨by rfl, ?_⟩) (by assumption) ?_
  rotate_left
  · (intro w hSw; (try dsimp only at hSw); go_simp)
    all_goals (with_reducible rfl)
  try simp only [Act.put, List.setIfInBounds_toArray, List.set_cons_zero, List.set_cons_succ]
  refine wpAnyH_take (i := 4) (oi := ⟨some 15, _, _, _, _, _⟩) (v := ?_) rfl (by kernel_rfl) (by kernel_rfl) (by kernel_rfl) (fun _ _ _ h => h) (Or.inl ⟨by rfl, ?_⟩) (by assumption) ?_
  rotate_left
  · (intro w hSw; (try dsimp only at hSw); go_simp)
    all_goals (with_reducible rfl)
  try simp only [Act.put, List.setIfInBounds_toArray, List.set_cons_zero, List.set_cons_succ]
  refine wpAnyH_take (i := 5) (oi := ⟨some 16, _, _, _, _, _⟩) (v := ?_) rfl (by kernel_rfl) (by kernel_rfl) (by kernel_rfl) (fun _ _ _ h => h) (Or.inl ⟨by rfl, ?_⟩) (by assumption) ?_
  rotate_left
  · (intro w hSw; (try dsimp only at hSw); go_simp)
    all_goals (with_reducible rfl)
  try simp only [Act.put, List.setIfInBounds_toArray, List.set_cons_zero, List.set_cons_succ]
  refine wpAnyH_take (i := 6) (oi := ⟨some 17, _, _, _, _, _⟩) (v := ?_) rfl (by kernel_rfl) (by kernel_rfl) (by kernel_rfl) (fun _ _ _ h => h) (Or.inl ⟨by rfl, ?_⟩) (by assumption) ?_
  rotate_left
  · (intro w hSw; (try dsimp only at hSw); go_simp)
    all_goals (with_reducible rfl)
  try simp only [Act.put, List.setIfInBounds_toArray, List.set_cons_zero, List.set_cons_succ]
  refine wpAnyH_take (i := 7) (oi := ⟨some 18, _, _, _, _, _⟩) (v := ?_) rfl (by kernel_rfl) (by kernel_rfl) (by kernel_rfl) (fun _ _ _ h => h) (Or.inl ⟨by rfl, ?_⟩) (by assumption) ?_
  rotate_left
  · (intro w hSw; (try dsimp only at hSw); go_simp)
    all_goals (with_reducible rfl)
  try simp only [Act.put, List.setIfInBounds_toArray, List.set_cons_zero, List.set_cons_succ]
  refine wpAnyH_take (i := 8) (oi := ⟨some 19, _, _, _, _, _⟩) (v := _) rfl (by kernel_rfl) (by kernel_rfl) (by kernel_rfl) (fun _ _ _ h => h) (yieldsIf_load_mid (by rfl) _ _ rfl _ _ rfl RC _ (fun w' h => h) hu rfl hi) (by assumption) ?_
  try simp only [Act.put, List.setIfInBounds_toArray, List.set_cons_zero, List.set_cons_succ]
  have hb_w0 : Below w1.heap.size w1 w1.drew := (Below.refl _ w1).drew
  have hr_w0 : w1.drew.rangeAt p 5 RC := hrc
  refine wpAnyH_ready (rs := [1, 3]) (by kernel_rfl) (by simp) ?_
  refine AllReadyH.cons (o := ⟨some 12, _, _, _, _, _⟩) rfl (fun K hK => ?way1) (AllReadyH.cons (o := ⟨some 14, _, _, _, _, _⟩) rfl (fun K hK => ?way2) AllReadyH.nil)
  case way1 =>
    go_simp
    go_at_call 82
    refine (pnew_pool w1.drew).mono ?_
    rintro e w2 ⟨b1, M1, rfl, hpl1, hbb1⟩
    have hb_w2 : Below w1.heap.size w1 w2 := hb_w0.trans (hbb1.mono hb_w0.size)
    have hr_w2 : w2.rangeAt p 5 RC := fun j v hv => (hb_w2.cell (p := ⟨p, 5 + j, none⟩) hlp).trans (hrc j v hv)
    have hq1 : Pl w1.heap.size w2 b1 M1 (.slice none 0 0) [] [] := hpl1.mono hb_w0.size
    refine hK.out _ _ ?_ (fun hHeld => ?_)
    · exact hr_w2
    clear hK K
    try simp only [Act.put, List.setIfInBounds_toArray, List.set_cons_zero, List.set_cons_succ]
    refine wpAnyH_ready (rs := [2, 3]) (by kernel_rfl) (by simp) ?_
    refine AllReadyH.cons (o := ⟨some 13, _, _, _, _, _⟩) rfl (fun K hK => ?way11) (AllReadyH.cons (o := ⟨some 14, _, _, _, _, _⟩) rfl (fun K hK => ?way12) AllReadyH.nil)
    case way11 =>
      go_simp
      go_at_call 82
      refine (pnew_pool w2).mono ?_
      rintro e w3 ⟨b2, M2, rfl, hpl2, hbb2⟩
      have hb_w3 : Below w1.heap.size w1 w3 := hb_w2.trans (hbb2.mono hb_w2.size)
      have hr_w3 : w3.rangeAt p 5 RC := fun j v hv => (hb_w3.cell (p := ⟨p, 5 + j, none⟩) hlp).trans (hrc j v hv)
      have hx2 := hpl2.hl
      refine hK.out _ _ ?_ (fun hHeld => ?_)
      · exact hr_w3
      clear hK K
      try simp only [Act.put, List.setIfInBounds_toArray, List.set_cons_zero, List.set_cons_succ]
      refine wpAnyH_ready (rs := [3]) (by kernel_rfl) (by simp) ?_
      refine AllReadyH.cons (o := ⟨some 14, _, _, _, _, _⟩) rfl (fun K hK => ?_) AllReadyH.nil
      go_simp
      have hb_w4 : Below w1.heap.size w1 (w3.alloc (.map #[] 0)) := hb_w3.alloc hb_w3.size _
      have hr_w4 : (w3.alloc (.map #[] 0)).rangeAt p 5 RC := fun j v hv => (hb_w4.cell (p := ⟨p, 5 + j, none⟩) hlp).trans (hrc j v hv)
      refine hK.out _ _ ?_ (fun hHeld => ?_)
      · exact hr_w4
      clear hK K
      try simp only [Act.put, List.setIfInBounds_toArray, List.set_cons_zero, List.set_cons_succ]
      have hbF := hb_w4
      have hqF : Pl w1.heap.size (w3.alloc (.map #[] 0)) b1 M1 (.slice none 0 0) [] [] := (hq1.below hbb2).below ((Below.refl _ w3).alloc (Nat.le_refl _) _)
      refine wpAnyH_take (i := 9) (oi := ⟨some 20, _, _, _, _, _⟩) (v := .agg (WKof b1 b2 w3.heap.size).toArray) rfl (by kernel_rfl) (by kernel_rfl) (by kernel_rfl) (fun _ _ _ h => h) (Or.inl ⟨by rfl, fun W _ => ex_build4 (x := .tmp 12) (y := .tmp 13) (z := .tmp 14) (u := .tmp 19) (by rfl) (by rfl) (by rfl) (by rfl) (by rfl) (build110 b1 b2 w3.heap.size W)⟩) (by assumption) ?_
      try simp only [Act.put, List.setIfInBounds_toArray, List.set_cons_zero, List.set_cons_succ]
      refine wpAnyH_take (i := 10) (oi := ⟨some 21, _, _, _, _, _⟩) (v := ?_) rfl (by kernel_rfl) (by kernel_rfl) (by kernel_rfl) (fun _ _ _ h => h) (Or.inl ⟨by rfl, ?_⟩) (by assumption) ?_
      rotate_left
      · (intro w hSw; (try dsimp only at hSw); go_simp)
        all_goals (with_reducible rfl)
      try simp only [Act.put, List.setIfInBounds_toArray, List.set_cons_zero, List.set_cons_succ]
      refine wpAnyH_take (i := 11) (oi := ⟨some 22, _, _, _, _, _⟩) (v := ?_) rfl (by kernel_rfl) (by kernel_rfl) (by kernel_rfl) (fun _ _ _ h => h) (Or.inl ⟨by rfl, ?_⟩) (by assumption) ?_
      rotate_left
      · (intro w hSw; (try dsimp only at hSw); go_simp)
        all_goals (with_reducible rfl)
      try simp only [Act.put, List.setIfInBounds_toArray, List.set_cons_zero, List.set_cons_succ]
      refine wpAnyH_ready (rs := [12]) (by kernel_rfl) (by simp) ?_
      refine AllReadyH.cons (o := ⟨none, _, _, _, _, _⟩) rfl (fun K hK => ?_) AllReadyH.nil
      rw [if_pos (by rfl)]
      have hpV := HW.out.1.block (hbF.block p hlp)
      refine wp_store_mid 110 (.tmp 22) (.tmp 20) rfl p 33 (WKof b1 b2 w3.heap.size).toArray (by rfl) (by rfl) (hpV.there33 HW.out.2.1) (by rw [size110]; rfl) (all_oneCell_toArray (WK_one _ _ _)) ?_
      refine hK.out _ _ ?_ (fun hHeld => ?_)
      · exact World.rangeAt_setCells_apart hr_w4 p 33 _ (by right; left; decide)
      clear hK K
      try simp only [Act.put, List.setIfInBounds_toArray, List.set_cons_zero, List.set_cons_succ]
      refine wpAnyH_done (by kernel_rfl) ?_ _
      have hpX : Pg ((w3.alloc (.map #[] 0)).setCells p 33 (WKof b1 b2 w3.heap.size).toArray.toList) p D VL _ 1 (WKof b1 b2 w3.heap.size) := hpV.set33 HW.out.2.1 rfl
      have hgX : ((w3.alloc (.map #[] 0))).grownBy ((w3.alloc (.map #[] 0)).setCells p 33 (WKof b1 b2 w3.heap.size).toArray.toList) (some p) := grown_setCells _ p _ 33
      have hqX : Pl w1.heap.size ((w3.alloc (.map #[] 0)).setCells p 33 (WKof b1 b2 w3.heap.size).toArray.toList) b1 M1 (.slice none 0 0) [] [] := hqF.kept hgX hlp
      have n0 := (hgX.cell_far ⟨gn, on + 0, none⟩ (Nat.lt_of_lt_of_le hln hbF.size) (fun e => hnp (Option.some.inj e))).trans ((hbF.cell (p := ⟨gn, on + 0, none⟩) hln).trans (hcn 0 (.int .u32 3) rfl))
      have n1 := (hgX.cell_far ⟨gn, on + 1, none⟩ (Nat.lt_of_lt_of_le hln hbF.size) (fun e => hnp (Option.some.inj e))).trans ((hbF.cell (p := ⟨gn, on + 1, none⟩) hln).trans (hcn 1 (.int .u32 4) rfl))
      have n2 := (hgX.cell_far ⟨gn, on + 2, none⟩ (Nat.lt_of_lt_of_le hln hbF.size) (fun e => hnp (Option.some.inj e))).trans ((hbF.cell (p := ⟨gn, on + 2, none⟩) hln).trans (hcn 2 (.int .u32 5) rfl))
      have n3 := (hgX.cell_far ⟨gn, on + 3, none⟩ (Nat.lt_of_lt_of_le hln hbF.size) (fun e => hnp (Option.some.inj e))).trans ((hbF.cell (p := ⟨gn, on + 3, none⟩) hln).trans (hcn 3 (.int .u32 6) rfl))
      have n4 := (hgX.cell_far ⟨gn, on + 4, none⟩ (Nat.lt_of_lt_of_le hln hbF.size) (fun e => hnp (Option.some.inj e))).trans ((hbF.cell (p := ⟨gn, on + 4, none⟩) hln).trans (hcn 4 (.int .u32 7) rfl))
      rw [Nat.add_zero] at n0
      have hgr : w1.grownBy ((w3.alloc (.map #[] 0)).setCells p 33 (WKof b1 b2 w3.heap.size).toArray.toList) (some p) := (L.grown_of_below hbF (some p)).trans hgX
      have HX := Lib.hid (And.intro hgr hpX)
      have x30 := hpX.at 30 _ rfl
      have x33 := hpX.at 33 _ rfl
      have hqs := hqX
      clear hpV hgX hqF hbF hpX hgr hrc hcn hHeld
      generalize ((w3.alloc (.map #[] 0)).setCells p 33 (WKof b1 b2 w3.heap.size).toArray.toList) = W0 at *
      have hbc0 : Below w1.heap.size W0 W0 := Below.refl _ _
      go_wp2_with fail
      refine wp_loop_rounds 6 ?_
      rw [rounds_succ]
      have cP0 := put_pool hqX 3 (by decide) (by decide)
      go_wp2_with (go_at_call 83; go_must (refine cP0.mono ?_); rintro e W1 ⟨⟨v, rfl⟩, R1, hq_1, hbp1⟩; have hbc1 : Below w1.heap.size W0 W1 := hbc0.trans hbp1; have x33_1 := (hbc1.cell (p := ⟨p, 33, none⟩) hlp).trans x33; have n1_1 := (hbc1.cell (p := ⟨gn, on + 1, none⟩) hln).trans n1; have n2_1 := (hbc1.cell (p := ⟨gn, on + 2, none⟩) hln).trans n2; have n3_1 := (hbc1.cell (p := ⟨gn, on + 3, none⟩) hln).trans n3; have n4_1 := (hbc1.cell (p := ⟨gn, on + 4, none⟩) hln).trans n4)
      rw [rounds_succ]
      have cP1 := put_pool hq_1 4 (by decide) (by decide)
      go_wp2_with (go_at_call 83; go_must (refine cP1.mono ?_); rintro e W2 ⟨⟨v, rfl⟩, R2, hq_2, hbp2⟩; have hbc2 : Below w1.heap.size W0 W2 := hbc1.trans hbp2; have x33_2 := (hbc2.cell (p := ⟨p, 33, none⟩) hlp).trans x33; have n1_2 := (hbc2.cell (p := ⟨gn, on + 1, none⟩) hln).trans n1; have n2_2 := (hbc2.cell (p := ⟨gn, on + 2, none⟩) hln).trans n2; have n3_2 := (hbc2.cell (p := ⟨gn, on + 3, none⟩) hln).trans n3; have n4_2 := (hbc2.cell (p := ⟨gn, on + 4, none⟩) hln).trans n4)
      rw [rounds_succ]
      have cP2 := put_pool hq_2 5 (by decide) (by decide)
      go_wp2_with (go_at_call 83; go_must (refine cP2.mono ?_); rintro e W3 ⟨⟨v, rfl⟩, R3, hq_3, hbp3⟩; have hbc3 : Below w1.heap.size W0 W3 := hbc2.trans hbp3; have x33_3 := (hbc3.cell (p := ⟨p, 33, none⟩) hlp).trans x33; have n1_3 := (hbc3.cell (p := ⟨gn, on + 1, none⟩) hln).trans n1; have n2_3 := (hbc3.cell (p := ⟨gn, on + 2, none⟩) hln).trans n2; have n3_3 := (hbc3.cell (p := ⟨gn, on + 3, none⟩) hln).trans n3; have n4_3 := (hbc3.cell (p := ⟨gn, on + 4, none⟩) hln).trans n4)
      rw [rounds_succ]
      have cP3 := put_pool hq_3 6 (by decide) (by decide)
      go_wp2_with (go_at_call 83; go_must (refine cP3.mono ?_); rintro e W4 ⟨⟨v, rfl⟩, R4, hq_4, hbp4⟩; have hbc4 : Below w1.heap.size W0 W4 := hbc3.trans hbp4; have x33_4 := (hbc4.cell (p := ⟨p, 33, none⟩) hlp).trans x33; have n1_4 := (hbc4.cell (p := ⟨gn, on + 1, none⟩) hln).trans n1; have n2_4 := (hbc4.cell (p := ⟨gn, on + 2, none⟩) hln).trans n2; have n3_4 := (hbc4.cell (p := ⟨gn, on + 3, none⟩) hln).trans n3; have n4_4 := (hbc4.cell (p := ⟨gn, on + 4, none⟩) hln).trans n4)
      rw [rounds_succ]
      have cP4 := put_pool hq_4 7 (by decide) (by decide)
      go_wp2_with (go_at_call 83; go_must (refine cP4.mono ?_); rintro e W5 ⟨⟨v, rfl⟩, R5, hq_5, hbp5⟩; have hbc5 : Below w1.heap.size W0 W5 := hbc4.trans hbp5; have x33_5 := (hbc5.cell (p := ⟨p, 33, none⟩) hlp).trans x33; have n1_5 := (hbc5.cell (p := ⟨gn, on + 1, none⟩) hln).trans n1; have n2_5 := (hbc5.cell (p := ⟨gn, on + 2, none⟩) hln).trans n2; have n3_5 := (hbc5.cell (p := ⟨gn, on + 3, none⟩) hln).trans n3; have n4_5 := (hbc5.cell (p := ⟨gn, on + 4, none⟩) hln).trans n4)
      rw [rounds_succ]
      go_wp2_with fail
      go_returns
      have hsz1 : w.heap.size = w1.heap.size := HG.out
      have hgr := HX.out.1
      refine ⟨⟨_, rfl⟩, ⟨_, _, _, HX.out.2.block (hbc5.block p hlp)⟩, ?_⟩
      refine HW.out.2.2.2.trans ⟨hbc5.os.trans hgr.os, hbc5.tape.trans hgr.tape, hbc5.output.trans hgr.output, by have := hgr.size; have := hbc5.size; omega, fun k hk hkp => (hbc5.block k hk).trans (hgr.block k hk hkp)⟩
    case way12 =>
      go_simp
      have hb_w3 : Below w1.heap.size w1 (w2.alloc (.map #[] 0)) := hb_w2.alloc hb_w2.size _
      have hr_w3 : (w2.alloc (.map #[] 0)).rangeAt p 5 RC := fun j v hv => (hb_w3.cell (p := ⟨p, 5 + j, none⟩) hlp).trans (hrc j v hv)
      refine hK.out _ _ ?_ (fun hHeld => ?_)
      · exact hr_w3
      clear hK K
      try simp only [Act.put, List.setIfInBounds_toArray, List.set_cons_zero, List.set_cons_succ]
      refine wpAnyH_ready (rs := [2]) (by kernel_rfl) (by simp) ?_
      refine AllReadyH.cons (o := ⟨some 13, _, _, _, _, _⟩) rfl (fun K hK => ?_) AllReadyH.nil
      go_simp
      go_at_call 82
      refine (pnew_pool (w2.alloc (.map #[] 0))).mono ?_
      rintro e w4 ⟨b2, M2, rfl, hpl2, hbb2⟩
      have hb_w4 : Below w1.heap.size w1 w4 := hb_w3.trans (hbb2.mono hb_w3.size)
      have hr_w4 : w4.rangeAt p 5 RC := fun j v hv => (hb_w4.cell (p := ⟨p, 5 + j, none⟩) hlp).trans (hrc j v hv)
      have hx2 := hpl2.hl
      refine hK.out _ _ ?_ (fun hHeld => ?_)
      · exact hr_w4
      clear hK K
      try simp only [Act.put, List.setIfInBounds_toArray, List.set_cons_zero, List.set_cons_succ]
      have hbF := hb_w4
      have hqF : Pl w1.heap.size w4 b1 M1 (.slice none 0 0) [] [] := (hq1.below ((Below.refl _ w2).alloc (Nat.le_refl _) _)).below hbb2
      refine wpAnyH_take (i := 9) (oi := ⟨some 20, _, _, _, _, _⟩) (v := .agg (WKof b1 b2 w2.heap.size).toArray) rfl (by kernel_rfl) (by kernel_rfl) (by kernel_rfl) (fun _ _ _ h => h) (Or.inl ⟨by rfl, fun W _ => ex_build4 (x := .tmp 12) (y := .tmp 13) (z := .tmp 14) (u := .tmp 19) (by rfl) (by rfl) (by rfl) (by rfl) (by rfl) (build110 b1 b2 w2.heap.size W)⟩) (by assumption) ?_
      try simp only [Act.put, List.setIfInBounds_toArray, List.set_cons_zero, List.set_cons_succ]
      refine wpAnyH_take (i := 10) (oi := ⟨some 21, _, _, _, _, _⟩) (v := ?_) rfl (by kernel_rfl) (by kernel_rfl) (by kernel_rfl) (fun _ _ _ h => h) (Or.inl ⟨by rfl, ?_⟩) (by assumption) ?_
      rotate_left
      · (intro w hSw; (try dsimp only at hSw); go_simp)
        all_goals (with_reducible rfl)
      try simp only [Act.put, List.setIfInBounds_toArray, List.set_cons_zero, List.set_cons_succ]
      refine wpAnyH_take (i := 11) (oi := ⟨some 22, _, _, _, _, _⟩) (v := ?_) rfl (by kernel_rfl) (by kernel_rfl) (by kernel_rfl) (fun _ _ _ h => h) (Or.inl ⟨by rfl, ?_⟩) (by assumption) ?_
      rotate_left
      · (intro w hSw; (try dsimp only at hSw); go_simp)
        all_goals (with_reducible rfl)
      try simp only [Act.put, List.setIfInBounds_toArray, List.set_cons_zero, List.set_cons_succ]
      refine wpAnyH_ready (rs := [12]) (by kernel_rfl) (by simp) ?_
      refine AllReadyH.cons (o := ⟨none, _, _, _, _, _⟩) rfl (fun K hK => ?_) AllReadyH.nil
      rw [if_pos (by rfl)]
      have hpV := HW.out.1.block (hbF.block p hlp)
      refine wp_store_mid 110 (.tmp 22) (.tmp 20) rfl p 33 (WKof b1 b2 w2.heap.size).toArray (by rfl) (by rfl) (hpV.there33 HW.out.2.1) (by rw [size110]; rfl) (all_oneCell_toArray (WK_one _ _ _)) ?_
      refine hK.out _ _ ?_ (fun hHeld => ?_)
      · exact World.rangeAt_setCells_apart hr_w4 p 33 _ (by right; left; decide)
      clear hK K
      try simp only [Act.put, List.setIfInBounds_toArray, List.set_cons_zero, List.set_cons_succ]
      refine wpAnyH_done (by kernel_rfl) ?_ _
      have hpX : Pg (w4.setCells p 33 (WKof b1 b2 w2.heap.size).toArray.toList) p D VL _ 1 (WKof b1 b2 w2.heap.size) := hpV.set33 HW.out.2.1 rfl
      have hgX : (w4).grownBy (w4.setCells p 33 (WKof b1 b2 w2.heap.size).toArray.toList) (some p) := grown_setCells _ p _ 33
      have hqX : Pl w1.heap.size (w4.setCells p 33 (WKof b1 b2 w2.heap.size).toArray.toList) b1 M1 (.slice none 0 0) [] [] := hqF.kept hgX hlp
      have n0 := (hgX.cell_far ⟨gn, on + 0, none⟩ (Nat.lt_of_lt_of_le hln hbF.size) (fun e => hnp (Option.some.inj e))).trans ((hbF.cell (p := ⟨gn, on + 0, none⟩) hln).trans (hcn 0 (.int .u32 3) rfl))
      have n1 := (hgX.cell_far ⟨gn, on + 1, none⟩ (Nat.lt_of_lt_of_le hln hbF.size) (fun e => hnp (Option.some.inj e))).trans ((hbF.cell (p := ⟨gn, on + 1, none⟩) hln).trans (hcn 1 (.int .u32 4) rfl))
      have n2 := (hgX.cell_far ⟨gn, on + 2, none⟩ (Nat.lt_of_lt_of_le hln hbF.size) (fun e => hnp (Option.some.inj e))).trans ((hbF.cell (p := ⟨gn, on + 2, none⟩) hln).trans (hcn 2 (.int .u32 5) rfl))
      have n3 := (hgX.cell_far ⟨gn, on + 3, none⟩ (Nat.lt_of_lt_of_le hln hbF.size) (fun e => hnp (Option.some.inj e))).trans ((hbF.cell (p := ⟨gn, on + 3, none⟩) hln).trans (hcn 3 (.int .u32 6) rfl))
      have n4 := (hgX.cell_far ⟨gn, on + 4, none⟩ (Nat.lt_of_lt_of_le hln hbF.size) (fun e => hnp (Option.some.inj e))).trans ((hbF.cell (p := ⟨gn, on + 4, none⟩) hln).trans (hcn 4 (.int .u32 7) rfl))
      rw [Nat.add_zero] at n0
      have hgr : w1.grownBy (w4.setCells p 33 (WKof b1 b2 w2.heap.size).toArray.toList) (some p) := (L.grown_of_below hbF (some p)).trans hgX
      have HX := Lib.hid (And.intro hgr hpX)
      have x30 := hpX.at 30 _ rfl
      have x33 := hpX.at 33 _ rfl
      have hqs := hqX
      clear hpV hgX hqF hbF hpX hgr hrc hcn hHeld
      generalize (w4.setCells p 33 (WKof b1 b2 w2.heap.size).toArray.toList) = W0 at *
      have hbc0 : Below w1.heap.size W0 W0 := Below.refl _ _
      go_wp2_with fail
      refine wp_loop_rounds 6 ?_
      rw [rounds_succ]
      have cP0 := put_pool hqX 3 (by decide) (by decide)
      go_wp2_with (go_at_call 83; go_must (refine cP0.mono ?_); rintro e W1 ⟨⟨v, rfl⟩, R1, hq_1, hbp1⟩; have hbc1 : Below w1.heap.size W0 W1 := hbc0.trans hbp1; have x33_1 := (hbc1.cell (p := ⟨p, 33, none⟩) hlp).trans x33; have n1_1 := (hbc1.cell (p := ⟨gn, on + 1, none⟩) hln).trans n1; have n2_1 := (hbc1.cell (p := ⟨gn, on + 2, none⟩) hln).trans n2; have n3_1 := (hbc1.cell (p := ⟨gn, on + 3, none⟩) hln).trans n3; have n4_1 := (hbc1.cell (p := ⟨gn, on + 4, none⟩) hln).trans n4)
      rw [rounds_succ]
      have cP1 := put_pool hq_1 4 (by decide) (by decide)
      go_wp2_with (go_at_call 83; go_must (refine cP1.mono ?_); rintro e W2 ⟨⟨v, rfl⟩, R2, hq_2, hbp2⟩; have hbc2 : Below w1.heap.size W0 W2 := hbc1.trans hbp2; have x33_2 := (hbc2.cell (p := ⟨p, 33, none⟩) hlp).trans x33; have n1_2 := (hbc2.cell (p := ⟨gn, on + 1, none⟩) hln).trans n1; have n2_2 := (hbc2.cell (p := ⟨gn, on + 2, none⟩) hln).trans n2; have n3_2 := (hbc2.cell (p := ⟨gn, on + 3, none⟩) hln).trans n3; have n4_2 := (hbc2.cell (p := ⟨gn, on + 4, none⟩) hln).trans n4)
      rw [rounds_succ]
      have cP2 := put_pool hq_2 5 (by decide) (by decide)
      go_wp2_with (go_at_call 83; go_must (refine cP2.mono ?_); rintro e W3 ⟨⟨v, rfl⟩, R3, hq_3, hbp3⟩; have hbc3 : Below w1.heap.size W0 W3 := hbc2.trans hbp3; have x33_3 := (hbc3.cell (p := ⟨p, 33, none⟩) hlp).trans x33; have n1_3 := (hbc3.cell (p := ⟨gn, on + 1, none⟩) hln).trans n1; have n2_3 := (hbc3.cell (p := ⟨gn, on + 2, none⟩) hln).trans n2; have n3_3 := (hbc3.cell (p := ⟨gn, on + 3, none⟩) hln).trans n3; have n4_3 := (hbc3.cell (p := ⟨gn, on + 4, none⟩) hln).trans n4)
      rw [rounds_succ]
      have cP3 := put_pool hq_3 6 (by decide) (by decide)
      go_wp2_with (go_at_call 83; go_must (refine cP3.mono ?_); rintro e W4 ⟨⟨v, rfl⟩, R4, hq_4, hbp4⟩; have hbc4 : Below w1.heap.size W0 W4 := hbc3.trans hbp4; have x33_4 := (hbc4.cell (p := ⟨p, 33, none⟩) hlp).trans x33; have n1_4 := (hbc4.cell (p := ⟨gn, on + 1, none⟩) hln).trans n1; have n2_4 := (hbc4.cell (p := ⟨gn, on + 2, none⟩) hln).trans n2; have n3_4 := (hbc4.cell (p := ⟨gn, on + 3, none⟩) hln).trans n3; have n4_4 := (hbc4.cell (p := ⟨gn, on + 4, none⟩) hln).trans n4)
      rw [rounds_succ]
      have cP4 := put_pool hq_4 7 (by decide) (by decide)
      go_wp2_with (go_at_call 83; go_must (refine cP4.mono ?_); rintro e W5 ⟨⟨v, rfl⟩, R5, hq_5, hbp5⟩; have hbc5 : Below w1.heap.size W0 W5 := hbc4.trans hbp5; have x33_5 := (hbc5.cell (p := ⟨p, 33, none⟩) hlp).trans x33; have n1_5 := (hbc5.cell (p := ⟨gn, on + 1, none⟩) hln).trans n1; have n2_5 := (hbc5.cell (p := ⟨gn, on + 2, none⟩) hln).trans n2; have n3_5 := (hbc5.cell (p := ⟨gn, on + 3, none⟩) hln).trans n3; have n4_5 := (hbc5.cell (p := ⟨gn, on + 4, none⟩) hln).trans n4)
      rw [rounds_succ]
      go_wp2_with fail
      go_returns
      have hsz1 : w.heap.size = w1.heap.size := HG.out
      have hgr := HX.out.1
      refine ⟨⟨_, rfl⟩, ⟨_, _, _, HX.out.2.block (hbc5.block p hlp)⟩, ?_⟩
      refine HW.out.2.2.2.trans ⟨hbc5.os.trans hgr.os, hbc5.tape.trans hgr.tape, hbc5.output.trans hgr.output, by have := hgr.size; have := hbc5.size; omega, fun k hk hkp => (hbc5.block k hk).trans (hgr.block k hk hkp)⟩
  case way2 =>
    go_simp
    have hb_w2 : Below w1.heap.size w1 (w1.drew.alloc (.map #[] 0)) := hb_w0.alloc hb_w0.size _
    have hr_w2 : (w1.drew.alloc (.map #[] 0)).rangeAt p 5 RC := fun j v hv => (hb_w2.cell (p := ⟨p, 5 + j, none⟩) hlp).trans (hrc j v hv)
    refine hK.out _ _ ?_ (fun hHeld => ?_)
    · exact hr_w2
    clear hK K
    try simp only [Act.put, List.setIfInBounds_toArray, List.set_cons_zero, List.set_cons_succ]
    refine wpAnyH_ready (rs := [1]) (by kernel_rfl) (by simp) ?_
    refine AllReadyH.cons (o := ⟨some 12, _, _, _, _, _⟩) rfl (fun K hK => ?_) AllReadyH.nil
    go_simp
    go_at_call 82
    refine (pnew_pool (w1.drew.alloc (.map #[] 0))).mono ?_
    rintro e w3 ⟨b1, M1, rfl, hpl1, hbb1⟩
    have hb_w3 : Below w1.heap.size w1 w3 := hb_w2.trans (hbb1.mono hb_w2.size)
    have hr_w3 : w3.rangeAt p 5 RC := fun j v hv => (hb_w3.cell (p := ⟨p, 5 + j, none⟩) hlp).trans (hrc j v hv)
    have hq1 : Pl w1.heap.size w3 b1 M1 (.slice none 0 0) [] [] := hpl1.mono hb_w2.size
    refine hK.out _ _ ?_ (fun hHeld => ?_)
    · exact hr_w3
    clear hK K
    try simp only [Act.put, List.setIfInBounds_toArray, List.set_cons_zero, List.set_cons_succ]
    refine wpAnyH_ready (rs := [2]) (by kernel_rfl) (by simp) ?_
    refine AllReadyH.cons (o := ⟨some 13, _, _, _, _, _⟩) rfl (fun K hK => ?_) AllReadyH.nil
    go_simp
    go_at_call 82
    refine (pnew_pool w3).mono ?_
    rintro e w4 ⟨b2, M2, rfl, hpl2, hbb2⟩
    have hb_w4 : Below w1.heap.size w1 w4 := hb_w3.trans (hbb2.mono hb_w3.size)
    have hr_w4 : w4.rangeAt p 5 RC := fun j v hv => (hb_w4.cell (p := ⟨p, 5 + j, none⟩) hlp).trans (hrc j v hv)
    have hx2 := hpl2.hl
    refine hK.out _ _ ?_ (fun hHeld => ?_)
    · exact hr_w4
    clear hK K
    try simp only [Act.put, List.setIfInBounds_toArray, List.set_cons_zero, List.set_cons_succ]
    have hbF := hb_w4
    have hqF : Pl w1.heap.size w4 b1 M1 (.slice none 0 0) [] [] := hq1.below hbb2
    refine wpAnyH_take (i := 9) (oi := ⟨some 20, _, _, _, _, _⟩) (v := .agg (WKof b1 b2 w1.heap.size).toArray) rfl (by kernel_rfl) (by kernel_rfl) (by kernel_rfl) (fun _ _ _ h => h) (Or.inl ⟨by rfl, fun W _ => ex_build4 (x := .tmp 12) (y := .tmp 13) (z := .tmp 14) (u := .tmp 19) (by rfl) (by rfl) (by rfl) (by rfl) (by rfl) (build110 b1 b2 w1.heap.size W)⟩) (by assumption) ?_
    try simp only [Act.put, List.setIfInBounds_toArray, List.set_cons_zero, List.set_cons_succ]
    refine wpAnyH_take (i := 10) (oi := ⟨some 21, _, _, _, _, _⟩) (v := ?_) rfl (by kernel_rfl) (by kernel_rfl) (by kernel_rfl) (fun _ _ _ h => h) (Or.inl ⟨by rfl, ?_⟩) (by assumption) ?_
    rotate_left
    · (intro w hSw; (try dsimp only at hSw); go_simp)
      all_goals (with_reducible rfl)
    try simp only [Act.put, List.setIfInBounds_toArray, List.set_cons_zero, List.set_cons_succ]
    refine wpAnyH_take (i := 11) (oi := ⟨some 22, _, _, _, _, _⟩) (v := ?_) rfl (by kernel_rfl) (by kernel_rfl) (by kernel_rfl) (fun _ _ _ h => h) (Or.inl ⟨by rfl, ?_⟩) (by assumption) ?_
    rotate_left
    · (intro w hSw; (try dsimp only at hSw); go_simp)
      all_goals (with_reducible rfl)
    try simp only [Act.put, List.setIfInBounds_toArray, List.set_cons_zero, List.set_cons_succ]
    refine wpAnyH_ready (rs := [12]) (by kernel_rfl) (by simp) ?_
    refine AllReadyH.cons (o := ⟨none, _, _, _, _, _⟩) rfl (fun K hK => ?_) AllReadyH.nil
    rw [if_pos (by rfl)]
    have hpV := HW.out.1.block (hbF.block p hlp)
    refine wp_store_mid 110 (.tmp 22) (.tmp 20) rfl p 33 (WKof b1 b2 w1.heap.size).toArray (by rfl) (by rfl) (hpV.there33 HW.out.2.1) (by rw [size110]; rfl) (all_oneCell_toArray (WK_one _ _ _)) ?_
    refine hK.out _ _ ?_ (fun hHeld => ?_)
    · exact World.rangeAt_setCells_apart hr_w4 p 33 _ (by right; left; decide)
    clear hK K
    try simp only [Act.put, List.setIfInBounds_toArray, List.set_cons_zero, List.set_cons_succ]
    refine wpAnyH_done (by kernel_rfl) ?_ _
    have hpX : Pg (w4.setCells p 33 (WKof b1 b2 w1.heap.size).toArray.toList) p D VL _ 1 (WKof b1 b2 w1.heap.size) := hpV.set33 HW.out.2.1 rfl
    have hgX : (w4).grownBy (w4.setCells p 33 (WKof b1 b2 w1.heap.size).toArray.toList) (some p) := grown_setCells _ p _ 33
    have hqX : Pl w1.heap.size (w4.setCells p 33 (WKof b1 b2 w1.heap.size).toArray.toList) b1 M1 (.slice none 0 0) [] [] := hqF.kept hgX hlp
    have n0 := (hgX.cell_far ⟨gn, on + 0, none⟩ (Nat.lt_of_lt_of_le hln hbF.size) (fun e => hnp (Option.some.inj e))).trans ((hbF.cell (p := ⟨gn, on + 0, none⟩) hln).trans (hcn 0 (.int .u32 3) rfl))
    have n1 := (hgX.cell_far ⟨gn, on + 1, none⟩ (Nat.lt_of_lt_of_le hln hbF.size) (fun e => hnp (Option.some.inj e))).trans ((hbF.cell (p := ⟨gn, on + 1, none⟩) hln).trans (hcn 1 (.int .u32 4) rfl))
    have n2 := (hgX.cell_far ⟨gn, on + 2, none⟩ (Nat.lt_of_lt_of_le hln hbF.size) (fun e => hnp (Option.some.inj e))).trans ((hbF.cell (p := ⟨gn, on + 2, none⟩) hln).trans (hcn 2 (.int .u32 5) rfl))
    have n3 := (hgX.cell_far ⟨gn, on + 3, none⟩ (Nat.lt_of_lt_of_le hln hbF.size) (fun e => hnp (Option.some.inj e))).trans ((hbF.cell (p := ⟨gn, on + 3, none⟩) hln).trans (hcn 3 (.int .u32 6) rfl))
    have n4 := (hgX.cell_far ⟨gn, on + 4, none⟩ (Nat.lt_of_lt_of_le hln hbF.size) (fun e => hnp (Option.some.inj e))).trans ((hbF.cell (p := ⟨gn, on + 4, none⟩) hln).trans (hcn 4 (.int .u32 7) rfl))
    rw [Nat.add_zero] at n0
    have hgr : w1.grownBy (w4.setCells p 33 (WKof b1 b2 w1.heap.size).toArray.toList) (some p) := (L.grown_of_below hbF (some p)).trans hgX
    have HX := Lib.hid (And.intro hgr hpX)
    have x30 := hpX.at 30 _ rfl
    have x33 := hpX.at 33 _ rfl
    have hqs := hqX
    clear hpV hgX hqF hbF hpX hgr hrc hcn hHeld
    generalize (w4.setCells p 33 (WKof b1 b2 w1.heap.size).toArray.toList) = W0 at *
    have hbc0 : Below w1.heap.size W0 W0 := Below.refl _ _
    go_wp2_with fail
    refine wp_loop_rounds 6 ?_
    rw [rounds_succ]
    have cP0 := put_pool hqX 3 (by decide) (by decide)
    go_wp2_with (go_at_call 83; go_must (refine cP0.mono ?_); rintro e W1 ⟨⟨v, rfl⟩, R1, hq_1, hbp1⟩; have hbc1 : Below w1.heap.size W0 W1 := hbc0.trans hbp1; have x33_1 := (hbc1.cell (p := ⟨p, 33, none⟩) hlp).trans x33; have n1_1 := (hbc1.cell (p := ⟨gn, on + 1, none⟩) hln).trans n1; have n2_1 := (hbc1.cell (p := ⟨gn, on + 2, none⟩) hln).trans n2; have n3_1 := (hbc1.cell (p := ⟨gn, on + 3, none⟩) hln).trans n3; have n4_1 := (hbc1.cell (p := ⟨gn, on + 4, none⟩) hln).trans n4)
    rw [rounds_succ]
    have cP1 := put_pool hq_1 4 (by decide) (by decide)
    go_wp2_with (go_at_call 83; go_must (refine cP1.mono ?_); rintro e W2 ⟨⟨v, rfl⟩, R2, hq_2, hbp2⟩; have hbc2 : Below w1.heap.size W0 W2 := hbc1.trans hbp2; have x33_2 := (hbc2.cell (p := ⟨p, 33, none⟩) hlp).trans x33; have n1_2 := (hbc2.cell (p := ⟨gn, on + 1, none⟩) hln).trans n1; have n2_2 := (hbc2.cell (p := ⟨gn, on + 2, none⟩) hln).trans n2; have n3_2 := (hbc2.cell (p := ⟨gn, on + 3, none⟩) hln).trans n3; have n4_2 := (hbc2.cell (p := ⟨gn, on + 4, none⟩) hln).trans n4)
    rw [rounds_succ]
    have cP2 := put_pool hq_2 5 (by decide) (by decide)
    go_wp2_with (go_at_call 83; go_must (refine cP2.mono ?_); rintro e W3 ⟨⟨v, rfl⟩, R3, hq_3, hbp3⟩; have hbc3 : Below w1.heap.size W0 W3 := hbc2.trans hbp3; have x33_3 := (hbc3.cell (p := ⟨p, 33, none⟩) hlp).trans x33; have n1_3 := (hbc3.cell (p := ⟨gn, on + 1, none⟩) hln).trans n1; have n2_3 := (hbc3.cell (p := ⟨gn, on + 2, none⟩) hln).trans n2; have n3_3 := (hbc3.cell (p := ⟨gn, on + 3, none⟩) hln).trans n3; have n4_3 := (hbc3.cell (p := ⟨gn, on + 4, none⟩) hln).trans n4)
    rw [rounds_succ]
    have cP3 := put_pool hq_3 6 (by decide) (by decide)
    go_wp2_with (go_at_call 83; go_must (refine cP3.mono ?_); rintro e W4 ⟨⟨v, rfl⟩, R4, hq_4, hbp4⟩; have hbc4 : Below w1.heap.size W0 W4 := hbc3.trans hbp4; have x33_4 := (hbc4.cell (p := ⟨p, 33, none⟩) hlp).trans x33; have n1_4 := (hbc4.cell (p := ⟨gn, on + 1, none⟩) hln).trans n1; have n2_4 := (hbc4.cell (p := ⟨gn, on + 2, none⟩) hln).trans n2; have n3_4 := (hbc4.cell (p := ⟨gn, on + 3, none⟩) hln).trans n3; have n4_4 := (hbc4.cell (p := ⟨gn, on + 4, none⟩) hln).trans n4)
    rw [rounds_succ]
    have cP4 := put_pool hq_4 7 (by decide) (by decide)
    go_wp2_with (go_at_call 83; go_must (refine cP4.mono ?_); rintro e W5 ⟨⟨v, rfl⟩, R5, hq_5, hbp5⟩; have hbc5 : Below w1.heap.size W0 W5 := hbc4.trans hbp5; have x33_5 := (hbc5.cell (p := ⟨p, 33, none⟩) hlp).trans x33; have n1_5 := (hbc5.cell (p := ⟨gn, on + 1, none⟩) hln).trans n1; have n2_5 := (hbc5.cell (p := ⟨gn, on + 2, none⟩) hln).trans n2; have n3_5 := (hbc5.cell (p := ⟨gn, on + 3, none⟩) hln).trans n3; have n4_5 := (hbc5.cell (p := ⟨gn, on + 4, none⟩) hln).trans n4)
    rw [rounds_succ]
    go_wp2_with fail
    go_returns
    have hsz1 : w.heap.size = w1.heap.size := HG.out
    have hgr := HX.out.1
    refine ⟨⟨_, rfl⟩, ⟨_, _, _, HX.out.2.block (hbc5.block p hlp)⟩, ?_⟩
    refine HW.out.2.2.2.trans ⟨hbc5.os.trans hgr.os, hbc5.tape.trans hgr.tape, hbc5.output.trans hgr.output, by have := hgr.size; have := hbc5.size; omega, fun k hk hkp => (hbc5.block k hk).trans (hgr.block k hk hkp)⟩
end Go.Proofs.YtagmldkcogidgaaGreatDoor
