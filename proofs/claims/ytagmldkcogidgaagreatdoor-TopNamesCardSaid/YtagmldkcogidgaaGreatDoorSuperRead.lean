/- super.Read, super.Newest. -/
import Derived.Test.YtagmldkcogidgaaGreatDoorSuperParse
namespace Go.Proofs.YtagmldkcogidgaaGreatDoor
set_option maxRecDepth 100000
open Go.RowKit Pgp
open Crcp (cmore)

/-- a result variable of a super's type, as the call begins -/
theorem new56 (w : World) : Sup (w.alloc (.cells (SV 0 zeros27).toArray 104)) w.heap.size 0 zeros27 ∧ Below w.heap.size w (w.alloc (.cells (SV 0 zeros27).toArray 104)) :=
  ⟨by unfold Sup; exact heap_alloc_last w _, (Below.refl _ w).alloc (Nat.le_refl _) _⟩
/-- what a store of a whole super leaves -/
theorem put56 {w : World} {B q0 q : Nat} {r0 r : List Nat} (h : Sup w B q0 r0) (hr0 : r0.length = 27) (hr : r.length = 27) :
    (w.there B 0 (SV q r).toArray.size) ∧ (Tryz.prog.info? 104).map (·.size) = some (SV q r).toArray.size ∧ (SV q r).toArray.all (·.oneCell') = true ∧
    (loadVar 104 ⟨B, 0, none⟩).run Tryz.prog (w.setCells B 0 (SV q r).toArray.toList) = .ok (.agg (SV q r).toArray) (w.setCells B 0 (SV q r).toArray.toList) := by
  have h28 : (SV q r).toArray.size = 28 := by rw [List.size_toArray]; exact SV_len q r hr
  have ht : w.there B 0 (SV q r).toArray.size := by rw [h28]; exact h.there hr0
  have hs : (Tryz.prog.info? 104).map (·.size) = some (SV q r).toArray.size := by rw [size56, h28]
  refine ⟨ht, hs, SV_one q r, ?_⟩
  have e : (SV q r).toArray.toList = SV q r := by simp
  rw [e]
  exact run_loadVar_mid _ B 0 104 (SV q r) _ (World.rangeAt_setCells_same w B 0 (SV q r) (by rw [← List.size_toArray]; exact ht)) Tryz.underlying104 rfl (by rw [hs, List.size_toArray])

/-- a store of a whole super into a block made just now -/
theorem wpList_st_new {ops : Array Oper} {rest : List Oper} {op : Oper} {a : Act} {w : World} {Q : Exit → Act → World → Prop} (hgd : op.guard = none) (x y : Operand) (ho : op.op = .store 104 x y)
    (w0 : World) (q : Nat) (r : List Nat) (hw : w = w0.alloc (.cells (SV 0 zeros27).toArray 104)) (hx : a.eval x = .pointer (some ⟨w0.heap.size, 0, none⟩)) (hy : a.eval y = .agg (SV q r).toArray) (hr : r.length = 27)
    (hd : op.dst = none) (h : wpList Tryz.prog ops Q rest a (w0.alloc (.cells (SV q r).toArray 104))) : wpList Tryz.prog ops Q (op :: rest) a w := by
  refine wpList_plain hgd fun K hK => ?_
  subst hw
  have h28 : (SV q r).toArray.size = 28 := by rw [List.size_toArray]; exact SV_len q r hr
  have hrun := run_storeAt_new (P := Tryz.prog) w0 104 (SV 0 zeros27).toArray (SV q r).toArray (by rw [size56, h28]) (by rw [h28]; rfl) (SV_one q r)
  unfold Oper.wp execOp
  simp only [ho, hx, hy, Sem.run_bind, Sem.run_pure, Result.andThen_ok, hrun]
  exact hK _ _ (by rw [hd]; exact h)
/-- a store of a whole super, the frame as it is -/
theorem wpList_st {ops : Array Oper} {rest : List Oper} {op : Oper} {a : Act} {w : World} {Q : Exit → Act → World → Prop} (hgd : op.guard = none) (x y : Operand) (ho : op.op = .store 104 x y)
    (B : Nat) (cells : Array Value) (hx : a.eval x = .pointer (some ⟨B, 0, none⟩)) (hy : a.eval y = .agg cells) (ht : w.there B 0 cells.size) (hi : (Tryz.prog.info? 104).map (·.size) = some cells.size) (h1 : cells.all (·.oneCell') = true)
    (hd : op.dst = none) (h : wpList Tryz.prog ops Q rest a (w.setCells B 0 cells.toList)) : wpList Tryz.prog ops Q (op :: rest) a w :=
  wpList_store_mid hgd 104 x y ho B 0 cells hx hy ht hi h1 (by rw [hd]; exact h)
theorem wpList_mv {ops : Array Oper} {rest : List Oper} {op : Oper} {a : Act} {w : World} {Q : Exit → Act → World → Prop} (hg : op.guard = none) (x : Operand) (ho : op.op = .move x)
    (h : wpList Tryz.prog ops Q rest (a.put op.dst (a.eval x)) w) : wpList Tryz.prog ops Q (op :: rest) a w := by
  refine wpList_plain hg fun K hK => ?_
  unfold Oper.wp execOp
  simp only [ho, Sem.run_pure]
  exact hK _ _ h
theorem built56 : Tryz.prog.built 104 [] = some (SV 0 zeros27).toArray := by kernel_rfl
theorem wpList_zero {ops : Array Oper} {rest : List Oper} {op : Oper} {a : Act} {w : World} {Q : Exit → Act → World → Prop} (Z : List Value) (hZ : SV 0 zeros27 = Z) (hg : op.guard = none) (ho : op.op = .build 104 #[])
    (h : wpList Tryz.prog ops Q rest (a.put op.dst (.agg Z.toArray)) w) : wpList Tryz.prog ops Q (op :: rest) a w := by
  subst hZ
  have e : Tryz.prog.built 104 ((#[] : Array (Nat × Operand)).map fun (i, x) => (i, a.eval x)).toList = some (SV 0 zeros27).toArray := by simpa using built56
  refine wpList_build hg 104 #[] ho (by rw [e]; rfl) ?_
  rw [e]
  exact h
theorem sup_new (w : World) (q : Nat) (r : List Nat) : Sup (w.alloc (.cells (SV q r).toArray 104)) w.heap.size q r := by unfold Sup; exact heap_alloc_last w _

set_option maxRecDepth 20000 in
set_option maxHeartbeats 2000000 in
theorem read_any (p : Nat) (hp : p ≤ 1) (A : Option Addr) (b : List UInt8) (c : Nat) (w : World) (hA : Rd w A ⟨b.toArray⟩) (hc : b.length ≤ c) (hb : b.length ≤ 1000000) (hT : Tab w) :
    Calls Tryz.prog 121 #[.int .i64 p, .slice A b.length c] w fun e w' => e = .returned (.tuple #[.agg (SV (sq p b) (sr p b)).toArray, .int .i64 (sfault p b)]) ∧ Below w.heap.size w w' := by
  have HN := Lib.hid (new56 w)
  have hp01 : p = 0 ∨ p = 1 := by omega
  rcases hp01 with rfl | rfl
  all_goals
    go_enter Tryz.func121, Tryz.ntmps121
    go_upto_region 3 with fail
  · refine (fun (h : ∀ W, Sup W w.heap.size 0 zeros27 → Below w.heap.size w W → Code.wp _ _ _ _ W) => h _ HN.out.1 HN.out.2) ?_
    intro W0 hS0 hB0
    have cO := open_any 0 A b c W0 (by decide) (hA.below hB0) hc hb (hT.below hT.pos hB0)
    have HS0 := Lib.hid hS0
    have HB0 := Lib.hid hB0
    clear hS0 hB0
    go_wp2_with fail
    refine cO.mono ?_
    rintro e W1 ⟨hb1, (⟨hf, v, rfl, hv⟩ | ⟨hf, rfl⟩)⟩
    · obtain ⟨A1, c1, rfl, hr1, hc1⟩ := own_list hv
      have HS1 := Lib.hid (HS0.out.below hb1 HS0.out.lt)
      have HB1 := Lib.hid (bel_call HB0.out hb1)
      have HSF := Lib.hid (show sfault 0 b = _ by unfold sfault; rw [if_neg (by decide), if_neg (by rw [hf]; decide)])
      clear hb1 hv cO
      by_cases hk : okind b = 1
      · by_cases hl : (obody b).length = 116
        · have cP := parse_any A1 (obody b) c1 W1 hr1 hl hc1
          have hk1 : ((okind b).toNat : Int) = 1 := by rw [hk]; rfl
          have hk2 : (((okind b).toNat : Int) != 1) = false := by rw [hk1]; rfl
          have hl2 : (((obody b).length : Int) != 116) = false := by rw [hl]; rfl
          have HH := Lib.hid hl
          have HK := Lib.hid hk
          rw [hl] at cP
          clear hr1 hc1 hk hf
          go_wp2_with fail
          refine cP.mono ?_
          rintro e W2 ⟨rfl, hb2⟩
          have HS2 := Lib.hid (HS1.out.below hb2 HS1.out.lt)
          have HB2 := Lib.hid (bel_call HB1.out hb2)
          clear hb2 cP hl hl2 hk1 hk2
          have hr27 : (srs (obody b)).length = 27 := nums_len _ _
          have hSN := sup_new W2 (squ (obody b)) (srs (obody b))
          have hBN : Below W2.heap.size W2 (W2.alloc (.cells (SV (squ (obody b)) (srs (obody b))).toArray 104)) := (Below.refl _ _).alloc (Nat.le_refl _) _
          have HSN := Lib.hid hSN
          have HBN := Lib.hid hBN
          have HS3 := Lib.hid (HS2.out.below hBN HS2.out.lt)
          have HB3 := Lib.hid (bel_call HB2.out hBN)
          clear hSN hBN
          go_upto_region 9 with (refine wpList_st_new (op := ⟨none, _, _, _, _, _⟩) rfl (.tmp 9) (.tmp 38) rfl W2 (squ (obody b)) (srs (obody b)) rfl rfl rfl hr27 rfl ?_)
          have HQ := Lib.hid (show sfault 0 b = if squ (obody b) % 2 ≠ 0 then 2 else 0 by rw [HSF.out, if_neg (by rw [HK.out, HH.out]; simp)])
          have hq0 := HSN.out.at0
          generalize W2.alloc (.cells (SV (squ (obody b)) (srs (obody b))).toArray 104) = W3 at *
          have hrg := HSN.out.range56
          have hsz2 : (Tryz.prog.info? 104).map (·.size) = some (SV (squ (obody b)) (srs (obody b))).length := by rw [size56, SV_len _ _ hr27]
          have HV := Lib.hid (And.intro (show sq 0 b = if sfault 0 b = 0 then squ (obody b) else 0 from rfl) (show sr 0 b = if sfault 0 b = 0 then srs (obody b) else zeros27 from rfl))
          by_cases hm : squ (obody b) % 2 = 0
          · have hF : sfault 0 b = 0 := by rw [HQ.out, if_neg (by rw [hm]; simp)]
            have hmi : (((squ (obody b) : Nat) : Int) % 2 != 0) = false := by
              have : ((squ (obody b) : Nat) : Int) % 2 = 0 := by omega
              rw [this]; rfl
            have HE := Lib.hid (show Ending.returned (.tuple #[.agg (SV (squ (obody b)) (srs (obody b))).toArray, .int .i64 0]) = .returned (.tuple #[.agg (SV (sq 0 b) (sr 0 b)).toArray, .int .i64 (sfault 0 b)]) by rw [HV.out.1, HV.out.2, hF]; rfl)
            clear hm hF
            obtain ⟨ht, hs, ho, hl⟩ := put56 (q := squ (obody b)) (r := srs (obody b)) (HS3.out) (by decide) hr27
            have hbf := below_setCells (Nat.le_refl w.heap.size) (SV (squ (obody b)) (srs (obody b))).toArray.toList 0 _ (HB3.out)
            have he := HE.out
            generalize hL : SV (squ (obody b)) (srs (obody b)) = L at ht hs ho hl hbf he hrg hsz2 ⊢
            have HBF := Lib.hid hbf
            have HL := Lib.hid hl
            have HT := Lib.hid (And.intro ht (And.intro hs ho))
            have HR := Lib.hid (And.intro hrg hsz2)
            have HE2 := Lib.hid he
            clear hl ht hs ho hL hbf he hrg hsz2
            go_upto_region 11 with fail
            refine wp_region_lit ?_
            refine wpList_load_mid (op := ⟨some 46, _, _, _, _, _⟩) rfl 104 (.tmp 9) rfl W2.heap.size 0 (by rfl) L _ HR.out.1 Tryz.underlying104 rfl HR.out.2 ?_
            refine wpList_st (op := ⟨none, _, _, _, _, _⟩) rfl (.tmp 4) (.tmp 46) rfl w.heap.size L.toArray (by rfl) (by rfl) HT.out.1 HT.out.2.1 HT.out.2.2 rfl ?_
            go_wp2
            refine bodyPost_ret (v := .tuple #[.agg L.toArray, .int .i64 0]) ?_ rfl ⟨HE2.out, HBF.out⟩
            rw [results_cell_tmp rfl]
            simp [asAddr, Result.andThen, HL.out]
          · have hF : sfault 0 b = 2 := by rw [HQ.out, if_pos hm]
            have hmi : (((squ (obody b) : Nat) : Int) % 2 != 0) = true := by
              have : ¬ ((squ (obody b) : Nat) : Int) % 2 = 0 := by omega
              exact bne_iff_ne.2 this
            have HE := Lib.hid (show Ending.returned (.tuple #[.agg (SV 0 zeros27).toArray, .int .i64 2]) = .returned (.tuple #[.agg (SV (sq 0 b) (sr 0 b)).toArray, .int .i64 (sfault 0 b)]) by rw [HV.out.1, HV.out.2, hF]; rfl)
            clear hm hF hrg hsz2
            obtain ⟨ht, hs, ho, hl⟩ := put56 (q := 0) (r := zeros27) (HS3.out) (by decide) (by decide)
            have hbf := below_setCells (Nat.le_refl w.heap.size) (SV 0 zeros27).toArray.toList 0 _ (HB3.out)
            have he := HE.out
            generalize hZ : SV 0 zeros27 = Z at ht hs ho hl hbf he
            have HBF := Lib.hid hbf
            have HL := Lib.hid hl
            have HT := Lib.hid (And.intro ht (And.intro hs ho))
            have HZ := Lib.hid hZ
            have HE2 := Lib.hid he
            clear hl ht hs ho hZ hbf he
            go_upto_region 10 with fail
            refine wp_region_lit ?_
            refine wpList_zero (op := ⟨some 45, _, _, _, _, _⟩) Z HZ.out rfl rfl ?_
            refine wpList_st (op := ⟨none, _, _, _, _, _⟩) rfl (.tmp 4) (.tmp 45) rfl w.heap.size Z.toArray (by rfl) (by rfl) HT.out.1 HT.out.2.1 HT.out.2.2 rfl ?_
            go_wp2
            refine bodyPost_ret (v := .tuple #[.agg Z.toArray, .int .i64 2]) ?_ rfl ⟨HE2.out, HBF.out⟩
            rw [results_cell_tmp rfl]
            simp [asAddr, Result.andThen, HL.out]
        · have hF : sfault 0 b = 2 := by rw [HSF.out, if_pos (.inr hl)]
          have HV := Lib.hid (And.intro (show sq 0 b = if sfault 0 b = 0 then squ (obody b) else 0 from rfl) (show sr 0 b = if sfault 0 b = 0 then srs (obody b) else zeros27 from rfl))
          have HE := Lib.hid (show Ending.returned (.tuple #[.agg (SV 0 zeros27).toArray, .int .i64 2]) = .returned (.tuple #[.agg (SV (sq 0 b) (sr 0 b)).toArray, .int .i64 (sfault 0 b)]) by rw [HV.out.1, HV.out.2, hF]; rfl)
          have hk1 : ((okind b).toNat : Int) = 1 := by rw [hk]; rfl
          have hk2 : (((okind b).toNat : Int) != 1) = false := by rw [hk1]; rfl
          have hl2 : (((obody b).length : Int) != 116) = true := bne_iff_ne.2 (by omega)
          clear hF hk hl hf hr1 hc1
          obtain ⟨ht, hs, ho, hl⟩ := put56 (q := 0) (r := zeros27) (HS1.out) (by decide) (by decide)
          have hbf := below_setCells (Nat.le_refl w.heap.size) (SV 0 zeros27).toArray.toList 0 _ (HB1.out)
          have he := HE.out
          generalize hZ : SV 0 zeros27 = Z at ht hs ho hl hbf he
          have HBF := Lib.hid hbf
          have HL := Lib.hid hl
          have HT := Lib.hid (And.intro ht (And.intro hs ho))
          have HZ := Lib.hid hZ
          have HE2 := Lib.hid he
          clear hl ht hs ho hZ hbf he
          go_upto_region 7 with fail
          refine wp_region_lit ?_
          refine wpList_zero (op := ⟨some 36, _, _, _, _, _⟩) Z HZ.out rfl rfl ?_
          refine wpList_st (op := ⟨none, _, _, _, _, _⟩) rfl (.tmp 4) (.tmp 36) rfl w.heap.size Z.toArray (by rfl) (by rfl) HT.out.1 HT.out.2.1 HT.out.2.2 rfl ?_
          go_wp2
          refine bodyPost_ret (v := .tuple #[.agg Z.toArray, .int .i64 2]) ?_ rfl ⟨HE2.out, HBF.out⟩
          rw [results_cell_tmp rfl]
          simp [asAddr, Result.andThen, HL.out]
      · have hF : sfault 0 b = 2 := by rw [HSF.out, if_pos (.inl hk)]
        have HV := Lib.hid (And.intro (show sq 0 b = if sfault 0 b = 0 then squ (obody b) else 0 from rfl) (show sr 0 b = if sfault 0 b = 0 then srs (obody b) else zeros27 from rfl))
        have HE := Lib.hid (show Ending.returned (.tuple #[.agg (SV 0 zeros27).toArray, .int .i64 2]) = .returned (.tuple #[.agg (SV (sq 0 b) (sr 0 b)).toArray, .int .i64 (sfault 0 b)]) by rw [HV.out.1, HV.out.2, hF]; rfl)
        have hkn : ¬ (okind b).toNat = 1 := fun e => hk (UInt8.toNat_inj.1 (by rw [e]; rfl))
        have hk2 : (((okind b).toNat : Int) != 1) = true := bne_iff_ne.2 (by omega)
        clear hF hk hkn hf hr1 hc1
        obtain ⟨ht, hs, ho, hl⟩ := put56 (q := 0) (r := zeros27) (HS1.out) (by decide) (by decide)
        have hbf := below_setCells (Nat.le_refl w.heap.size) (SV 0 zeros27).toArray.toList 0 _ (HB1.out)
        have he := HE.out
        generalize hZ : SV 0 zeros27 = Z at ht hs ho hl hbf he
        have HBF := Lib.hid hbf
        have HL := Lib.hid hl
        have HT := Lib.hid (And.intro ht (And.intro hs ho))
        have HZ := Lib.hid hZ
        have HE2 := Lib.hid he
        clear hl ht hs ho hZ hbf he
        go_upto_region 7 with fail
        refine wp_region_lit ?_
        refine wpList_zero (op := ⟨some 36, _, _, _, _, _⟩) Z HZ.out rfl rfl ?_
        refine wpList_st (op := ⟨none, _, _, _, _, _⟩) rfl (.tmp 4) (.tmp 36) rfl w.heap.size Z.toArray (by rfl) (by rfl) HT.out.1 HT.out.2.1 HT.out.2.2 rfl ?_
        go_wp2
        refine bodyPost_ret (v := .tuple #[.agg Z.toArray, .int .i64 2]) ?_ rfl ⟨HE2.out, HBF.out⟩
        rw [results_cell_tmp rfl]
        simp [asAddr, Result.andThen, HL.out]
    · have HS1 := Lib.hid (HS0.out.below hb1 HS0.out.lt)
      have HB1 := Lib.hid (bel_call HB0.out hb1)
      have hF : sfault 0 b = fault 0 b := by unfold sfault; rw [if_neg (by decide), if_pos hf]
      have HV := Lib.hid (And.intro (show sq 0 b = if sfault 0 b = 0 then squ (obody b) else 0 from rfl) (show sr 0 b = if sfault 0 b = 0 then srs (obody b) else zeros27 from rfl))
      have HE := Lib.hid (show Ending.returned (.tuple #[.agg (SV 0 zeros27).toArray, .int .i64 (fault 0 b)]) = .returned (.tuple #[.agg (SV (sq 0 b) (sr 0 b)).toArray, .int .i64 (sfault 0 b)]) by rw [HV.out.1, HV.out.2, hF, if_neg hf, if_neg hf])
      have hq2 : ((fault 0 b : Int) != 0) = true := bne_iff_ne.2 (by omega)
      clear hF hf hb1 cO HV
      generalize fault 0 b = ft at *
      obtain ⟨ht, hs, ho, hl⟩ := put56 (q := 0) (r := zeros27) (HS1.out) (by decide) (by decide)
      have hbf := below_setCells (Nat.le_refl w.heap.size) (SV 0 zeros27).toArray.toList 0 _ (HB1.out)
      have he := HE.out
      generalize hZ : SV 0 zeros27 = Z at ht hs ho hl hbf he
      have HBF := Lib.hid hbf
      have HL := Lib.hid hl
      have HT := Lib.hid (And.intro ht (And.intro hs ho))
      have HZ := Lib.hid hZ
      have HE2 := Lib.hid he
      clear hl ht hs ho hZ hbf he
      go_upto_region 5 with fail
      refine wp_region_lit ?_
      refine wpList_zero (op := ⟨some 27, _, _, _, _, _⟩) Z HZ.out rfl rfl ?_
      refine wpList_mv (op := ⟨some 28, _, _, _, _, _⟩) rfl (.tmp 8) rfl ?_
      refine wpList_st (op := ⟨none, _, _, _, _, _⟩) rfl (.tmp 4) (.tmp 27) rfl w.heap.size Z.toArray (by rfl) (by rfl) HT.out.1 HT.out.2.1 HT.out.2.2 rfl ?_
      go_wp2
      refine bodyPost_ret (v := .tuple #[.agg Z.toArray, .int .i64 ft]) ?_ rfl ⟨HE2.out, HBF.out⟩
      rw [results_cell_tmp rfl]
      simp [asAddr, Result.andThen, HL.out]
  · refine (fun (h : ∀ W, Sup W w.heap.size 0 zeros27 → Below w.heap.size w W → Code.wp _ _ _ _ W) => h _ HN.out.1 HN.out.2) ?_
    intro W0 hS0 hB0
    have cO := open_any 1 A b c W0 (by decide) (hA.below hB0) hc hb (hT.below hT.pos hB0)
    have HS0 := Lib.hid hS0
    have HB0 := Lib.hid hB0
    clear hS0 hB0
    go_wp2_with fail
    refine cO.mono ?_
    rintro e W1 ⟨hb1, (⟨hf, v, rfl, hv⟩ | ⟨hf, rfl⟩)⟩
    · obtain ⟨A1, c1, rfl, hr1, hc1⟩ := own_list hv
      have HS1 := Lib.hid (HS0.out.below hb1 HS0.out.lt)
      have HB1 := Lib.hid (bel_call HB0.out hb1)
      have HSF := Lib.hid (show sfault 1 b = _ by unfold sfault; rw [if_neg (by decide), if_neg (by rw [hf]; decide)])
      clear hb1 hv cO
      by_cases hk : okind b = 1
      · by_cases hl : (obody b).length = 116
        · have cP := parse_any A1 (obody b) c1 W1 hr1 hl hc1
          have hk1 : ((okind b).toNat : Int) = 1 := by rw [hk]; rfl
          have hk2 : (((okind b).toNat : Int) != 1) = false := by rw [hk1]; rfl
          have hl2 : (((obody b).length : Int) != 116) = false := by rw [hl]; rfl
          have HH := Lib.hid hl
          have HK := Lib.hid hk
          rw [hl] at cP
          clear hr1 hc1 hk hf
          go_wp2_with fail
          refine cP.mono ?_
          rintro e W2 ⟨rfl, hb2⟩
          have HS2 := Lib.hid (HS1.out.below hb2 HS1.out.lt)
          have HB2 := Lib.hid (bel_call HB1.out hb2)
          clear hb2 cP hl hl2 hk1 hk2
          have hr27 : (srs (obody b)).length = 27 := nums_len _ _
          have hSN := sup_new W2 (squ (obody b)) (srs (obody b))
          have hBN : Below W2.heap.size W2 (W2.alloc (.cells (SV (squ (obody b)) (srs (obody b))).toArray 104)) := (Below.refl _ _).alloc (Nat.le_refl _) _
          have HSN := Lib.hid hSN
          have HBN := Lib.hid hBN
          have HS3 := Lib.hid (HS2.out.below hBN HS2.out.lt)
          have HB3 := Lib.hid (bel_call HB2.out hBN)
          clear hSN hBN
          go_upto_region 9 with (refine wpList_st_new (op := ⟨none, _, _, _, _, _⟩) rfl (.tmp 9) (.tmp 38) rfl W2 (squ (obody b)) (srs (obody b)) rfl rfl rfl hr27 rfl ?_)
          have HQ := Lib.hid (show sfault 1 b = if squ (obody b) % 2 ≠ 1 then 2 else 0 by rw [HSF.out, if_neg (by rw [HK.out, HH.out]; simp)])
          have hq0 := HSN.out.at0
          generalize W2.alloc (.cells (SV (squ (obody b)) (srs (obody b))).toArray 104) = W3 at *
          have hrg := HSN.out.range56
          have hsz2 : (Tryz.prog.info? 104).map (·.size) = some (SV (squ (obody b)) (srs (obody b))).length := by rw [size56, SV_len _ _ hr27]
          have HV := Lib.hid (And.intro (show sq 1 b = if sfault 1 b = 0 then squ (obody b) else 0 from rfl) (show sr 1 b = if sfault 1 b = 0 then srs (obody b) else zeros27 from rfl))
          by_cases hm : squ (obody b) % 2 = 1
          · have hF : sfault 1 b = 0 := by rw [HQ.out, if_neg (by rw [hm]; simp)]
            have hmi : (((squ (obody b) : Nat) : Int) % 2 != 1) = false := by
              have : ((squ (obody b) : Nat) : Int) % 2 = 1 := by omega
              rw [this]; rfl
            have HE := Lib.hid (show Ending.returned (.tuple #[.agg (SV (squ (obody b)) (srs (obody b))).toArray, .int .i64 0]) = .returned (.tuple #[.agg (SV (sq 1 b) (sr 1 b)).toArray, .int .i64 (sfault 1 b)]) by rw [HV.out.1, HV.out.2, hF]; rfl)
            clear hm hF
            obtain ⟨ht, hs, ho, hl⟩ := put56 (q := squ (obody b)) (r := srs (obody b)) (HS3.out) (by decide) hr27
            have hbf := below_setCells (Nat.le_refl w.heap.size) (SV (squ (obody b)) (srs (obody b))).toArray.toList 0 _ (HB3.out)
            have he := HE.out
            generalize hL : SV (squ (obody b)) (srs (obody b)) = L at ht hs ho hl hbf he hrg hsz2 ⊢
            have HBF := Lib.hid hbf
            have HL := Lib.hid hl
            have HT := Lib.hid (And.intro ht (And.intro hs ho))
            have HR := Lib.hid (And.intro hrg hsz2)
            have HE2 := Lib.hid he
            clear hl ht hs ho hL hbf he hrg hsz2
            go_upto_region 11 with fail
            refine wp_region_lit ?_
            refine wpList_load_mid (op := ⟨some 46, _, _, _, _, _⟩) rfl 104 (.tmp 9) rfl W2.heap.size 0 (by rfl) L _ HR.out.1 Tryz.underlying104 rfl HR.out.2 ?_
            refine wpList_st (op := ⟨none, _, _, _, _, _⟩) rfl (.tmp 4) (.tmp 46) rfl w.heap.size L.toArray (by rfl) (by rfl) HT.out.1 HT.out.2.1 HT.out.2.2 rfl ?_
            go_wp2
            refine bodyPost_ret (v := .tuple #[.agg L.toArray, .int .i64 0]) ?_ rfl ⟨HE2.out, HBF.out⟩
            rw [results_cell_tmp rfl]
            simp [asAddr, Result.andThen, HL.out]
          · have hF : sfault 1 b = 2 := by rw [HQ.out, if_pos hm]
            have hmi : (((squ (obody b) : Nat) : Int) % 2 != 1) = true := by
              have : ¬ ((squ (obody b) : Nat) : Int) % 2 = 1 := by omega
              exact bne_iff_ne.2 this
            have HE := Lib.hid (show Ending.returned (.tuple #[.agg (SV 0 zeros27).toArray, .int .i64 2]) = .returned (.tuple #[.agg (SV (sq 1 b) (sr 1 b)).toArray, .int .i64 (sfault 1 b)]) by rw [HV.out.1, HV.out.2, hF]; rfl)
            clear hm hF hrg hsz2
            obtain ⟨ht, hs, ho, hl⟩ := put56 (q := 0) (r := zeros27) (HS3.out) (by decide) (by decide)
            have hbf := below_setCells (Nat.le_refl w.heap.size) (SV 0 zeros27).toArray.toList 0 _ (HB3.out)
            have he := HE.out
            generalize hZ : SV 0 zeros27 = Z at ht hs ho hl hbf he
            have HBF := Lib.hid hbf
            have HL := Lib.hid hl
            have HT := Lib.hid (And.intro ht (And.intro hs ho))
            have HZ := Lib.hid hZ
            have HE2 := Lib.hid he
            clear hl ht hs ho hZ hbf he
            go_upto_region 10 with fail
            refine wp_region_lit ?_
            refine wpList_zero (op := ⟨some 45, _, _, _, _, _⟩) Z HZ.out rfl rfl ?_
            refine wpList_st (op := ⟨none, _, _, _, _, _⟩) rfl (.tmp 4) (.tmp 45) rfl w.heap.size Z.toArray (by rfl) (by rfl) HT.out.1 HT.out.2.1 HT.out.2.2 rfl ?_
            go_wp2
            refine bodyPost_ret (v := .tuple #[.agg Z.toArray, .int .i64 2]) ?_ rfl ⟨HE2.out, HBF.out⟩
            rw [results_cell_tmp rfl]
            simp [asAddr, Result.andThen, HL.out]
        · have hF : sfault 1 b = 2 := by rw [HSF.out, if_pos (.inr hl)]
          have HV := Lib.hid (And.intro (show sq 1 b = if sfault 1 b = 0 then squ (obody b) else 0 from rfl) (show sr 1 b = if sfault 1 b = 0 then srs (obody b) else zeros27 from rfl))
          have HE := Lib.hid (show Ending.returned (.tuple #[.agg (SV 0 zeros27).toArray, .int .i64 2]) = .returned (.tuple #[.agg (SV (sq 1 b) (sr 1 b)).toArray, .int .i64 (sfault 1 b)]) by rw [HV.out.1, HV.out.2, hF]; rfl)
          have hk1 : ((okind b).toNat : Int) = 1 := by rw [hk]; rfl
          have hk2 : (((okind b).toNat : Int) != 1) = false := by rw [hk1]; rfl
          have hl2 : (((obody b).length : Int) != 116) = true := bne_iff_ne.2 (by omega)
          clear hF hk hl hf hr1 hc1
          obtain ⟨ht, hs, ho, hl⟩ := put56 (q := 0) (r := zeros27) (HS1.out) (by decide) (by decide)
          have hbf := below_setCells (Nat.le_refl w.heap.size) (SV 0 zeros27).toArray.toList 0 _ (HB1.out)
          have he := HE.out
          generalize hZ : SV 0 zeros27 = Z at ht hs ho hl hbf he
          have HBF := Lib.hid hbf
          have HL := Lib.hid hl
          have HT := Lib.hid (And.intro ht (And.intro hs ho))
          have HZ := Lib.hid hZ
          have HE2 := Lib.hid he
          clear hl ht hs ho hZ hbf he
          go_upto_region 7 with fail
          refine wp_region_lit ?_
          refine wpList_zero (op := ⟨some 36, _, _, _, _, _⟩) Z HZ.out rfl rfl ?_
          refine wpList_st (op := ⟨none, _, _, _, _, _⟩) rfl (.tmp 4) (.tmp 36) rfl w.heap.size Z.toArray (by rfl) (by rfl) HT.out.1 HT.out.2.1 HT.out.2.2 rfl ?_
          go_wp2
          refine bodyPost_ret (v := .tuple #[.agg Z.toArray, .int .i64 2]) ?_ rfl ⟨HE2.out, HBF.out⟩
          rw [results_cell_tmp rfl]
          simp [asAddr, Result.andThen, HL.out]
      · have hF : sfault 1 b = 2 := by rw [HSF.out, if_pos (.inl hk)]
        have HV := Lib.hid (And.intro (show sq 1 b = if sfault 1 b = 0 then squ (obody b) else 0 from rfl) (show sr 1 b = if sfault 1 b = 0 then srs (obody b) else zeros27 from rfl))
        have HE := Lib.hid (show Ending.returned (.tuple #[.agg (SV 0 zeros27).toArray, .int .i64 2]) = .returned (.tuple #[.agg (SV (sq 1 b) (sr 1 b)).toArray, .int .i64 (sfault 1 b)]) by rw [HV.out.1, HV.out.2, hF]; rfl)
        have hkn : ¬ (okind b).toNat = 1 := fun e => hk (UInt8.toNat_inj.1 (by rw [e]; rfl))
        have hk2 : (((okind b).toNat : Int) != 1) = true := bne_iff_ne.2 (by omega)
        clear hF hk hkn hf hr1 hc1
        obtain ⟨ht, hs, ho, hl⟩ := put56 (q := 0) (r := zeros27) (HS1.out) (by decide) (by decide)
        have hbf := below_setCells (Nat.le_refl w.heap.size) (SV 0 zeros27).toArray.toList 0 _ (HB1.out)
        have he := HE.out
        generalize hZ : SV 0 zeros27 = Z at ht hs ho hl hbf he
        have HBF := Lib.hid hbf
        have HL := Lib.hid hl
        have HT := Lib.hid (And.intro ht (And.intro hs ho))
        have HZ := Lib.hid hZ
        have HE2 := Lib.hid he
        clear hl ht hs ho hZ hbf he
        go_upto_region 7 with fail
        refine wp_region_lit ?_
        refine wpList_zero (op := ⟨some 36, _, _, _, _, _⟩) Z HZ.out rfl rfl ?_
        refine wpList_st (op := ⟨none, _, _, _, _, _⟩) rfl (.tmp 4) (.tmp 36) rfl w.heap.size Z.toArray (by rfl) (by rfl) HT.out.1 HT.out.2.1 HT.out.2.2 rfl ?_
        go_wp2
        refine bodyPost_ret (v := .tuple #[.agg Z.toArray, .int .i64 2]) ?_ rfl ⟨HE2.out, HBF.out⟩
        rw [results_cell_tmp rfl]
        simp [asAddr, Result.andThen, HL.out]
    · have HS1 := Lib.hid (HS0.out.below hb1 HS0.out.lt)
      have HB1 := Lib.hid (bel_call HB0.out hb1)
      have hF : sfault 1 b = fault 1 b := by unfold sfault; rw [if_neg (by decide), if_pos hf]
      have HV := Lib.hid (And.intro (show sq 1 b = if sfault 1 b = 0 then squ (obody b) else 0 from rfl) (show sr 1 b = if sfault 1 b = 0 then srs (obody b) else zeros27 from rfl))
      have HE := Lib.hid (show Ending.returned (.tuple #[.agg (SV 0 zeros27).toArray, .int .i64 (fault 1 b)]) = .returned (.tuple #[.agg (SV (sq 1 b) (sr 1 b)).toArray, .int .i64 (sfault 1 b)]) by rw [HV.out.1, HV.out.2, hF, if_neg hf, if_neg hf])
      have hq2 : ((fault 1 b : Int) != 0) = true := bne_iff_ne.2 (by omega)
      clear hF hf hb1 cO HV
      generalize fault 1 b = ft at *
      obtain ⟨ht, hs, ho, hl⟩ := put56 (q := 0) (r := zeros27) (HS1.out) (by decide) (by decide)
      have hbf := below_setCells (Nat.le_refl w.heap.size) (SV 0 zeros27).toArray.toList 0 _ (HB1.out)
      have he := HE.out
      generalize hZ : SV 0 zeros27 = Z at ht hs ho hl hbf he
      have HBF := Lib.hid hbf
      have HL := Lib.hid hl
      have HT := Lib.hid (And.intro ht (And.intro hs ho))
      have HZ := Lib.hid hZ
      have HE2 := Lib.hid he
      clear hl ht hs ho hZ hbf he
      go_upto_region 5 with fail
      refine wp_region_lit ?_
      refine wpList_zero (op := ⟨some 27, _, _, _, _, _⟩) Z HZ.out rfl rfl ?_
      refine wpList_mv (op := ⟨some 28, _, _, _, _, _⟩) rfl (.tmp 8) rfl ?_
      refine wpList_st (op := ⟨none, _, _, _, _, _⟩) rfl (.tmp 4) (.tmp 27) rfl w.heap.size Z.toArray (by rfl) (by rfl) HT.out.1 HT.out.2.1 HT.out.2.2 rfl ?_
      go_wp2
      refine bodyPost_ret (v := .tuple #[.agg Z.toArray, .int .i64 ft]) ?_ rfl ⟨HE2.out, HBF.out⟩
      rw [results_cell_tmp rfl]
      simp [asAddr, Result.andThen, HL.out]
end Go.Proofs.YtagmldkcogidgaaGreatDoor
