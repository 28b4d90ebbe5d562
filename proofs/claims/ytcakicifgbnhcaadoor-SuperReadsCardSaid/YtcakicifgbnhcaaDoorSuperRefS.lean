/- The reference's Read of a super, at place 1; at any place. -/
import Derived.Test.YtcakicifgbnhcaaDoorSuperRefR
namespace Go.Proofs.YtcakicifgbnhcaaDoor
open Go.RowKit Pgp
open Crcp (cmore)

set_option maxRecDepth 20000 in
set_option maxHeartbeats 2000000 in
theorem refRead_1 (b : List UInt8) (w : World) (hb : b.length ≤ 1000) :
    Calls Tryd.prog 30 #[.int .i64 1, .string ⟨b.toArray⟩] w fun e w' => e = .returned (.tuple #[.agg (SV (sq 1 b) (sr 1 b)).toArray, .int .i64 (sfault 1 b)]) ∧ Below w.heap.size w w' := by
  have HN := Lib.hid (new56 w)
  go_enter Tryd.func30, Tryd.ntmps30
  go_upto_region 3 with fail
  · refine (fun (h : ∀ W, Sup W w.heap.size 0 zeros27 → Below w.heap.size w W → Code.wp _ _ _ _ W) => h _ HN.out.1 HN.out.2) ?_
    intro W0 hS0 hB0
    have cO := refOpen_any 1 b W0 (by decide) hb
    have HS0 := Lib.hid hS0
    have HB0 := Lib.hid hB0
    clear hS0 hB0
    by_cases hf : fault 1 b = 0
    · rw [rv, if_pos hf] at cO
      go_wp2_with fail
      refine cO.mono ?_
      rintro e W1 ⟨rfl, hb1⟩
      have HS1 := Lib.hid (HS0.out.below hb1 HS0.out.lt)
      have HB1 := Lib.hid (bel_call HB0.out hb1)
      have HSF := Lib.hid (show sfault 1 b = _ by unfold sfault; rw [if_neg (by decide), if_neg (by rw [hf]; decide)])
      clear hb1 cO
      have HV := Lib.hid (And.intro (show sq 1 b = if sfault 1 b = 0 then squ (obody b) else 0 from rfl) (show sr 1 b = if sfault 1 b = 0 then srs (obody b) else zeros27 from rfl))
      by_cases hk : okind b = 1
      · have hk1 : ((okind b).toNat : Int) = 1 := by rw [hk]; rfl
        have hk2 : (((okind b).toNat : Int) != 1) = false := by rw [hk1]; rfl
        by_cases hl : (obody b).length = 116
        · have hl2 : (((obody b).length : Int) != 116) = false := by rw [hl]; rfl
          go_upto_region 8 with fail
          have HL := Lib.hid hl
          generalize hll : obody b = l at *
          have s0 := cut4_0 l hl
          have s4 : ∀ W, (Instr.slice 9 (.string ⟨l.toArray⟩) (some (.int .i64 4)) (some (.int .i64 8)) none).run Tryd.prog W = .ok (.string ⟨((l.drop 4).take 4).toArray⟩) W := fun W => cut4 l 4 (by omega) W
          have s8 : ∀ W, (Instr.slice 9 (.string ⟨l.toArray⟩) (some (.int .i64 8)) (some (.int .i64 12)) none).run Tryd.prog W = .ok (.string ⟨((l.drop 8).take 4).toArray⟩) W := fun W => cut4 l 8 (by omega) W
          have s12 : ∀ W, (Instr.slice 9 (.string ⟨l.toArray⟩) (some (.int .i64 12)) (some (.int .i64 16)) none).run Tryd.prog W = .ok (.string ⟨((l.drop 12).take 4).toArray⟩) W := fun W => cut4 l 12 (by omega) W
          have s16 : ∀ W, (Instr.slice 9 (.string ⟨l.toArray⟩) (some (.int .i64 16)) (some (.int .i64 20)) none).run Tryd.prog W = .ok (.string ⟨((l.drop 16).take 4).toArray⟩) W := fun W => cut4 l 16 (by omega) W
          have HC := Lib.hid (show #[Value.int .u64 (IntKind.u64.wrap (IntKind.u64.wrap (IntKind.u64.wrap (num (l.take 4) : Int) * 4294967296) + IntKind.u64.wrap (num ((l.drop 4).take 4) : Int))), .int .u32 (num ((l.drop 8).take 4) : Int), .int .u32 (num ((l.drop 12).take 4) : Int), .int .u32 (num ((l.drop 16).take 4) : Int), .int .u32 0, .int .u32 0, .int .u32 0, .int .u32 0, .int .u32 0, .int .u32 0, .int .u32 0, .int .u32 0, .int .u32 0, .int .u32 0, .int .u32 0, .int .u32 0, .int .u32 0, .int .u32 0, .int .u32 0, .int .u32 0, .int .u32 0, .int .u32 0, .int .u32 0, .int .u32 0, .int .u32 0, .int .u32 0, .int .u32 0, .int .u32 0] = (SV (squ l) (rk l 3)).toArray by
            rw [wrapq l]
            have hN : nums 3 (l.drop 8) = [num ((l.drop 8).take 4), num ((l.drop 12).take 4), num ((l.drop 16).take 4)] := by simp [nums, List.drop_drop]
            rw [rk, hN]; rfl)
          have HS2 := Lib.hid (sup_new W1.drew (squ l) (rk l 3))
          have hBN : Below W1.drew.heap.size W1.drew (W1.drew.alloc (.cells (SV (squ l) (rk l 3)).toArray 56)) := (Below.refl _ _).alloc (Nat.le_refl _) _
          have HB2 := Lib.hid (bel_call (bel_drew HB1.out) hBN)
          have HR2 := Lib.hid ((show Sup W1.drew w.heap.size 0 zeros27 from HS1.out).below hBN HS1.out.lt)
          have HLT := Lib.hid (show w.heap.size < W1.heap.size from HS1.out.lt)
          have HK := Lib.hid hk
          clear hl hl2 hk1 hk2 hk hf hBN
          go_cut [9] from 39 to 58 (fun s wx => s = .pointer (some ⟨W1.heap.size, 0, none⟩) ∧ Sup wx W1.heap.size (squ l) (rk l 3) ∧ Sup wx w.heap.size 0 zeros27 ∧ Below w.heap.size w wx)
          case first =>
            refine wp_region_held_drew (S := fun _ => True) (by kernel_rfl) trivial (fun _ => ?_)
            refine wpAnyH_take (i := 0) (oi := ⟨some 39, _, _, _, _, _⟩) (v := ?v27) rfl (by kernel_rfl) (by kernel_rfl) (by kernel_rfl) (fun _ _ _ h => h) (Or.inl ⟨by rfl, ?y27⟩) trivial ?r27
            case y27 =>
              intro W _
              go_simp
              with_reducible rfl
            case r27 =>
            simp only [Act.put, List.setIfInBounds_toArray, List.set_cons_zero, List.set_cons_succ]
            refine wpAnyH_take (i := 1) (oi := ⟨some 40, _, _, _, _, _⟩) (v := ?v28) rfl (by kernel_rfl) (by kernel_rfl) (by kernel_rfl) (fun _ _ _ h => h) (Or.inl ⟨by rfl, ?y28⟩) trivial ?r28
            case y28 =>
              intro W _
              go_simp
              with_reducible rfl
            case r28 =>
            simp only [Act.put, List.setIfInBounds_toArray, List.set_cons_zero, List.set_cons_succ]
            refine still_take (i := 2) (o := ⟨some 41, _, _, _, _, _⟩) (v := .int .u32 (num (l.take 4) : Nat)) rfl (by kernel_rfl) (by kernel_rfl) (by kernel_rfl) (fun _ _ _ h => h) ⟨by rfl, fun W => ⟨41, #[.string ⟨(l.take 4).toArray⟩], ?_, number4 l 0 W⟩⟩ trivial ?_
            · go_simp
            simp only [Act.put, List.setIfInBounds_toArray, List.set_cons_zero, List.set_cons_succ]
            refine wpAnyH_take (i := 3) (oi := ⟨some 42, _, _, _, _, _⟩) (v := ?v29) rfl (by kernel_rfl) (by kernel_rfl) (by kernel_rfl) (fun _ _ _ h => h) (Or.inl ⟨by rfl, ?y29⟩) trivial ?r29
            case y29 =>
              intro W _
              go_simp
              with_reducible rfl
            case r29 =>
            simp only [Act.put, List.setIfInBounds_toArray, List.set_cons_zero, List.set_cons_succ]
            refine wpAnyH_take (i := 4) (oi := ⟨some 43, _, _, _, _, _⟩) (v := ?v30) rfl (by kernel_rfl) (by kernel_rfl) (by kernel_rfl) (fun _ _ _ h => h) (Or.inl ⟨by rfl, ?y30⟩) trivial ?r30
            case y30 =>
              intro W _
              go_simp
              with_reducible rfl
            case r30 =>
            simp only [Act.put, List.setIfInBounds_toArray, List.set_cons_zero, List.set_cons_succ]
            refine wpAnyH_take (i := 5) (oi := ⟨some 44, _, _, _, _, _⟩) (v := ?v31) rfl (by kernel_rfl) (by kernel_rfl) (by kernel_rfl) (fun _ _ _ h => h) (Or.inl ⟨by rfl, ?y31⟩) trivial ?r31
            case y31 =>
              intro W _
              go_simp
              with_reducible rfl
            case r31 =>
            simp only [Act.put, List.setIfInBounds_toArray, List.set_cons_zero, List.set_cons_succ]
            refine wpAnyH_take (i := 6) (oi := ⟨some 45, _, _, _, _, _⟩) (v := ?v32) rfl (by kernel_rfl) (by kernel_rfl) (by kernel_rfl) (fun _ _ _ h => h) (Or.inl ⟨by rfl, ?y32⟩) trivial ?r32
            case y32 =>
              intro W _
              go_simp
              with_reducible rfl
            case r32 =>
            simp only [Act.put, List.setIfInBounds_toArray, List.set_cons_zero, List.set_cons_succ]
            refine still_take (i := 7) (o := ⟨some 46, _, _, _, _, _⟩) (v := .int .u32 (num ((l.drop 4).take 4) : Nat)) rfl (by kernel_rfl) (by kernel_rfl) (by kernel_rfl) (fun _ _ _ h => h) ⟨by rfl, fun W => ⟨41, #[.string ⟨((l.drop 4).take 4).toArray⟩], ?_, number4 l 4 W⟩⟩ trivial ?_
            · go_simp
            simp only [Act.put, List.setIfInBounds_toArray, List.set_cons_zero, List.set_cons_succ]
            refine wpAnyH_take (i := 8) (oi := ⟨some 47, _, _, _, _, _⟩) (v := ?v33) rfl (by kernel_rfl) (by kernel_rfl) (by kernel_rfl) (fun _ _ _ h => h) (Or.inl ⟨by rfl, ?y33⟩) trivial ?r33
            case y33 =>
              intro W _
              go_simp
              with_reducible rfl
            case r33 =>
            simp only [Act.put, List.setIfInBounds_toArray, List.set_cons_zero, List.set_cons_succ]
            refine wpAnyH_take (i := 9) (oi := ⟨some 48, _, _, _, _, _⟩) (v := ?v34) rfl (by kernel_rfl) (by kernel_rfl) (by kernel_rfl) (fun _ _ _ h => h) (Or.inl ⟨by rfl, ?y34⟩) trivial ?r34
            case y34 =>
              intro W _
              go_simp
              with_reducible rfl
            case r34 =>
            simp only [Act.put, List.setIfInBounds_toArray, List.set_cons_zero, List.set_cons_succ]
            refine wpAnyH_take (i := 10) (oi := ⟨some 49, _, _, _, _, _⟩) (v := ?v35) rfl (by kernel_rfl) (by kernel_rfl) (by kernel_rfl) (fun _ _ _ h => h) (Or.inl ⟨by rfl, ?y35⟩) trivial ?r35
            case y35 =>
              intro W _
              go_simp
              with_reducible rfl
            case r35 =>
            simp only [Act.put, List.setIfInBounds_toArray, List.set_cons_zero, List.set_cons_succ]
            refine wpAnyH_take (i := 11) (oi := ⟨some 50, _, _, _, _, _⟩) (v := ?v36) rfl (by kernel_rfl) (by kernel_rfl) (by kernel_rfl) (fun _ _ _ h => h) (Or.inl ⟨by rfl, ?y36⟩) trivial ?r36
            case y36 =>
              intro W _
              go_simp
              with_reducible rfl
            case r36 =>
            simp only [Act.put, List.setIfInBounds_toArray, List.set_cons_zero, List.set_cons_succ]
            refine still_take (i := 12) (o := ⟨some 51, _, _, _, _, _⟩) (v := .int .u32 (num ((l.drop 8).take 4) : Nat)) rfl (by kernel_rfl) (by kernel_rfl) (by kernel_rfl) (fun _ _ _ h => h) ⟨by rfl, fun W => ⟨41, #[.string ⟨((l.drop 8).take 4).toArray⟩], ?_, number4 l 8 W⟩⟩ trivial ?_
            · go_simp
            simp only [Act.put, List.setIfInBounds_toArray, List.set_cons_zero, List.set_cons_succ]
            refine wpAnyH_take (i := 13) (oi := ⟨some 52, _, _, _, _, _⟩) (v := ?v37) rfl (by kernel_rfl) (by kernel_rfl) (by kernel_rfl) (fun _ _ _ h => h) (Or.inl ⟨by rfl, ?y37⟩) trivial ?r37
            case y37 =>
              intro W _
              go_simp
              with_reducible rfl
            case r37 =>
            simp only [Act.put, List.setIfInBounds_toArray, List.set_cons_zero, List.set_cons_succ]
            refine wpAnyH_take (i := 14) (oi := ⟨some 53, _, _, _, _, _⟩) (v := ?v38) rfl (by kernel_rfl) (by kernel_rfl) (by kernel_rfl) (fun _ _ _ h => h) (Or.inl ⟨by rfl, ?y38⟩) trivial ?r38
            case y38 =>
              intro W _
              go_simp
              with_reducible rfl
            case r38 =>
            simp only [Act.put, List.setIfInBounds_toArray, List.set_cons_zero, List.set_cons_succ]
            refine still_take (i := 15) (o := ⟨some 54, _, _, _, _, _⟩) (v := .int .u32 (num ((l.drop 12).take 4) : Nat)) rfl (by kernel_rfl) (by kernel_rfl) (by kernel_rfl) (fun _ _ _ h => h) ⟨by rfl, fun W => ⟨41, #[.string ⟨((l.drop 12).take 4).toArray⟩], ?_, number4 l 12 W⟩⟩ trivial ?_
            · go_simp
            simp only [Act.put, List.setIfInBounds_toArray, List.set_cons_zero, List.set_cons_succ]
            refine wpAnyH_take (i := 16) (oi := ⟨some 55, _, _, _, _, _⟩) (v := ?v39) rfl (by kernel_rfl) (by kernel_rfl) (by kernel_rfl) (fun _ _ _ h => h) (Or.inl ⟨by rfl, ?y39⟩) trivial ?r39
            case y39 =>
              intro W _
              go_simp
              with_reducible rfl
            case r39 =>
            simp only [Act.put, List.setIfInBounds_toArray, List.set_cons_zero, List.set_cons_succ]
            refine wpAnyH_take (i := 17) (oi := ⟨some 56, _, _, _, _, _⟩) (v := ?v40) rfl (by kernel_rfl) (by kernel_rfl) (by kernel_rfl) (fun _ _ _ h => h) (Or.inl ⟨by rfl, ?y40⟩) trivial ?r40
            case y40 =>
              intro W _
              go_simp
              with_reducible rfl
            case r40 =>
            simp only [Act.put, List.setIfInBounds_toArray, List.set_cons_zero, List.set_cons_succ]
            refine still_take (i := 18) (o := ⟨some 57, _, _, _, _, _⟩) (v := .int .u32 (num ((l.drop 16).take 4) : Nat)) rfl (by kernel_rfl) (by kernel_rfl) (by kernel_rfl) (fun _ _ _ h => h) ⟨by rfl, fun W => ⟨41, #[.string ⟨((l.drop 16).take 4).toArray⟩], ?_, number4 l 16 W⟩⟩ trivial ?_
            · go_simp
            simp only [Act.put, List.setIfInBounds_toArray, List.set_cons_zero, List.set_cons_succ]
            refine wpAnyH_take (i := 19) (oi := ⟨some 58, _, _, _, _, _⟩) (v := .agg (SV (squ l) (rk l 3)).toArray) rfl (by kernel_rfl) (by kernel_rfl) (by kernel_rfl) (fun _ _ _ h => h) (Or.inl ⟨by rfl, fun W _ => ?_⟩) trivial ?_
            · exact exec_sup 48 51 54 57 rfl _ _ _ _ (by rfl) (by rfl) (by rfl) (by rfl) _ HC.out W
            simp only [Act.put, List.setIfInBounds_toArray, List.set_cons_zero, List.set_cons_succ]
            refine wpAnyH_ready (rs := [20]) (by kernel_rfl) (by simp) ?_
            refine AllReadyH.cons (o := ⟨some 9, _, _, _, _, _⟩) rfl (fun K hK => ?_) AllReadyH.nil
            rw [if_pos (by rfl)]
            go_simp
            refine hK.out _ _ trivial (fun _ => ?_)
            clear hK K
            refine wpAnyH_ready (rs := [21]) (by kernel_rfl) (by simp) ?_
            refine AllReadyH.cons (o := ⟨none, _, _, _, _, _⟩) rfl (fun K hK => ?_) AllReadyH.nil
            rw [if_pos (by rfl)]
            refine wp_st_new (.tmp 9) (.tmp 58) rfl W1.drew (squ l) (rk l 3) rfl rfl rfl (rk_len l 3 (by decide)) ?_
            refine hK.out _ _ trivial (fun _ => ?_)
            clear hK K
            refine wpAnyH_done (by kernel_rfl) ?_ _
            go_wp2
            go_meet
            exact ⟨rfl, HS2.out, HR2.out, HB2.out⟩
          case rest =>
            obtain ⟨rfl, hS, hR, hB⟩ := hcut
            have HS := Lib.hid hS
            have HR := Lib.hid hR
            have HB := Lib.hid hB
            clear hS hR hB s0 s4 s8 s12 s16 HC HS2 HB2 HR2
            generalize W1.heap.size = T at *
            go_wp2_with fail
            go_loopw [10, 11] (fun i v wr => ∃ k : Nat, k ≤ 8 ∧ i = .int .i64 k ∧ Sup wr T (squ l) (rk l (3 + 3 * k)) ∧ Sup wr w.heap.size 0 zeros27 ∧ Below w.heap.size w wr) (fun i _ _ => 8 - (intOf i).toNat)
            case atStart => exact ⟨0, by omega, rfl, HS.out, HR.out, HB.out⟩
            case round =>
              obtain ⟨k, hk, rfl, hS, hR, hB⟩ := hrel
              have HSk := Lib.hid hS
              have HRk := Lib.hid hR
              have HBk := Lib.hid hB
              clear hS hR hB
              by_cases hlt : k < 8
              · have hk0 : (0 : Int) ≤ (k : Int) := by omega
                have hk8 : (k : Int) < 8 := by omega
                have hl := HL.out
                have w4 := wrap_small (20 + 12 * (k : Int) + 4) (by omega) (by omega)
                have w8 := wrap_small (20 + 12 * (k : Int) + 8) (by omega) (by omega)
                have w12 := wrap_small (20 + 12 * (k : Int) + 12) (by omega) (by omega)
                go_wp2_with fail
                refine wp_region_held_drew (S := fun _ => True) (by kernel_rfl) trivial (fun _ => ?_)
                refine wpAnyH_take (i := 0) (oi := ⟨some 66, _, _, _, _, _⟩) (v := ?v41) rfl (by kernel_rfl) (by kernel_rfl) (by kernel_rfl) (fun _ _ _ h => h) (Or.inl ⟨by rfl, ?y41⟩) trivial ?r41
                case y41 =>
                  intro W _
                  go_simp
                  with_reducible rfl
                case r41 =>
                simp only [Act.put, List.setIfInBounds_toArray, List.set_cons_zero, List.set_cons_succ]
                refine wpAnyH_take (i := 1) (oi := ⟨some 67, _, _, _, _, _⟩) (v := ?v42) rfl (by kernel_rfl) (by kernel_rfl) (by kernel_rfl) (fun _ _ _ h => h) (Or.inl ⟨by rfl, ?y42⟩) trivial ?r42
                case y42 =>
                  intro W _
                  go_simp
                  with_reducible rfl
                case r42 =>
                simp only [Act.put, List.setIfInBounds_toArray, List.set_cons_zero, List.set_cons_succ]
                refine wpAnyH_take (i := 2) (oi := ⟨some 68, _, _, _, _, _⟩) (v := ?v43) rfl (by kernel_rfl) (by kernel_rfl) (by kernel_rfl) (fun _ _ _ h => h) (Or.inl ⟨by rfl, ?y43⟩) trivial ?r43
                case y43 =>
                  intro W _
                  go_simp
                  with_reducible rfl
                case r43 =>
                simp only [Act.put, List.setIfInBounds_toArray, List.set_cons_zero, List.set_cons_succ]
                refine wpAnyH_take (i := 3) (oi := ⟨some 69, _, _, _, _, _⟩) (v := ?v44) rfl (by kernel_rfl) (by kernel_rfl) (by kernel_rfl) (fun _ _ _ h => h) (Or.inl ⟨by rfl, ?y44⟩) trivial ?r44
                case y44 =>
                  intro W _
                  go_simp
                  with_reducible rfl
                case r44 =>
                simp only [Act.put, List.setIfInBounds_toArray, List.set_cons_zero, List.set_cons_succ]
                refine wpAnyH_take (i := 4) (oi := ⟨some 70, _, _, _, _, _⟩) (v := .int .i64 (20 + 12 * (k : Int) + 4)) rfl (by kernel_rfl) (by kernel_rfl) (by kernel_rfl) (fun _ _ _ h => h) (Or.inl ⟨by rfl, fun W _ => ?_⟩) trivial ?_
                · go_simp
                simp only [Act.put, List.setIfInBounds_toArray, List.set_cons_zero, List.set_cons_succ]
                refine wpAnyH_take (i := 5) (oi := ⟨some 71, _, _, _, _, _⟩) (v := .string ⟨((l.drop (20 + 12 * k)).take 4).toArray⟩) rfl (by kernel_rfl) (by kernel_rfl) (by kernel_rfl) (fun _ _ _ h => h) (Or.inl ⟨by rfl, fun W _ => ?_⟩) trivial ?_
                · (have h := cut4 l (20 + 12 * k) (by omega) W; rw [show ((20 + 12 * k : Nat) : Int) = 20 + 12 * (k : Int) by omega] at h; go_simp)
                simp only [Act.put, List.setIfInBounds_toArray, List.set_cons_zero, List.set_cons_succ]
                refine still_take (i := 6) (o := ⟨some 72, _, _, _, _, _⟩) (v := .int .u32 (num ((l.drop (20 + 12 * k)).take 4) : Nat)) rfl (by kernel_rfl) (by kernel_rfl) (by kernel_rfl) (fun _ _ _ h => h) ⟨by rfl, fun W => ⟨41, #[.string ⟨((l.drop (20 + 12 * k)).take 4).toArray⟩], ?_, number4 l (20 + 12 * k) W⟩⟩ trivial ?_
                · go_simp
                simp only [Act.put, List.setIfInBounds_toArray, List.set_cons_zero, List.set_cons_succ]
                refine wpAnyH_take (i := 7) (oi := ⟨some 73, _, _, _, _, _⟩) (v := ?v45) rfl (by kernel_rfl) (by kernel_rfl) (by kernel_rfl) (fun _ _ _ h => h) (Or.inl ⟨by rfl, ?y45⟩) trivial ?r45
                case y45 =>
                  intro W _
                  go_simp
                  with_reducible rfl
                case r45 =>
                simp only [Act.put, List.setIfInBounds_toArray, List.set_cons_zero, List.set_cons_succ]
                refine wpAnyH_take (i := 8) (oi := ⟨some 74, _, _, _, _, _⟩) (v := ?v46) rfl (by kernel_rfl) (by kernel_rfl) (by kernel_rfl) (fun _ _ _ h => h) (Or.inl ⟨by rfl, ?y46⟩) trivial ?r46
                case y46 =>
                  intro W _
                  go_simp
                  with_reducible rfl
                case r46 =>
                simp only [Act.put, List.setIfInBounds_toArray, List.set_cons_zero, List.set_cons_succ]
                refine wpAnyH_take (i := 9) (oi := ⟨some 75, _, _, _, _, _⟩) (v := .int .i64 (20 + 12 * (k : Int) + 4)) rfl (by kernel_rfl) (by kernel_rfl) (by kernel_rfl) (fun _ _ _ h => h) (Or.inl ⟨by rfl, fun W _ => ?_⟩) trivial ?_
                · go_simp
                simp only [Act.put, List.setIfInBounds_toArray, List.set_cons_zero, List.set_cons_succ]
                refine wpAnyH_take (i := 10) (oi := ⟨some 76, _, _, _, _, _⟩) (v := ?v47) rfl (by kernel_rfl) (by kernel_rfl) (by kernel_rfl) (fun _ _ _ h => h) (Or.inl ⟨by rfl, ?y47⟩) trivial ?r47
                case y47 =>
                  intro W _
                  go_simp
                  with_reducible rfl
                case r47 =>
                simp only [Act.put, List.setIfInBounds_toArray, List.set_cons_zero, List.set_cons_succ]
                refine wpAnyH_take (i := 11) (oi := ⟨some 77, _, _, _, _, _⟩) (v := .int .i64 (20 + 12 * (k : Int) + 8)) rfl (by kernel_rfl) (by kernel_rfl) (by kernel_rfl) (fun _ _ _ h => h) (Or.inl ⟨by rfl, fun W _ => ?_⟩) trivial ?_
                · go_simp
                simp only [Act.put, List.setIfInBounds_toArray, List.set_cons_zero, List.set_cons_succ]
                refine wpAnyH_take (i := 12) (oi := ⟨some 78, _, _, _, _, _⟩) (v := .string ⟨((l.drop (20 + 12 * k + 4)).take 4).toArray⟩) rfl (by kernel_rfl) (by kernel_rfl) (by kernel_rfl) (fun _ _ _ h => h) (Or.inl ⟨by rfl, fun W _ => ?_⟩) trivial ?_
                · (have h := cut4 l (20 + 12 * k + 4) (by omega) W; rw [show ((20 + 12 * k + 4 : Nat) : Int) = 20 + 12 * (k : Int) + 4 by omega] at h; rw [show 20 + 12 * (k : Int) + 4 + 4 = 20 + 12 * (k : Int) + 8 by omega] at h; go_simp)
                simp only [Act.put, List.setIfInBounds_toArray, List.set_cons_zero, List.set_cons_succ]
                refine still_take (i := 13) (o := ⟨some 79, _, _, _, _, _⟩) (v := .int .u32 (num ((l.drop (20 + 12 * k + 4)).take 4) : Nat)) rfl (by kernel_rfl) (by kernel_rfl) (by kernel_rfl) (fun _ _ _ h => h) ⟨by rfl, fun W => ⟨41, #[.string ⟨((l.drop (20 + 12 * k + 4)).take 4).toArray⟩], ?_, number4 l (20 + 12 * k + 4) W⟩⟩ trivial ?_
                · go_simp
                simp only [Act.put, List.setIfInBounds_toArray, List.set_cons_zero, List.set_cons_succ]
                refine wpAnyH_take (i := 14) (oi := ⟨some 80, _, _, _, _, _⟩) (v := ?v48) rfl (by kernel_rfl) (by kernel_rfl) (by kernel_rfl) (fun _ _ _ h => h) (Or.inl ⟨by rfl, ?y48⟩) trivial ?r48
                case y48 =>
                  intro W _
                  go_simp
                  with_reducible rfl
                case r48 =>
                simp only [Act.put, List.setIfInBounds_toArray, List.set_cons_zero, List.set_cons_succ]
                refine wpAnyH_take (i := 15) (oi := ⟨some 81, _, _, _, _, _⟩) (v := ?v49) rfl (by kernel_rfl) (by kernel_rfl) (by kernel_rfl) (fun _ _ _ h => h) (Or.inl ⟨by rfl, ?y49⟩) trivial ?r49
                case y49 =>
                  intro W _
                  go_simp
                  with_reducible rfl
                case r49 =>
                simp only [Act.put, List.setIfInBounds_toArray, List.set_cons_zero, List.set_cons_succ]
                refine wpAnyH_take (i := 16) (oi := ⟨some 82, _, _, _, _, _⟩) (v := .int .i64 (20 + 12 * (k : Int) + 8)) rfl (by kernel_rfl) (by kernel_rfl) (by kernel_rfl) (fun _ _ _ h => h) (Or.inl ⟨by rfl, fun W _ => ?_⟩) trivial ?_
                · go_simp
                simp only [Act.put, List.setIfInBounds_toArray, List.set_cons_zero, List.set_cons_succ]
                refine wpAnyH_take (i := 17) (oi := ⟨some 83, _, _, _, _, _⟩) (v := ?v50) rfl (by kernel_rfl) (by kernel_rfl) (by kernel_rfl) (fun _ _ _ h => h) (Or.inl ⟨by rfl, ?y50⟩) trivial ?r50
                case y50 =>
                  intro W _
                  go_simp
                  with_reducible rfl
                case r50 =>
                simp only [Act.put, List.setIfInBounds_toArray, List.set_cons_zero, List.set_cons_succ]
                refine wpAnyH_take (i := 18) (oi := ⟨some 84, _, _, _, _, _⟩) (v := .int .i64 (20 + 12 * (k : Int) + 12)) rfl (by kernel_rfl) (by kernel_rfl) (by kernel_rfl) (fun _ _ _ h => h) (Or.inl ⟨by rfl, fun W _ => ?_⟩) trivial ?_
                · go_simp
                simp only [Act.put, List.setIfInBounds_toArray, List.set_cons_zero, List.set_cons_succ]
                refine wpAnyH_take (i := 19) (oi := ⟨some 85, _, _, _, _, _⟩) (v := .string ⟨((l.drop (20 + 12 * k + 8)).take 4).toArray⟩) rfl (by kernel_rfl) (by kernel_rfl) (by kernel_rfl) (fun _ _ _ h => h) (Or.inl ⟨by rfl, fun W _ => ?_⟩) trivial ?_
                · (have h := cut4 l (20 + 12 * k + 8) (by omega) W; rw [show ((20 + 12 * k + 8 : Nat) : Int) = 20 + 12 * (k : Int) + 8 by omega] at h; rw [show 20 + 12 * (k : Int) + 8 + 4 = 20 + 12 * (k : Int) + 12 by omega] at h; go_simp)
                simp only [Act.put, List.setIfInBounds_toArray, List.set_cons_zero, List.set_cons_succ]
                refine still_take (i := 20) (o := ⟨some 86, _, _, _, _, _⟩) (v := .int .u32 (num ((l.drop (20 + 12 * k + 8)).take 4) : Nat)) rfl (by kernel_rfl) (by kernel_rfl) (by kernel_rfl) (fun _ _ _ h => h) ⟨by rfl, fun W => ⟨41, #[.string ⟨((l.drop (20 + 12 * k + 8)).take 4).toArray⟩], ?_, number4 l (20 + 12 * k + 8) W⟩⟩ trivial ?_
                · go_simp
                simp only [Act.put, List.setIfInBounds_toArray, List.set_cons_zero, List.set_cons_succ]
                refine wpAnyH_take (i := 21) (oi := ⟨some 87, _, _, _, _, _⟩) (v := ?v51) rfl (by kernel_rfl) (by kernel_rfl) (by kernel_rfl) (fun _ _ _ h => h) (Or.inl ⟨by rfl, ?y51⟩) trivial ?r51
                case y51 =>
                  intro W _
                  go_simp
                  with_reducible rfl
                case r51 =>
                simp only [Act.put, List.setIfInBounds_toArray, List.set_cons_zero, List.set_cons_succ]
                refine wpAnyH_take (i := 22) (oi := ⟨some 88, _, _, _, _, _⟩) (v := ?v52) rfl (by kernel_rfl) (by kernel_rfl) (by kernel_rfl) (fun _ _ _ h => h) (Or.inl ⟨by rfl, ?y52⟩) trivial ?r52
                case y52 =>
                  intro W _
                  go_simp
                  with_reducible rfl
                case r52 =>
                simp only [Act.put, List.setIfInBounds_toArray, List.set_cons_zero, List.set_cons_succ]
                refine wpAnyH_take (i := 23) (oi := ⟨some 89, _, _, _, _, _⟩) (v := .pointer (some ⟨T, 4 + k * 3, none⟩)) rfl (by kernel_rfl) (by kernel_rfl) (by kernel_rfl) (fun _ _ _ h => h) (Or.inl ⟨by rfl, fun W _ => ?_⟩) trivial ?_
                · go_simp
                simp only [Act.put, List.setIfInBounds_toArray, List.set_cons_zero, List.set_cons_succ]
                refine wpAnyH_ready (rs := [24]) (by kernel_rfl) (by simp) ?_
                refine AllReadyH.cons (o := ⟨none, _, _, _, _, _⟩) rfl (fun K hK => ?_) AllReadyH.nil
                rw [if_pos (by rfl)]
                refine wp_store_mid 53 (.tmp 89) (.tmp 87) rfl T (4 + k * 3) #[.int .u32 (num ((l.drop (20 + 12 * k)).take 4) : Nat), .int .u32 (num ((l.drop (20 + 12 * k + 4)).take 4) : Nat), .int .u32 (num ((l.drop (20 + 12 * k + 8)).take 4) : Nat)] rfl rfl (HSk.out.there3 (4 + k * 3) (rk_len l _ (by omega)) (by omega)) size53 (by simp [Value.oneCell']) ?_
                refine hK.out _ _ trivial (fun _ => ?_)
                clear hK K
                refine wpAnyH_done (by kernel_rfl) ?_ _
                have hS9 := (show Sup wr.drew T (squ l) (rk l (3 + 3 * k)) from HSk.out).store3 (3 + 3 * k) (num ((l.drop (20 + 12 * k)).take 4)) (num ((l.drop (20 + 12 * k + 4)).take 4)) (num ((l.drop (20 + 12 * k + 8)).take 4))
                rw [rk3 l k hlt, show 3 + 3 * k + 1 = 4 + k * 3 by omega] at hS9
                have HS9 := Lib.hid hS9
                have HR9 := Lib.hid ((show Sup wr.drew w.heap.size 0 zeros27 from HRk.out).apart3 (Nat.ne_of_lt HLT.out) (4 + k * 3) (.int .u32 (num ((l.drop (20 + 12 * k)).take 4) : Nat)) (.int .u32 (num ((l.drop (20 + 12 * k + 4)).take 4) : Nat)) (.int .u32 (num ((l.drop (20 + 12 * k + 8)).take 4) : Nat)))
                have HB9 := Lib.hid (below_setCells (Nat.le_of_lt HLT.out) [.int .u32 (num ((l.drop (20 + 12 * k)).take 4) : Nat), .int .u32 (num ((l.drop (20 + 12 * k + 4)).take 4) : Nat), .int .u32 (num ((l.drop (20 + 12 * k + 8)).take 4) : Nat)] (4 + k * 3) _ (bel_drew HBk.out))
                clear hS9 w4 w8 w12
                generalize wr.drew.setCells T (4 + k * 3) [.int .u32 (num ((l.drop (20 + 12 * k)).take 4) : Nat), .int .u32 (num ((l.drop (20 + 12 * k + 4)).take 4) : Nat), .int .u32 (num ((l.drop (20 + 12 * k + 8)).take 4) : Nat)] = wz at *
                go_wp2
                go_roundw
                case rel => exact ⟨k + 1, by omega, by go_num, HS9.out, HR9.out, HB9.out⟩
                case measure => simp [intOf]; omega
              · obtain rfl : k = 8 := by omega
                have hr27 : (srs l).length = 27 := nums_len _ _
                have HSN := Lib.hid (show Sup wr T (squ l) (srs l) from by rw [← rk_all]; exact HSk.out)
                have HQ := Lib.hid (show sfault 1 b = if squ l % 2 ≠ 1 then 2 else 0 by rw [HSF.out, if_neg (by rw [HK.out, HL.out]; simp)])
                have hq0 := HSN.out.at0
                have hrg := HSN.out.range56
                have hsz2 : (Tryd.prog.info? 56).map (·.size) = some (SV (squ l) (srs l)).length := by rw [size56, SV_len _ _ hr27]
                clear HSk
                by_cases hm : squ l % 2 = 1
                · have hF : sfault 1 b = 0 := by rw [HQ.out, if_neg (by rw [hm]; simp)]
                  have hmi : (((squ l : Nat) : Int) % 2 != 1) = false := by
                    have : ((squ l : Nat) : Int) % 2 = 1 := by omega
                    rw [this]; rfl
                  have HE := Lib.hid (show Ending.returned (.tuple #[.agg (SV (squ l) (srs l)).toArray, .int .i64 0]) = .returned (.tuple #[.agg (SV (sq 1 b) (sr 1 b)).toArray, .int .i64 (sfault 1 b)]) by rw [HV.out.1, HV.out.2, hF]; rfl)
                  clear hm hF
                  obtain ⟨ht, hs, ho, hl⟩ := put56 (q := squ l) (r := srs l) (HRk.out) (by decide) hr27
                  have hbf := below_setCells (Nat.le_refl w.heap.size) (SV (squ l) (srs l)).toArray.toList 0 _ (HBk.out)
                  have he := HE.out
                  generalize hL : SV (squ l) (srs l) = L at ht hs ho hl hbf he hrg hsz2 ⊢
                  have HBF := Lib.hid hbf
                  have HLd := Lib.hid hl
                  have HT := Lib.hid (And.intro ht (And.intro hs ho))
                  have HRG := Lib.hid (And.intro hrg hsz2)
                  have HE2 := Lib.hid he
                  clear hl ht hs ho hL hbf he hrg hsz2
                  go_upto_region 16 with fail
                  refine wp_region_lit ?_
                  refine wpList_load_mid (op := ⟨some 97, _, _, _, _, _⟩) rfl 56 (.tmp 9) rfl T 0 (by rfl) L _ HRG.out.1 Tryd.underlying56 rfl HRG.out.2 ?_
                  refine wpList_st (op := ⟨none, _, _, _, _, _⟩) rfl (.tmp 4) (.tmp 97) rfl w.heap.size L.toArray (by rfl) (by rfl) HT.out.1 HT.out.2.1 HT.out.2.2 rfl ?_
                  go_wp2
                  refine bodyPost_ret (v := .tuple #[.agg L.toArray, .int .i64 0]) ?_ rfl ⟨HE2.out, HBF.out⟩
                  rw [results_cell_tmp rfl]
                  simp [asAddr, Result.andThen, HLd.out]
                · have hF : sfault 1 b = 2 := by rw [HQ.out, if_pos hm]
                  have hmi : (((squ l : Nat) : Int) % 2 != 1) = true := by
                    have : ¬ ((squ l : Nat) : Int) % 2 = 1 := by omega
                    exact bne_iff_ne.2 this
                  have HE := Lib.hid (show Ending.returned (.tuple #[.agg (SV 0 zeros27).toArray, .int .i64 2]) = .returned (.tuple #[.agg (SV (sq 1 b) (sr 1 b)).toArray, .int .i64 (sfault 1 b)]) by rw [HV.out.1, HV.out.2, hF]; rfl)
                  clear hm hF hrg hsz2
                  obtain ⟨ht, hs, ho, hl⟩ := put56 (q := 0) (r := zeros27) (HRk.out) (by decide) (by decide)
                  have hbf := below_setCells (Nat.le_refl w.heap.size) (SV 0 zeros27).toArray.toList 0 _ (HBk.out)
                  have he := HE.out
                  generalize hZ : SV 0 zeros27 = Z at ht hs ho hl hbf he
                  have HBF := Lib.hid hbf
                  have HL := Lib.hid hl
                  have HT := Lib.hid (And.intro ht (And.intro hs ho))
                  have HZ := Lib.hid hZ
                  have HE2 := Lib.hid he
                  clear hl ht hs ho hZ hbf he
                  go_upto_region 15 with fail
                  refine wp_region_lit ?_
                  refine wpList_zero (op := ⟨some 96, _, _, _, _, _⟩) Z HZ.out rfl rfl ?_
                  refine wpList_st (op := ⟨none, _, _, _, _, _⟩) rfl (.tmp 4) (.tmp 96) rfl w.heap.size Z.toArray (by rfl) (by rfl) HT.out.1 HT.out.2.1 HT.out.2.2 rfl ?_
                  go_wp2
                  refine bodyPost_ret (v := .tuple #[.agg Z.toArray, .int .i64 2]) ?_ rfl ⟨HE2.out, HBF.out⟩
                  rw [results_cell_tmp rfl]
                  simp [asAddr, Result.andThen, HL.out]

        · have hF : sfault 1 b = 2 := by rw [HSF.out, if_pos (.inr hl)]
          have HE := Lib.hid (show Ending.returned (.tuple #[.agg (SV 0 zeros27).toArray, .int .i64 2]) = .returned (.tuple #[.agg (SV (sq 1 b) (sr 1 b)).toArray, .int .i64 (sfault 1 b)]) by rw [HV.out.1, HV.out.2, hF]; rfl)
          have hl2 : (((obody b).length : Int) != 116) = true := bne_iff_ne.2 (by omega)
          clear hF hk hl hf
          obtain ⟨ht, hs, ho, hl⟩ := put56 (q := 0) (r := zeros27) (HS1.out) (by decide) (by decide)
          have hbf := below_setCells (Nat.le_refl w.heap.size) (SV 0 zeros27).toArray.toList 0 _ (HB1.out)
          have he := HE.out
          generalize hZ : SV 0 zeros27 = Z at ht hs ho hl hbf he
          have HBF := Lib.hid hbf
          have HL := Lib.hid hl
          have HT := Lib.hid (And.intro ht (And.intro hs ho))
          have HZ := Lib.hid hZ
          have HE2 := Lib.hid he
          clear hl ht hs ho hZ hbf he
          go_upto_region 7 with fail
          refine wp_region_lit ?_
          refine wpList_zero (op := ⟨some 38, _, _, _, _, _⟩) Z HZ.out rfl rfl ?_
          refine wpList_st (op := ⟨none, _, _, _, _, _⟩) rfl (.tmp 4) (.tmp 38) rfl w.heap.size Z.toArray (by rfl) (by rfl) HT.out.1 HT.out.2.1 HT.out.2.2 rfl ?_
          go_wp2
          refine bodyPost_ret (v := .tuple #[.agg Z.toArray, .int .i64 2]) ?_ rfl ⟨HE2.out, HBF.out⟩
          rw [results_cell_tmp rfl]
          simp [asAddr, Result.andThen, HL.out]
      · have hF : sfault 1 b = 2 := by rw [HSF.out, if_pos (.inl hk)]
        have HE := Lib.hid (show Ending.returned (.tuple #[.agg (SV 0 zeros27).toArray, .int .i64 2]) = .returned (.tuple #[.agg (SV (sq 1 b) (sr 1 b)).toArray, .int .i64 (sfault 1 b)]) by rw [HV.out.1, HV.out.2, hF]; rfl)
        have hkn : ¬ (okind b).toNat = 1 := fun e => hk (UInt8.toNat_inj.1 (by rw [e]; rfl))
        have hk2 : (((okind b).toNat : Int) != 1) = true := bne_iff_ne.2 (by omega)
        clear hF hk hkn hf
        obtain ⟨ht, hs, ho, hl⟩ := put56 (q := 0) (r := zeros27) (HS1.out) (by decide) (by decide)
        have hbf := below_setCells (Nat.le_refl w.heap.size) (SV 0 zeros27).toArray.toList 0 _ (HB1.out)
        have he := HE.out
        generalize hZ : SV 0 zeros27 = Z at ht hs ho hl hbf he
        have HBF := Lib.hid hbf
        have HL := Lib.hid hl
        have HT := Lib.hid (And.intro ht (And.intro hs ho))
        have HZ := Lib.hid hZ
        have HE2 := Lib.hid he
        clear hl ht hs ho hZ hbf he
        go_upto_region 7 with fail
        refine wp_region_lit ?_
        refine wpList_zero (op := ⟨some 38, _, _, _, _, _⟩) Z HZ.out rfl rfl ?_
        refine wpList_st (op := ⟨none, _, _, _, _, _⟩) rfl (.tmp 4) (.tmp 38) rfl w.heap.size Z.toArray (by rfl) (by rfl) HT.out.1 HT.out.2.1 HT.out.2.2 rfl ?_
        go_wp2
        refine bodyPost_ret (v := .tuple #[.agg Z.toArray, .int .i64 2]) ?_ rfl ⟨HE2.out, HBF.out⟩
        rw [results_cell_tmp rfl]
        simp [asAddr, Result.andThen, HL.out]
    · rw [rv, if_neg hf] at cO
      go_wp2_with fail
      refine cO.mono ?_
      rintro e W1 ⟨rfl, hb1⟩
      have HS1 := Lib.hid (HS0.out.below hb1 HS0.out.lt)
      have HB1 := Lib.hid (bel_call HB0.out hb1)
      have hF : sfault 1 b = fault 1 b := by unfold sfault; rw [if_neg (by decide), if_pos hf]
      have HV := Lib.hid (And.intro (show sq 1 b = if sfault 1 b = 0 then squ (obody b) else 0 from rfl) (show sr 1 b = if sfault 1 b = 0 then srs (obody b) else zeros27 from rfl))
      have HE := Lib.hid (show Ending.returned (.tuple #[.agg (SV 0 zeros27).toArray, .int .i64 (fault 1 b)]) = .returned (.tuple #[.agg (SV (sq 1 b) (sr 1 b)).toArray, .int .i64 (sfault 1 b)]) by rw [HV.out.1, HV.out.2, hF, if_neg hf, if_neg hf])
      have hq2 : ((fault 1 b : Int) != 0) = true := bne_iff_ne.2 (by omega)
      clear hF hf hb1 cO HV
      generalize fault 1 b = ft at *
      obtain ⟨ht, hs, ho, hl⟩ := put56 (q := 0) (r := zeros27) (HS1.out) (by decide) (by decide)
      have hbf := below_setCells (Nat.le_refl w.heap.size) (SV 0 zeros27).toArray.toList 0 _ (HB1.out)
      have he := HE.out
      generalize hZ : SV 0 zeros27 = Z at ht hs ho hl hbf he
      have HBF := Lib.hid hbf
      have HL := Lib.hid hl
      have HT := Lib.hid (And.intro ht (And.intro hs ho))
      have HZ := Lib.hid hZ
      have HE2 := Lib.hid he
      clear hl ht hs ho hZ hbf he
      go_upto_region 5 with fail
      refine wp_region_lit ?_
      refine wpList_zero (op := ⟨some 29, _, _, _, _, _⟩) Z HZ.out rfl rfl ?_
      refine wpList_mv (op := ⟨some 30, _, _, _, _, _⟩) rfl (.tmp 8) rfl ?_
      refine wpList_st (op := ⟨none, _, _, _, _, _⟩) rfl (.tmp 4) (.tmp 29) rfl w.heap.size Z.toArray (by rfl) (by rfl) HT.out.1 HT.out.2.1 HT.out.2.2 rfl ?_
      go_wp2
      refine bodyPost_ret (v := .tuple #[.agg Z.toArray, .int .i64 ft]) ?_ rfl ⟨HE2.out, HBF.out⟩
      rw [results_cell_tmp rfl]
      simp [asAddr, Result.andThen, HL.out]

theorem refRead_any (p : Nat) (hp : p ≤ 1) (b : List UInt8) (w : World) (hb : b.length ≤ 1000) :
    Calls Tryd.prog 30 #[.int .i64 p, .string ⟨b.toArray⟩] w fun e w' => e = .returned (.tuple #[.agg (SV (sq p b) (sr p b)).toArray, .int .i64 (sfault p b)]) ∧ Below w.heap.size w w' := by
  have hp01 : p = 0 ∨ p = 1 := by omega
  rcases hp01 with rfl | rfl
  · exact refRead_0 b w hb
  · exact refRead_1 b w hb

set_option maxRecDepth 20000 in
set_option maxHeartbeats 1000000 in
theorem refRead_out (z : Int) (hz : z < 0 ∨ 1 < z) (s : ByteArray) (w : World) :
    Calls Tryd.prog 30 #[.int .i64 z, .string s] w fun e w' => e = .returned (.tuple #[.agg (SV 0 zeros27).toArray, .int .i64 1]) ∧ Below w.heap.size w w' := by
  have HN := Lib.hid (new56 w)
  have hz0 : decide (z < 0) = true ∨ decide (z < 0) = false ∧ decide (1 < z) = true := by
    rcases hz with h | h
    · exact .inl (decide_eq_true h)
    · by_cases h0 : z < 0
      · exact .inl (decide_eq_true h0)
      · exact .inr ⟨decide_eq_false h0, decide_eq_true h⟩
  clear hz
  rcases hz0 with h0 | ⟨h0, h1⟩
  all_goals
    go_enter Tryd.func30, Tryd.ntmps30
    go_upto_region 1 with fail
    refine (fun (h : ∀ W, Sup W w.heap.size 0 zeros27 → Below w.heap.size w W → Code.wp _ _ _ _ W) => h _ HN.out.1 HN.out.2) ?_
    intro W0 hS0 hB0
    have HS0 := Lib.hid hS0
    have HB0 := Lib.hid hB0
    have HE := Lib.hid (show Ending.returned (.tuple #[.agg (SV 0 zeros27).toArray, .int .i64 1]) = .returned (.tuple #[.agg (SV 0 zeros27).toArray, .int .i64 1]) from rfl)
    clear hS0 hB0
    obtain ⟨ht, hs, ho, hl⟩ := put56 (q := 0) (r := zeros27) (HS0.out) (by decide) (by decide)
    have hbf := below_setCells (Nat.le_refl w.heap.size) (SV 0 zeros27).toArray.toList 0 _ (HB0.out)
    have he := HE.out
    generalize hZ : SV 0 zeros27 = Z at ht hs ho hl hbf he
    have HBF := Lib.hid hbf
    have HL := Lib.hid hl
    have HT := Lib.hid (And.intro ht (And.intro hs ho))
    have HZ := Lib.hid hZ
    have HE2 := Lib.hid he
    clear hl ht hs ho hZ hbf he
    go_upto_region 2 with fail
    refine wp_region_lit ?_
    refine wpList_zero (op := ⟨some 18, _, _, _, _, _⟩) Z HZ.out rfl rfl ?_
    refine wpList_st (op := ⟨none, _, _, _, _, _⟩) rfl (.tmp 4) (.tmp 18) rfl w.heap.size Z.toArray (by rfl) (by rfl) HT.out.1 HT.out.2.1 HT.out.2.2 rfl ?_
    go_wp2
    refine bodyPost_ret (v := .tuple #[.agg Z.toArray, .int .i64 1]) ?_ rfl ⟨by rw [HZ.out], HBF.out⟩
    rw [results_cell_tmp rfl]
    simp [asAddr, Result.andThen, HL.out]
end Go.Proofs.YtcakicifgbnhcaaDoor
