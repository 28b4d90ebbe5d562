/- pager.Format of eight blocks. -/
/- What the formatted disk's blocks say; pager.newest. -/
import Derived.Test.YtagmldkcogidgaaGreatDoorPagB
import Derived.Test.YtagmldkcogidgaaGreatDoorLParseWalks
namespace Go.Proofs.YtagmldkcogidgaaGreatDoor
open Go.RowKit Pgp
set_option maxRecDepth 100000

def r0 : List Nat := [8, 2, 5, 0, 0, 0, 0, 0, 0, 0, 0, 0, 0, 0, 0, 0, 0, 0, 0, 0, 0, 0, 0, 0, 0, 0, 0]
theorem splice_zero (n : Nat) (hn : n < 8) : ap1 (Z 4096) (n, Z 512) = Z 4096 := by
  rw [ap1, splice, Z_len]
  simp only [Z, List.take_replicate, List.drop_replicate, List.replicate_append_replicate]
  congr 1
  omega
/-- the disk of eight blocks, formatted -/
def disk0 : List UInt8 := ap1 (ap1 (Z 4096) (2, pseal 2 2 lbody)) (1, spage 1 r0)

set_option maxHeartbeats 6400000 in
theorem format_any {base : Nat} {w : World} {D S : Nat} (h : Dk base w D S (Z 4096) (.slice none 0 0) [] 0) (hT : Tab w) (hb0 : 0 < base) (hb : base ≤ w.heap.size) :
    Calls Tryz.prog 14 #[.pointer (some ⟨D, 0, none⟩)] w fun e w' => e = .returned (.int .i64 0) ∧ Dk base w' D S disk0 (.slice none 0 0) [] 4 ∧ Fz D S none w w' := by
  obtain ⟨w1, hmk1, o1, g1⟩ := make_zero w w.heap.size 512 (by decide) (Nat.le_refl _)
  have hmk1 : (Instr.makeSlice 29 (.int .i64 512) (.int .i64 512)).run Tryz.prog w = .ok (.slice (some ⟨w.heap.size, 0, none⟩) 512 512) w1 := hmk1
  have hb1 : Below w.heap.size w w1 := (Below.refl _ _).grown g1 (Nat.le_refl _) (fun k h => by cases h)
  have hB1 : Blk w1 w.heap.size (Z 512) := Blk.of_own (L := Z 512) o1 (by rw [Z_len])
  have cD1 := dwrite (h.below hb1) 0 (by decide) w.heap.size 0 512 (Z 512) (Z_len 512) (fun j v hj => by
      obtain ⟨hj2, rfl⟩ := List.getElem?_eq_some_iff.1 hj
      rw [List.length_map] at hj2
      rw [List.getElem_map, Nat.zero_add]
      exact hB1.cell j hj2) (fun e => by cases e) (by have := h.lt.1; omega) (by decide) (by decide) (by have := hb1.size; omega)
  have HH := Lib.hid (And.intro h (And.intro hT hb1))
  clear h hT o1 g1 hB1 hb1
  go_enter Tryz.func14, Tryz.ntmps14
  go_wp2_with fail
  refine wp_loop_rounds 3 ?_
  rw [rounds_succ]
  go_wp2_with (go_at_call 31; go_must (refine cD1.mono ?_); rintro e w2 ⟨rfl, V2, hD2, hz2, hv2⟩)
  obtain ⟨w3, hmk3, o3, g3⟩ := make_zero w2 w2.heap.size 512 (by decide) (Nat.le_refl _)
  have hmk3 : (Instr.makeSlice 29 (.int .i64 512) (.int .i64 512)).run Tryz.prog w2 = .ok (.slice (some ⟨w2.heap.size, 0, none⟩) 512 512) w3 := hmk3
  have hb3 : Below w2.heap.size w2 w3 := (Below.refl _ _).grown g3 (Nat.le_refl _) (fun k h => by cases h)
  have hB3 : Blk w3 w2.heap.size (Z 512) := Blk.of_own (L := Z 512) o3 (by rw [Z_len])
  have hw12 : w.heap.size ≤ w2.heap.size := by have := HH.out.2.2.size; have := hz2.size; omega
  have cD3 := dwrite (hD2.below hb3) 1 (by decide) w2.heap.size 0 512 (Z 512) (Z_len 512) (fun j v hj => by
      obtain ⟨hj2, rfl⟩ := List.getElem?_eq_some_iff.1 hj
      rw [List.length_map] at hj2
      rw [List.getElem_map, Nat.zero_add]
      exact hB3.cell j hj2) (fun e => by have := (World.ownsRow.lt hD2.hv _ e).2; omega) (by have := HH.out.1.lt.1; omega) (by decide) (Nat.lt_of_sub_eq_succ rfl) (by have := hb3.size; omega)
  have H2 := Lib.hid (And.intro hz2 (And.intro hv2 (And.intro hb3 hw12)))
  clear hmk1 cD1 o3 g3 hB3 hz2 hv2 hb3 hw12
  rw [rounds_succ]
  go_wp2_with (go_at_call 31; go_must (refine cD3.mono ?_); rintro e w4 ⟨rfl, V4, hD4, hz4, hv4⟩)
  rw [rounds_succ]
  obtain ⟨g', cap', hV', hO'⟩ := hD4.form (Nat.lt_of_sub_eq_succ rfl)
  have cY := dsync hD4 g' cap' hV'
  have h22 := (hD2.form (Nat.lt_of_sub_eq_succ rfl))
  have H4 := Lib.hid (And.intro hz4 (And.intro hv4 (And.intro hO' h22)))
  clear hmk3 cD3 hz4 hv4 hO' hD4 hV' h22 hD2
  go_upto_region 11 with (go_at_call 32; go_must (refine cY.mono ?_); rintro e w5 ⟨rfl, hD5, hz5⟩)
  have hD5 : Dk base w5 D S (Z 4096) (.slice none 0 0) [] 2 := by
    have e : aps (Z 4096) ([] ++ [(0, Z 512)] ++ [(1, Z 512)]) = Z 4096 := by
      show ap1 (ap1 (Z 4096) (0, Z 512)) (1, Z 512) = Z 4096
      rw [splice_zero 0 (by decide), splice_zero 1 (by decide)]
    rw [e] at hD5
    exact hD5
  have hzF : Fz D S none w w5 := by
    obtain ⟨hz2, hv2, hb3, hw12⟩ := H2.out
    obtain ⟨hz4, hv4, hO', ⟨g2, cap2, hV2, hO2⟩⟩ := H4.out
    have ha : Fz D S none w w2 := (Fz.of_below (D := D) (S := S) (R := none) HH.out.2.2).trans hz2 (fun g e => by cases e)
    have hg2 : w.heap.size ≤ g2 := by
      rcases hv2 with e | e
      · rw [hO2] at e; cases e
      · rw [hO2] at e; injection e with e; have := HH.out.2.2.size; omega
    have hbb := (ha.trans (Fz.of_below (R := none) hb3) (fun g e => by cases e)).trans hz4 (fun g e => by rw [hO2] at e; injection e with e; right; omega)
    refine hbb.trans hz5 (fun g e => ?_)
    rw [hO'] at e
    injection e with e
    right
    rcases hv4 with e2 | e2
    · rw [hO', hO2] at e2; injection e2 with e2; omega
    · rw [hO'] at e2; injection e2 with e2; have := hb3.size; omega
  have hT5 : Tab w5 := hzF.tab HH.out.2.1 (by have := HH.out.1.lo; omega) (by have := HH.out.1.lo; omega) (fun e => by cases e)
  have hb5 : base ≤ w5.heap.size := by have := hzF.size; omega
  have HF := Lib.hid (And.intro hzF hT5)
  have HD := Lib.hid hD5
  clear hzF hT5 H2 H4 HH hz5 hD5 hb cY
  go_wp2_with fail
  go_loopw [6, 7] (fun v i wr => ∃ m : Nat, 2 ≤ m ∧ m ≤ 8 ∧ i = .int .i64 (m : Int) ∧ L.Own wr w5.heap.size 47 v ((List.range' 2 (m - 2)).map L.u32v) ∧ Below w5.heap.size w5 wr) (fun _ i _ => 8 - (intOf i).toNat)
  case atStart => exact ⟨2, by omega, by omega, rfl, L.Own.nil _ _ _, Below.refl _ _⟩
  case round =>
    obtain ⟨m, hm2, hm, rfl, hown, hbw⟩ := hrel
    have cK := blocks_any (HD.out.below hbw)
    have hlr : (List.range' 2 (m - 2)).length = m - 2 := List.length_range'
    by_cases hlt : m < 8
    · obtain ⟨ov, hov⟩ : ∃ v : Value, v = u6 := ⟨_, rfl⟩
      rw [← hov] at hown ⊢
      clear hov
      have hrg : List.range' 2 (m + 1 - 2) = List.range' 2 (m - 2) ++ [m] := by
        rw [show m + 1 - 2 = (m - 2) + 1 by omega, List.range'_1_concat]
        congr 2
        omega
      have HO2 := hown.alloc (.cells #[.int .u32 (m : Int)] 47)
      have hr6 : L.Rd (wr.alloc (.cells #[.int .u32 (m : Int)] 47)) (some ⟨wr.heap.size, 0, none⟩) ([m].map L.u32v) := L.Rd.fresh _ _ _ _
      have HBA := Lib.hid (show Below w5.heap.size w5 (wr.alloc (.cells #[.int .u32 (m : Int)] 47)) from hbw.alloc hbw.size _)
      have hsz := HBA.out.size
      have HR := Lib.hid hrg
      clear hown hbw hrg
      go_wp2_with (first | (go_at_call 33; go_must (refine cK.mono ?_); rintro e w' ⟨rfl, rfl⟩) | (at_builtin; refine L.wpList_app L.el25 (by simp [Region.wanted, go_sem]) (.tmp 32) (.tmp 35) rfl w5.heap.size ov ((List.range' 2 (m - 2)).map L.u32v) rfl HO2 (some ⟨wr.heap.size, 0, none⟩) 1 1 ([m].map L.u32v) rfl rfl hr6 (L.one_u32 _) (by simp; omega) (by simp; omega) hsz ?_; intro A' n' c' w' h1 h2 h3 h4))
      go_roundw
      case rel => exact ⟨m + 1, by omega, by omega, by go_num, by rw [HR.out, List.map_append]; exact h1, HBA.out.grown h3 hsz (fun r e => (HO2.lt r e).1)⟩
      case measure => simp [intOf]; omega
    · obtain rfl : m = 8 := by omega
      obtain ⟨A, c, rfl, hrd, hc, hc2⟩ := hown.form
      have hrl : L.Rd wr A ([2, 3, 4, 5, 6, 7].map L.u32v) := hrd
      have hlen : ((List.range' 2 (8 - 2)).map L.u32v).length = 6 := rfl
      rw [hlen] at hc
      obtain ⟨ab, ao, rfl, hal, hac⟩ := hrl (by decide)
      have hrA := hrl.drop 1 c hc (by decide)
      have hrB := hrl.take 1
      have hx1 : ¬ (c : Int) < 1 := by omega
      have hx2 : ¬ c = 1 := by omega
      rw [if_neg hx2] at hrA
      have hrA : L.Rd wr (some ⟨ab, ao + 1, none⟩) (lnums.map L.u32v) := hrA
      have hrB : L.Rd wr (some ⟨ab, ao, none⟩) ([2].map L.u32v) := hrB
      have cN := L.need_any 6 wr (by decide) (by decide)
      rw [show L.need 6 = 1 by decide] at cN
      have hT := HF.out.2.below HF.out.2.pos hbw
      have cP := fun (V : World) (hv : Below wr.heap.size wr V) => spread_any ((HD.out.below hbw).below hv) (some ⟨ab, ao + 1, none⟩) (some ⟨ab, ao, none⟩) (c - 1) c (hrA.below hv) (hrB.below hv) (by omega) (hT.below hT.pos hv) hb0 (by have := hbw.size; have := hv.size; omega) (by decide)
      have HB := Lib.hid (And.intro hbw hT)
      have hd8 : decide ((8 : Int) < 8) = false := rfl
      clear hown hrd hrl hlen hrA hrB hT hbw hac hal
      go_wp2_with (first | (go_at_call 33; go_must (refine cK.mono ?_); rintro e w' ⟨rfl, rfl⟩) | (go_at_call 34; go_must (refine cN.mono ?_); rintro e w' ⟨rfl, rfl⟩))
      go_region_held3 (fun _ => True) (exact trivial) (first | (go_at_call 35; go_must (refine (cP wr.drew ((Below.refl _ wr).drew)).mono ?_); rintro e w6 ⟨rfl, hD6, hz6⟩))
      obtain ⟨hbw, hT⟩ := HB.out
      have hbd : Below wr.heap.size wr wr.drew := (Below.refl _ wr).drew
      have hT6 : Tab w6 := hz6.tab (hT.below hT.pos hbd) (by have := HD.out.lo; omega) (by have := HD.out.lo; omega) (fun e => by cases e)
      have hs6 : base ≤ w6.heap.size := by have h1 : wr.heap.size ≤ w6.heap.size := hz6.size; have := hbw.size; omega
      have cQ := blocks_any hD6
      have cX := pseal_any hD6 r0 rfl (by decide) hT6 hb0 hs6 (by decide)
      have HZ := Lib.hid hz6
      clear hz6 hT6 hs6 hbd hT hbw hD6 cP cN cK
      go_wp2_with (first | (go_at_call 33; go_must (refine cQ.mono ?_); rintro e w' ⟨rfl, rfl⟩) | (go_at_call 36; go_must (refine cX.mono ?_); rintro e w7 ⟨rfl, hD7, hz7⟩))
      go_ret
      refine ⟨rfl, hD7, ?_⟩
      obtain ⟨hbw, hT⟩ := HB.out
      exact ((((HF.out.1).trans (Fz.of_below (R := none) hbw) (fun g e => by cases e)).trans (Fz.of_below (R := none) ((Below.refl _ wr).drew)) (fun g e => by cases e)).trans HZ.out (fun g e => by cases e)).trans hz7 (fun g e => by cases e)
end Go.Proofs.YtagmldkcogidgaaGreatDoor
namespace Go.Proofs.YtagmldkcogidgaaGreatDoor
open Go.RowKit Pgp
set_option maxRecDepth 100000

theorem ap1_at (L : List UInt8) (x : Nat × List UInt8) (h : L.length = 4096) (hx : x.1 < 8 ∧ x.2.length = 512) : ((ap1 L x).drop (x.1 * 512)).take 512 = x.2 := by
  rw [ap1, splice]
  have h1 : (L.take (x.1 * 512)).length = x.1 * 512 := by rw [List.length_take]; omega
  rw [List.drop_append_of_le_length (by omega), List.drop_of_length_le (by omega), List.nil_append, List.take_append_of_le_length (by omega), List.take_of_length_le (by omega)]
theorem ap1_far (L : List UInt8) (x : Nat × List UInt8) (n : Nat) (h : L.length = 4096) (hx : x.1 < 8 ∧ x.2.length = 512) (hn : n < 8) (hne : n ≠ x.1) : ((ap1 L x).drop (n * 512)).take 512 = (L.drop (n * 512)).take 512 := by
  have h1 : (L.take (x.1 * 512)).length = x.1 * 512 := by rw [List.length_take]; omega
  rw [ap1, splice]
  rcases Nat.lt_or_gt_of_ne hne with hlt | hgt
  · rw [List.drop_append_of_le_length (by omega), List.take_append_of_le_length (by rw [List.length_drop]; omega), List.drop_take, List.take_take]
    congr 1
    omega
  · have h2 : (L.take (x.1 * 512) ++ x.2).length = x.1 * 512 + 512 := by rw [List.length_append]; omega
    rw [← List.append_assoc, List.drop_append, List.drop_of_length_le (by omega), List.nil_append, List.drop_drop, h2, hx.2]
    congr 2
    omega
theorem disk0_len : disk0.length = 4096 := ap1_len _ _ (ap1_len _ _ (Z_len 4096) ⟨by decide, seal_len _ _ _ (by decide)⟩) ⟨by decide, spage_len 1 r0 rfl⟩
theorem blk1 : (disk0.drop (1 * 512)).take 512 = spage 1 r0 := ap1_at _ (1, spage 1 r0) (ap1_len _ _ (Z_len 4096) ⟨by decide, seal_len _ _ _ (by decide)⟩) ⟨by decide, spage_len 1 r0 rfl⟩
theorem blk0 : (disk0.drop (0 * 512)).take 512 = Z 512 := by
  rw [disk0, ap1_far _ (1, spage 1 r0) 0 (ap1_len _ _ (Z_len 4096) ⟨by decide, seal_len _ _ _ (by decide)⟩) ⟨by decide, spage_len 1 r0 rfl⟩ (by decide) (by decide),
    ap1_far _ (2, pseal 2 2 lbody) 0 (Z_len 4096) ⟨by decide, seal_len _ _ _ (by decide)⟩ (by decide) (by decide), Nat.zero_mul, List.drop_zero, Z, List.take_replicate]
  rfl
theorem blk2 : (disk0.drop (2 * 512)).take 512 = pseal 2 2 lbody := by
  rw [disk0, ap1_far _ (1, spage 1 r0) 2 (ap1_len _ _ (Z_len 4096) ⟨by decide, seal_len _ _ _ (by decide)⟩) ⟨by decide, spage_len 1 r0 rfl⟩ (by decide) (by decide)]
  exact ap1_at _ (2, pseal 2 2 lbody) (Z_len 4096) ⟨by decide, seal_len _ _ _ (by decide)⟩
theorem zero_bad : sfault 0 (Z 512) ≠ 0 := by decide +kernel
theorem super_ok : nfault (Z 512) (spage 1 r0) = 0 ∧ nq (Z 512) (spage 1 r0) = 1 ∧ nr (Z 512) (spage 1 r0) = r0 := by
  have h1 := sfault_page 1 r0 (by decide) rfl
  have h0 := zero_bad
  have hs := sread_page 1 r0 (by decide) rfl (by decide)
  have hf : nfault (Z 512) (spage 1 r0) = 0 := by rw [nfault, if_neg (by rintro ⟨_, h2⟩; exact h2 h1.1)]
  have hsel : nsel (Z 512) (spage 1 r0) = true := by rw [nsel, decide_eq_true_eq]; exact .inl h0
  refine ⟨hf, ?_, ?_⟩
  · rw [nq, if_neg (by rw [hf]; decide), if_pos hsel]; exact hs.1
  · rw [nr, if_neg (by rw [hf]; decide), if_pos hsel]; exact hs.2

set_option maxHeartbeats 3200000 in
/-- pager.newest of the formatted disk -/
theorem pnewest_any {base : Nat} {w : World} {D S k : Nat} (h : Dk base w D S disk0 (.slice none 0 0) [] k) (hT : Tab w) :
    Calls Tryz.prog 37 #[.pointer (some ⟨D, 0, none⟩)] w fun e w' => e = .returned (.tuple #[.agg (SV 1 r0).toArray, .int .i64 0]) ∧ Below w.heap.size w w' := by
  have hN := new56 w
  have cA := fun (V : World) (hv : Below w.heap.size w V) => dread (h.below hv) 0 (by decide)
  have cB := fun (V : World) (hv : Below w.heap.size w V) => dread (h.below hv) 1 (by decide)
  rw [blk0] at cA
  rw [blk1] at cB
  have hl0 : (Z 512).length = 512 := Z_len 512
  have hl1 : (spage 1 r0).length = 512 := spage_len 1 r0 rfl
  have cX := fun (V : World) (hv : Below w.heap.size w V) (A B : Option Addr) (c d : Nat) (hc : 512 ≤ c) (hd : 512 ≤ d) (hA : Rd V A ⟨(Z 512).toArray⟩) (hB : Rd V B ⟨(spage 1 r0).toArray⟩) =>
    newest_any A B (Z 512) (spage 1 r0) c d V hA (by omega) (by omega) hB (by omega) (by omega) (hT.below hT.pos hv)
  rw [hl0, hl1, super_ok.1, super_ok.2.1, super_ok.2.2] at cX
  have HN := Lib.hid hN
  have HC := Lib.hid (And.intro cA (And.intro cB cX))
  clear hN hT hl0 hl1 cA cB cX
  go_enter Tryz.func37, Tryz.ntmps37
  go_upto_region 1 with fail
  change Code.wp _ _ _ _ (w.alloc (.cells (SV 0 zeros27).toArray 104))
  generalize w.alloc (.cells (SV 0 zeros27).toArray 104) = W at *
  have cA1 := HC.out.1 W HN.out.2
  go_upto_region 4 with (go_at_call 78; go_must (refine cA1.mono ?_); rintro e w1 ⟨A1, c1, rfl, hr1, hc1, hb1⟩)
  have H1 := Lib.hid (And.intro hr1 (And.intro hc1 (HN.out.2.trans (hb1.mono HN.out.2.size))))
  have HS1 := Lib.hid (HN.out.1.below hb1 HN.out.1.lt)
  clear hr1 hc1 hb1 cA1
  have cB1 := HC.out.2.1 w1 H1.out.2.2
  go_upto_region 7 with (go_at_call 78; go_must (refine cB1.mono ?_); rintro e w2 ⟨A2, c2, rfl, hr2, hc2, hb2⟩)
  have hb2w : Below w.heap.size w w2 := H1.out.2.2.trans (hb2.mono H1.out.2.2.size)
  have cN := HC.out.2.2 w2 hb2w A1 A2 c1 c2 H1.out.2.1 hc2 (H1.out.1.below hb2) hr2
  have hSup2 := HS1.out.below hb2 HS1.out.lt
  refine wp_region_lit ?_
  refine wpList_mv rfl (.tmp 4) rfl ?_
  refine wpList_mv rfl (.tmp 6) rfl ?_
  refine wpList_plain rfl fun K hK => ?_
  go_simp
  go_at_call 79
  refine cN.mono ?_
  rintro e w3 ⟨rfl, hb3⟩
  refine hK _ _ ?_
  have hSup3 := hSup2.below hb3 hSup2.lt
  obtain ⟨ht, hs, ho, hl⟩ := put56 (q := 1) (r := r0) hSup3 (by decide) rfl
  have hbf := below_setCells (Nat.le_refl w.heap.size) (SV 1 r0).toArray.toList 0 _ (hb2w.trans (hb3.mono hb2w.size))
  have HE := Lib.hid (show ∀ C, C = SV 1 r0 → Ending.returned (.tuple #[.agg C.toArray, .int .i64 0]) = .returned (.tuple #[.agg (SV 1 r0).toArray, .int .i64 0]) from fun C h => by rw [h])
  obtain ⟨C, hC⟩ : ∃ C, C = SV 1 r0 := ⟨_, rfl⟩
  rw [← hC] at ht hs ho hl hbf ⊢
  have HE2 := Lib.hid (HE.out C hC)
  have HL := Lib.hid hl
  have HT := Lib.hid (And.intro ht (And.intro hs ho))
  have HBF := Lib.hid hbf
  clear ht hs ho hl hbf hC
  try simp only [Act.put, List.setIfInBounds_toArray, List.set_cons_zero, List.set_cons_succ]
  refine wpList_run (v := .agg C.toArray) (w' := w3) rfl (by go_simp) ?_
  refine wpList_run (v := .int .i64 0) (w' := w3) rfl (by go_simp) ?_
  try simp only [Act.put, List.setIfInBounds_toArray, List.set_cons_zero, List.set_cons_succ]
  refine wpList_st (op := ⟨none, _, _, _, _, _⟩) rfl (.tmp 2) (.tmp 28) rfl w.heap.size C.toArray (by rfl) (by rfl) HT.out.1 HT.out.2.1 HT.out.2.2 rfl ?_
  clear HC H1 HS1 hc2 hb2 hr2 cB1 cN hSup2 hb3 hSup3 HN
  go_wp2_with fail
  refine bodyPost_ret (v := .tuple #[.agg C.toArray, .int .i64 0]) ?_ rfl ⟨HE2.out, HBF.out⟩
  rw [results_cell_tmp rfl]
  simp [asAddr, Result.andThen, HL.out]
end Go.Proofs.YtagmldkcogidgaaGreatDoor
