/- SuperBack: any super's page is read as it, at its place alone. -/
import Derived.Test.YtcakicifgbnhcaaDoorSuperFix
import Derived.Test.YtcakicifgbnhcaaDoorSuperRefW
namespace Go.Proofs.YtcakicifgbnhcaaDoor
open Go.RowKit Go.Sort Pgp
open Crcp (cmore)

set_option maxHeartbeats 2000000 in
theorem walk11 (q : Nat) (r : List Nat) (w : World) (hq : q < 18446744073709551616) (hr : r.length = 27) (hrl : ∀ x ∈ r, x < 4294967296) (hT : Tab w) :
    Calls Tryd.prog 11 #[.agg (SV q r).toArray] w fun e w' => e = .returned (.bool true) ∧ RowKit.Below w.heap.size w w' := by
  have hS0 : Sup (w.alloc (.cells (SV q r).toArray 56)) w.heap.size q r := by unfold Sup; exact heap_alloc_last w _
  have hB0 : RowKit.Below w.heap.size w (w.alloc (.cells (SV q r).toArray 56)) := (Below.refl _ _).alloc (Nat.le_refl _) _
  have HP := Lib.hid (spage_len q r hr)
  have HF := Lib.hid (sfault_page q r hq hr)
  have HR := Lib.hid (sread_page q r hq hr hrl)
  generalize hC : (SV q r).toArray = C at *
  go_enter Tryd.func11, Tryd.ntmps11
  go_upto_region 1 with fail
  generalize w.alloc (.cells C 56) = W0 at *
  subst hC
  have HS0 := Lib.hid hS0
  have HB0 := Lib.hid hB0
  have c1 := write_any q r W0 hq hr hrl (hT.below hT.pos hB0)
  clear hS0 hB0
  refine wp_region_lit ?_
  refine wl_ld (op := ⟨some 8, _, _, _, _, _⟩) rfl (.tmp 1) rfl w.heap.size q r rfl HS0.out hr ?_
  go_wp2_with fail
  refine c1.mono ?_
  rintro e W1 ⟨g, rfl, hg, hgl, hb1⟩
  have HG1 := Lib.hid hg
  have HS1 := Lib.hid (HS0.out.below hb1 HS0.out.lt)
  have HB1 := Lib.hid (bel_call HB0.out hb1)
  have hrg := HG1.out.rd 0 512 (by rw [HP.out]; decide)
  rw [List.drop_zero, List.take_of_length_le (by rw [HP.out]; decide)] at hrg
  have cR := read_any (q % 2) (by omega) (some ⟨g, 0, none⟩) (spage q r) 512 W1 hrg (by rw [HP.out]; decide) (by rw [HP.out]; decide) (hT.below hT.pos HB1.out)
  rw [HR.out.1, HR.out.2, HF.out.1, HP.out] at cR
  rw [show ((q % 2 : Nat) : Int) = (q : Int) % 2 from Int.natCast_emod q 2] at cR
  have q0 := HS1.out.at0
  clear hg hb1 hgl c1 hrg
  go_wp2_with fail
  refine cR.mono ?_
  rintro e W2 ⟨rfl, hb2⟩
  have HG2 := Lib.hid (HG1.out.below hb2)
  have HS2 := Lib.hid (HS1.out.below hb2 HS1.out.lt)
  have HB2 := Lib.hid (bel_call HB1.out hb2)
  have hBN : RowKit.Below W2.heap.size W2 (W2.alloc (.cells (SV q r).toArray 56)) := (Below.refl _ _).alloc (Nat.le_refl _) _
  have HT3 := Lib.hid (sup_new W2 q r)
  have HG3 := Lib.hid (HG2.out.below hBN)
  have HS3 := Lib.hid (HS2.out.below hBN HS2.out.lt)
  have HB3 := Lib.hid (bel_call HB2.out hBN)
  clear hb2 hBN cR q0
  go_upto_region 3 with (refine wpList_st_new (op := ⟨none, _, _, _, _, _⟩) rfl (.tmp 4) (.tmp 17) rfl W2 q r rfl rfl rfl hr rfl ?_)
  generalize W2.alloc (.cells (SV q r).toArray 56) = W3 at *
  have hrg := HG3.out.rd 0 512 (by rw [HP.out]; decide)
  rw [List.drop_zero, List.take_of_length_le (by rw [HP.out]; decide)] at hrg
  have cR := read_any ((q + 1) % 2) (by omega) (some ⟨g, 0, none⟩) (spage q r) 512 W3 hrg (by rw [HP.out]; decide) (by rw [HP.out]; decide) (hT.below hT.pos HB3.out)
  rw [sq, sr, if_neg (by rw [HF.out.2]; decide), if_neg (by rw [HF.out.2]; decide), HF.out.2, HP.out] at cR
  have hz : wrap64 ((IntKind.u64.wrap ((q : Int) + 1)).tmod 2) = (((q + 1) % 2 : Nat) : Int) := by
    rw [IntKind.wrap_u64, Int.tmod_eq_emod_of_nonneg (by omega)]
    unfold wrap64
    omega
  have q0 := HS3.out.at0
  clear hrg
  go_wp2_with fail
  rw [show (((q + 1) % 2 : Nat) : Int) = ((q : Int) + 1) % 2 by omega] at cR
  refine cR.mono ?_
  rintro e W4 ⟨rfl, hb4⟩
  have HG4 := Lib.hid (HG3.out.below hb4)
  have HS4 := Lib.hid (HS3.out.below hb4 HS3.out.lt)
  have HT4 := Lib.hid (HT3.out.below hb4 HT3.out.lt)
  have HB4 := Lib.hid (bel_call HB3.out hb4)
  have hBN : RowKit.Below W4.heap.size W4 (W4.alloc (.cells (SV 0 zeros27).toArray 56)) := (Below.refl _ _).alloc (Nat.le_refl _) _
  have HZ5 := Lib.hid (sup_new W4 0 zeros27)
  have HG5 := Lib.hid (HG4.out.below hBN)
  have HS5 := Lib.hid (HS4.out.below hBN HS4.out.lt)
  have HT5 := Lib.hid (HT4.out.below hBN HT4.out.lt)
  have HB5 := Lib.hid (bel_call HB4.out hBN)
  clear hb4 hBN cR q0 hz
  go_upto_region 4 with (refine wpList_st_new (op := ⟨none, _, _, _, _, _⟩) rfl (.tmp 6) (.tmp 27) rfl W4 0 zeros27 rfl rfl rfl z27_len rfl ?_)
  generalize W4.alloc (.cells (SV 0 zeros27).toArray 56) = W5 at *
  have ldS := HS5.out.loads hr
  have ldT := HT5.out.loads hr
  have ldZ := HZ5.out.loads z27_len
  have fF := fun d os => Calls.regrown_of (fixed07_any (grow (redrawn W5 d) os) ((hT.below hT.pos HB5.out).below (hT.below hT.pos HB5.out).pos (below_regrown W5 d os)))
  have fW := fun d os => Calls.regrown_of (refWrite_any q r (grow (redrawn W5 d) os) hq hr hrl)
  have hs : ∀ d os, (convert 22 9 (.slice (some ⟨g, 0, none⟩) 512 512)).run Tryd.prog (grow (redrawn W5 d) os) = .ok (.string ⟨(spage q r).toArray⟩) (grow (redrawn W5 d) os) := by
    intro d os
    have hrg := (HG5.out.below (below_regrown W5 d os)).rd 0 512 (by rw [HP.out]; decide)
    rw [List.drop_zero, List.take_of_length_le (by rw [HP.out]; decide)] at hrg
    have := str_rd hrg 512
    rw [HP.out] at this
    exact this
  refine wp_region_quiet_below (by kernel_rfl) (by kernel_rfl) ?_
  repeat (first
    | (refine quiet_ld (o := ⟨some 33, _, _, _, _, _⟩) rfl 56 (.tmp 1) rfl _ rfl _ ldS ?_)
    | (refine quiet_ld (o := ⟨some 42, _, _, _, _, _⟩) rfl 56 (.tmp 4) rfl _ rfl _ ldT ?_)
    | (refine quiet_ld (o := ⟨some 43, _, _, _, _, _⟩) rfl 56 (.tmp 1) rfl _ rfl _ ldS ?_)
    | (refine quiet_ld (o := ⟨some 51, _, _, _, _, _⟩) rfl 56 (.tmp 6) rfl _ rfl _ ldZ ?_)
    | (refine quiet_eq (o := ⟨some 44, _, _, _, _, _⟩) rfl (.tmp 42) (.tmp 43) 56 rfl q r rfl rfl hr ?_)
    | (refine quiet_blt (o := ⟨some 52, _, _, _, _, _⟩) rfl _ rfl (SV 0 zeros27).toArray (by simpa [Act.eval] using built56) ?_)
    | (refine quiet_eq (o := ⟨some 53, _, _, _, _, _⟩) rfl (.tmp 51) (.tmp 52) 56 rfl 0 zeros27 rfl rfl z27_len ?_)
    | (quiet_step (first | with_reducible exact fF _ _ | exact fW _ _)))
  refine wpQuiet_nil ?_
  intro _ hw'
  obtain ⟨⟨dq, osq⟩, hw''⟩ := hw'
  subst hw''
  go_wp2
  go_ret
  exact ⟨rfl, bel_call HB5.out (below_regrown W5 dq osq)⟩
end Go.Proofs.YtcakicifgbnhcaaDoor
