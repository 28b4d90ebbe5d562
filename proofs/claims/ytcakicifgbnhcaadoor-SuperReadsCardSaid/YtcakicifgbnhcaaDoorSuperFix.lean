/- The chapter's example of supers. -/
import Derived.Test.YtcakicifgbnhcaaDoorSuperLaws
import Derived.Test.YtcakicifgbnhcaaDoorSuperWrite
import Derived.Test.YtcakicifgbnhcaaDoorSuperEq
namespace Go.Proofs.YtcakicifgbnhcaaDoor
open Go.RowKit Pgp
open Crcp (cmore)

def r9 : List Nat := 9 :: List.replicate 26 0
def word13 : List UInt8 := [97, 110, 121, 116, 104, 105, 110, 103, 32, 101, 108, 115, 101]
theorem r9_len : r9.length = 27 := by decide
theorem r9_lt : ∀ x ∈ r9, x < 4294967296 := by decide
theorem z27_len : zeros27.length = 27 := by decide
theorem z27_lt : ∀ x ∈ zeros27, x < 4294967296 := by decide
theorem built49 : Tryd.prog.built 56 [(0, .int .u64 4), (1, .int .u32 9)] = some (SV 4 r9).toArray := by kernel_rfl
theorem built5 : Tryd.prog.built 56 [(0, .int .u64 5)] = some (SV 5 zeros27).toArray := by kernel_rfl
theorem fixed_new : nfault (spage 4 r9) word13 = 0 ∧ nq (spage 4 r9) word13 = 4 ∧ nr (spage 4 r9) word13 = r9 :=
  turn_old 4 r9 (by decide) r9_len r9_lt word13 _ _ (by
    have h1 : fault 1 word13 = 1 := by unfold fault; rw [if_pos (by decide)]
    unfold sfault
    rw [if_neg (by decide), if_pos (by rw [show (4 + 1) % 2 = 1 from rfl, h1]; decide), show (4 + 1) % 2 = 1 from rfl, h1]
    decide) (.inl ⟨rfl, rfl, rfl⟩)
theorem fixed_old : sfault 0 (spage 5 zeros27) = 4 := (sfault_page 5 zeros27 (by decide) z27_len).2

set_option maxHeartbeats 1000000 in
theorem fixed07_any (w : World) (hT : Tab w) : Calls Tryd.prog 28 #[] w fun e w' => e = .returned (.bool true) ∧ Below w.heap.size w w' := by
  have c1 := write_any 4 r9 w (by decide) r9_len r9_lt hT
  have HP := Lib.hid (spage_len 4 r9 r9_len)
  have HP5 := Lib.hid (spage_len 5 zeros27 z27_len)
  go_enter Tryd.func28, Tryd.ntmps28
  go_upto_region 1 with fail
  refine wp_region_lit ?_
  refine wl_blt (op := ⟨some 6, _, _, _, _, _⟩) rfl _ rfl (SV 4 r9).toArray (by simpa [Act.eval] using built49) ?_
  go_wp2_with fail
  refine c1.mono ?_
  rintro e W1 ⟨g, rfl, hg, hgl, hb1⟩
  have HG1 := Lib.hid hg
  have HB1 := Lib.hid hb1
  clear hg hb1 hgl c1
  obtain ⟨hnf, hnq, hnr⟩ := fixed_new
  have hbn : Below W1.heap.size W1 (W1.alloc (.cells #[.int .u8 97, .int .u8 110, .int .u8 121, .int .u8 116, .int .u8 104, .int .u8 105, .int .u8 110, .int .u8 103, .int .u8 32, .int .u8 101, .int .u8 108, .int .u8 115, .int .u8 101] 5 (13, 13 + 1))) := (Below.refl _ _).alloc (Nat.le_refl _) _
  have hrd : Rd (W1.alloc (.cells #[.int .u8 97, .int .u8 110, .int .u8 121, .int .u8 116, .int .u8 104, .int .u8 105, .int .u8 110, .int .u8 103, .int .u8 32, .int .u8 101, .int .u8 108, .int .u8 115, .int .u8 101] 5 (13, 13 + 1))) (some ⟨W1.heap.size, 0, none⟩) ⟨word13.toArray⟩ := Rd.fresh _ _ _ (by kernel_rfl) _ _
  have HB2 := Lib.hid (bel_call HB1.out hbn)
  have HG2 := Lib.hid (HG1.out.below hbn)
  have hrg := HG2.out.rd 0 512 (by rw [HP.out]; decide)
  rw [List.drop_zero, List.take_of_length_le (by rw [HP.out]; decide)] at hrg
  have cN := newest_any (some ⟨g, 0, none⟩) (some ⟨W1.heap.size, 0, none⟩) (spage 4 r9) word13 512 13 _ hrg (by rw [HP.out]; decide) (by rw [HP.out]; decide) hrd (by decide) (by decide) (hT.below hT.pos HB2.out)
  rw [hnf, hnq, hnr, HP.out, show word13.length = 13 from rfl] at cN
  have kc := Joins.run_convert_bytes_const_at (P := Tryd.prog) W1 22 5 #[.int .u8 97, .int .u8 110, .int .u8 121, .int .u8 116, .int .u8 104, .int .u8 105, .int .u8 110, .int .u8 103, .int .u8 32, .int .u8 101, .int .u8 108, .int .u8 115, .int .u8 101] 13 13 _ rfl Tryd.underlying22 Tryd.underlying5
  clear hbn hrd hrg hnf hnq hnr
  go_wp2_with fail
  refine cN.mono ?_
  rintro e W3 ⟨rfl, hb3⟩
  have HB3 := Lib.hid (bel_call HB2.out hb3)
  have hBN : Below W3.heap.size W3 (W3.alloc (.cells (SV 4 r9).toArray 56)) := (Below.refl _ _).alloc (Nat.le_refl _) _
  have HS4 := Lib.hid (sup_new W3 4 r9)
  have HB4 := Lib.hid (bel_call HB3.out hBN)
  clear cN hb3 hBN
  go_upto_region 3 with (refine wpList_st_new (op := ⟨none, _, _, _, _, _⟩) rfl (.tmp 2) (.tmp 13) rfl W3 4 r9 rfl rfl rfl r9_len rfl ?_)
  generalize W3.alloc (.cells (SV 4 r9).toArray 56) = W4 at *
  have c5 := write_any 5 zeros27 W4 (by decide) z27_len z27_lt (hT.below hT.pos HB4.out)
  refine wp_region_lit ?_
  refine wl_blt (op := ⟨some 16, _, _, _, _, _⟩) rfl _ rfl (SV 5 zeros27).toArray (by simpa [Act.eval] using built5) ?_
  go_wp2_with fail
  refine c5.mono ?_
  rintro e W5 ⟨g5, rfl, hg5, hgl5, hb5⟩
  have HS5 := Lib.hid (HS4.out.below hb5 HS4.out.lt)
  have HB5 := Lib.hid (bel_call HB4.out hb5)
  have hrg := hg5.rd 0 512 (by rw [HP5.out]; decide)
  rw [List.drop_zero, List.take_of_length_le (by rw [HP5.out]; decide)] at hrg
  have cR := read_any 0 (by decide) (some ⟨g5, 0, none⟩) (spage 5 zeros27) 512 W5 hrg (by rw [HP5.out]; decide) (by rw [HP5.out]; decide) (hT.below hT.pos HB5.out)
  have hf := fixed_old
  rw [sq, sr, if_neg (by rw [hf]; decide), if_neg (by rw [hf]; decide), hf, HP5.out] at cR
  clear hrg hg5 hb5 hgl5 c5 hf
  go_wp2_with fail
  refine cR.mono ?_
  rintro e W6 ⟨rfl, hb6⟩
  have HS6 := Lib.hid (HS5.out.below hb6 HS5.out.lt)
  have HB6 := Lib.hid (bel_call HB5.out hb6)
  have hBN : Below W6.heap.size W6 (W6.alloc (.cells (SV 0 zeros27).toArray 56)) := (Below.refl _ _).alloc (Nat.le_refl _) _
  have HS7 := Lib.hid (HS6.out.below hBN HS6.out.lt)
  have HB7 := Lib.hid (bel_call HB6.out hBN)
  clear cR hb6 hBN
  go_upto_region 4 with (refine wpList_st_new (op := ⟨none, _, _, _, _, _⟩) rfl (.tmp 4) (.tmp 19) rfl W6 0 zeros27 rfl rfl rfl z27_len rfl ?_)
  generalize W6.alloc (.cells (SV 0 zeros27).toArray 56) = W7 at *
  go_wp2_with (first
    | refine wl_ld (op := ⟨some 24, _, _, _, _, _⟩) rfl (.tmp 2) rfl W3.heap.size 4 r9 rfl HS7.out r9_len ?_
    | refine wl_blt (op := ⟨some 25, _, _, _, _, _⟩) rfl _ rfl (SV 4 r9).toArray (by simpa [Act.eval] using built49) ?_
    | refine wl_eq (op := ⟨some 26, _, _, _, _, _⟩) rfl (.tmp 24) (.tmp 25) 56 rfl 4 r9 rfl rfl r9_len ?_)
  go_ret
  exact ⟨rfl, HB7.out⟩
end Go.Proofs.YtcakicifgbnhcaaDoor
