/- SuperNewest: the newest of any two blocks is the document's. -/
import Derived.Test.YtcakicifgbnhcaaDoorSuperFix
import Derived.Test.YtcakicifgbnhcaaDoorSuperRefN
namespace Go.Proofs.YtcakicifgbnhcaaDoor
open Go.RowKit Pgp
open Crcp (cmore)

theorem nr_len (a b : List UInt8) : (nr a b).length = 27 := by
  unfold nr
  split
  · exact z27_len
  · split
    · exact (sr_ok 1 b).1
    · exact (sr_ok 0 a).1

set_option maxHeartbeats 2000000 in
theorem walk13 (A B : Option Addr) (a b : List UInt8) (c d : Nat) (w : World) (hA : Rd w A ⟨a.toArray⟩) (hc : a.length ≤ c) (hB : Rd w B ⟨b.toArray⟩) (hd : b.length ≤ d) (hT : Tab w) :
    Calls Tryd.prog 13 #[.slice A a.length c, .slice B b.length d] w fun e w' => e = .returned (.bool true) ∧ Below w.heap.size w w' := by
  by_cases ha : 600 < a.length
  · have F := fixed07_any w hT
    go_enter Tryd.func13, Tryd.ntmps13
    go_wp2_with fail
    refine F.mono ?_
    rintro e w2 ⟨rfl, hb⟩
    go_wp2
    go_ret
    exact ⟨rfl, hb⟩
  · by_cases hb : 600 < b.length
    · have F := fixed07_any w hT
      go_enter Tryd.func13, Tryd.ntmps13
      go_wp2_with fail
      refine F.mono ?_
      rintro e w2 ⟨rfl, hb⟩
      go_wp2
      go_ret
      exact ⟨rfl, hb⟩
    · have cN := newest_any A B a b c d w hA hc (by omega) hB hd (by omega) hT
      have hnl := nr_len a b
      have HL := Lib.hid (show a.length ≤ 1000 ∧ b.length ≤ 1000 from ⟨by omega, by omega⟩)
      go_enter Tryd.func13, Tryd.ntmps13
      go_wp2_with fail
      refine cN.mono ?_
      rintro e W1 ⟨rfl, hb1⟩
      have HS1 := Lib.hid (sup_new W1 (nq a b) (nr a b))
      have HB1 := Lib.hid (bel_call hb1 ((Below.refl W1.heap.size W1).alloc (Nat.le_refl _) (.cells (SV (nq a b) (nr a b)).toArray 56)))
      clear hb1 cN
      go_upto_region 4 with (refine wpList_st_new (op := ⟨none, _, _, _, _, _⟩) rfl (.tmp 5) (.tmp 22) rfl W1 (nq a b) (nr a b) rfl rfl rfl hnl rfl ?_)
      generalize W1.alloc (.cells (SV (nq a b) (nr a b)).toArray 56) = W2 at *
      have sA := str_rd (hA.below HB1.out) c
      have sB := str_rd (hB.below HB1.out) d
      have cR := refNewest_any a b W2 HL.out.1 HL.out.2
      go_wp2_with fail
      refine cR.mono ?_
      rintro e W3 ⟨rfl, hb3⟩
      have HS3 := Lib.hid (HS1.out.below hb3 HS1.out.lt)
      have HB3 := Lib.hid (bel_call HB1.out hb3)
      have HT4 := Lib.hid (sup_new W3 (nq a b) (nr a b))
      have hBN : Below W3.heap.size W3 (W3.alloc (.cells (SV (nq a b) (nr a b)).toArray 56)) := (Below.refl _ _).alloc (Nat.le_refl _) _
      have HS4 := Lib.hid (HS3.out.below hBN HS3.out.lt)
      have HB4 := Lib.hid (bel_call HB3.out hBN)
      clear hb3 hBN cR sA sB
      go_upto_region 5 with (refine wpList_st_new (op := ⟨none, _, _, _, _, _⟩) rfl (.tmp 7) (.tmp 30) rfl W3 (nq a b) (nr a b) rfl rfl rfl hnl rfl ?_)
      generalize W3.alloc (.cells (SV (nq a b) (nr a b)).toArray 56) = W4 at *
      have F := fixed07_any W4 (hT.below hT.pos HB4.out)
      go_wp2_with fail
      refine F.mono ?_
      rintro e W5 ⟨rfl, hb5⟩
      have HS5 := Lib.hid (HS4.out.below hb5 HS4.out.lt)
      have HT5 := Lib.hid (HT4.out.below hb5 HT4.out.lt)
      have HB5 := Lib.hid (bel_call HB4.out hb5)
      clear hb5 F
      go_wp2_with (first
        | refine wl_ld (op := ⟨some 34, _, _, _, _, _⟩) rfl (.tmp 5) rfl W1.heap.size (nq a b) (nr a b) rfl HS5.out hnl ?_
        | refine wl_ld (op := ⟨some 35, _, _, _, _, _⟩) rfl (.tmp 7) rfl W3.heap.size (nq a b) (nr a b) rfl HT5.out hnl ?_
        | refine wl_eq (op := ⟨some 36, _, _, _, _, _⟩) rfl (.tmp 34) (.tmp 35) 56 rfl (nq a b) (nr a b) rfl rfl hnl ?_)
      go_ret
      exact ⟨rfl, HB5.out⟩
end Go.Proofs.YtcakicifgbnhcaaDoor
