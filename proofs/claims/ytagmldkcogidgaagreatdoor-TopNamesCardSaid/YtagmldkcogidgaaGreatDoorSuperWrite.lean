/- super.Write. -/
import Derived.Test.YtagmldkcogidgaaGreatDoorSuperGen
import Derived.Deep.WholeRow
namespace Go.Proofs.YtagmldkcogidgaaGreatDoor
set_option maxRecDepth 100000
open Go.RowKit Pgp
open Crcp (cmore)

set_option maxHeartbeats 2000000 in
theorem write_any (q : Nat) (r : List Nat) (w : World) (hq : q < 18446744073709551616) (hr : r.length = 27) (hrl : ∀ x ∈ r, x < 4294967296) (hT : Tab w) :
    Calls Tryz.prog 77 #[.agg (SV q r).toArray] w fun e w' => ∃ g, e = .returned (.slice (some ⟨g, 0, none⟩) 512 512) ∧ Blk w' g (spage q r) ∧ w.heap.size ≤ g ∧ Below w.heap.size w w' := by
  have hS0 : Sup (w.alloc (.cells (SV q r).toArray 104)) w.heap.size q r := by unfold Sup; exact heap_alloc_last w _
  have HS0 := Lib.hid hS0
  have c0 := hS0.at0
  have hO0 : OwnL (w.alloc (.cells (SV q r).toArray 104)) (w.heap.size + 1) (.slice none 0 0) [] := Own.nil _ _
  have hsz0 : w.heap.size + 1 ≤ (w.alloc (.cells (SV q r).toArray 104)).heap.size := by simp
  generalize hC : (SV q r).toArray = C at *
  have HC := Lib.hid hC
  clear hC hS0
  go_enter Tryz.func77, Tryz.ntmps77
  go_wp2_with fail
  have hB0 : Below w.heap.size w (w.alloc (.cells C 104)) := (Below.refl _ _).alloc (Nat.le_refl _) _
  generalize w.alloc (.cells C 104) = W0 at *
  have HB0 := Lib.hid hB0
  clear hB0
  have hz1 := wrap_u32_hi q hq
  have hz2 := wrap_u32_lo q
  have HZ := Lib.hid (And.intro hz1 hz2)
  clear hz1 hz2
  go_region_held3 (fun w' => w'.cell? ⟨w.heap.size, 0, none⟩ = some (.int .u64 (q : Int))) (first | go_keep | assumption)
    (first
      | (go_at_call_of 118 (Value.slice none 0 0); go_must (refine (put_z (w.heap.size + 1) (.slice none 0 0) [] _ (q / 4294967296) W0.drew HZ.out.1 (by omega) (Own.nil _ _) hsz0 (by decide)).mono ?_); rintro e w1 ⟨v1, rfl, ho1, hb1, -⟩; have hs1 : w.heap.size + 1 ≤ w1.heap.size := Nat.le_trans hsz0 hb1.size; have hc1 : w1.cell? ⟨w.heap.size, 0, none⟩ = some (.int .u64 (q : Int)) := (hb1.cell (p := ⟨w.heap.size, 0, none⟩) (Nat.lt_succ_self _)).trans c0)
      | (go_at_call 118; go_must (refine (put_z (w.heap.size + 1) v1 _ _ (q % 4294967296) w1 HZ.out.2 (by omega) ho1 hs1 (show 4 ≤ 1000 by decide)).mono ?_); rintro e w2 ⟨v2, rfl, ho2, hb2, -⟩; have hc2 : w2.cell? ⟨w.heap.size, 0, none⟩ = some (.int .u64 (q : Int)) := (hb2.cell (p := ⟨w.heap.size, 0, none⟩) (Nat.lt_succ_self _)).trans hc1))
  have hb02 : Below (w.heap.size + 1) W0 w2 := (Below.refl _ W0).drew.trans (hb1.trans hb2)
  have HB2 := Lib.hid (HB0.out.trans (hb02.mono (Nat.le_succ _)))
  have hS2 := HS0.out.below hb02 (Nat.lt_succ_self _)
  have hs2 : w.heap.size + 1 ≤ w2.heap.size := Nat.le_trans hs1 hb2.size
  obtain ⟨x1, hx1⟩ : ∃ x, x = r[0] := ⟨_, rfl⟩
  obtain ⟨x2, hx2⟩ : ∃ x, x = r[1] := ⟨_, rfl⟩
  obtain ⟨x3, hx3⟩ : ∃ x, x = r[2] := ⟨_, rfl⟩
  have c1 := hS2.at 0 (by omega)
  have c2 := hS2.at 1 (by omega)
  have c3 := hS2.at 2 (by omega)
  have l1 : x1 < 4294967296 := by rw [hx1]; exact hrl _ (List.getElem_mem _)
  have l2 : x2 < 4294967296 := by rw [hx2]; exact hrl _ (List.getElem_mem _)
  have l3 : x3 < 4294967296 := by rw [hx3]; exact hrl _ (List.getElem_mem _)
  rw [← hx1] at c1
  rw [← hx2] at c2
  rw [← hx3] at c3
  have HX := Lib.hid (And.intro hx1 (And.intro hx2 hx3))
  have HS2 := Lib.hid hS2
  clear hx1 hx2 hx3 hc1 hc2 c0 hb1 hb2 hb02 HS0 hS2 hs1 hsz0 hO0 HB0
  go_wp2_with fail
  go_region_held3 (fun w' => w'.cell? ⟨w.heap.size, 1, none⟩ = some (.int .u32 (x1 : Int)) ∧ w'.cell? ⟨w.heap.size, 2, none⟩ = some (.int .u32 (x2 : Int)) ∧ w'.cell? ⟨w.heap.size, 3, none⟩ = some (.int .u32 (x3 : Int))) (first | go_keep | exact ⟨by assumption, by assumption, by assumption⟩)
    (first
      | (go_at_call_of 118 v2; go_must (refine (put_z (w.heap.size + 1) v2 _ _ x1 w2.drew rfl l1 ho2 hs2 (show 8 ≤ 1000 by decide)).mono ?_); rintro e w3 ⟨v3, rfl, ho3, hb3, -⟩; have hs3 : w.heap.size + 1 ≤ w3.heap.size := Nat.le_trans hs2 hb3.size; have d31 := (hb3.cell (p := ⟨w.heap.size, 1, none⟩) (Nat.lt_succ_self _)).trans c1; have d32 := (hb3.cell (p := ⟨w.heap.size, 2, none⟩) (Nat.lt_succ_self _)).trans c2; have d33 := (hb3.cell (p := ⟨w.heap.size, 3, none⟩) (Nat.lt_succ_self _)).trans c3)
      | (go_at_call_of 118 v3; go_must (refine (put_z (w.heap.size + 1) v3 _ _ x2 w3 rfl l2 ho3 hs3 (show 12 ≤ 1000 by decide)).mono ?_); rintro e w4 ⟨v4, rfl, ho4, hb4, -⟩; have hs4 : w.heap.size + 1 ≤ w4.heap.size := Nat.le_trans hs3 hb4.size; have d41 := (hb4.cell (p := ⟨w.heap.size, 1, none⟩) (Nat.lt_succ_self _)).trans d31; have d42 := (hb4.cell (p := ⟨w.heap.size, 2, none⟩) (Nat.lt_succ_self _)).trans d32; have d43 := (hb4.cell (p := ⟨w.heap.size, 3, none⟩) (Nat.lt_succ_self _)).trans d33)
      | (go_at_call_of 118 v4; go_must (refine (put_z (w.heap.size + 1) v4 _ _ x3 w4 rfl l3 ho4 hs4 (show 16 ≤ 1000 by decide)).mono ?_); rintro e w5 ⟨v5, rfl, ho5, hb5, -⟩; have hs5 : w.heap.size + 1 ≤ w5.heap.size := Nat.le_trans hs4 hb5.size; have d51 := (hb5.cell (p := ⟨w.heap.size, 1, none⟩) (Nat.lt_succ_self _)).trans d41; have d52 := (hb5.cell (p := ⟨w.heap.size, 2, none⟩) (Nat.lt_succ_self _)).trans d42; have d53 := (hb5.cell (p := ⟨w.heap.size, 3, none⟩) (Nat.lt_succ_self _)).trans d43))
  have hb25 : Below (w.heap.size + 1) w2 w5 := (Below.refl _ w2).drew.trans (hb3.trans (hb4.trans hb5))
  have hS5 := HS2.out.below hb25 (Nat.lt_succ_self _)
  have hb05 := HB2.out.trans (hb25.mono (Nat.le_succ _))
  have hrange := hS5.range54
  have hsize : (Tryz.prog.info? 102).map (·.size) = some (U (r.drop 3)).length := by rw [size54, U_len, List.length_drop, hr]
  have h20 : [] ++ four (q / 4294967296) ++ four (q % 4294967296) ++ four x1 ++ four x2 ++ four x3 = sb q r 0 := by rw [sb_zero q r hr, HX.out.1, HX.out.2.1, HX.out.2.2]
  rw [h20] at ho5
  have HO5 := Lib.hid ho5
  have HS5 := Lib.hid hS5
  have HB5 := Lib.hid hb05
  clear hb25 hS5 hb05 h20 ho5 ho4 ho3 hb3 hb4 hb5 hs2 hs3 hs4 d31 d32 d33 d41 d42 d43 d51 d52 d53 c1 c2 c3 l1 l2 l3 ho1 ho2 HB2 HX HS2
  obtain ⟨L54, hL54⟩ : ∃ L, L = U (r.drop 3) := ⟨_, rfl⟩
  rw [← hL54] at hrange hsize
  have HA := Lib.hid hL54
  clear hL54
  go_wp2_with (refine wpList_load_mid (op := ⟨some 28, _, _, _, _, _⟩) rfl 102 (.tmp 27) rfl w.heap.size 4 rfl L54 _ hrange Tryz.underlying102 rfl hsize ?_)
  obtain ⟨A54, hA54⟩ : ∃ A, A = L54.toArray := ⟨_, rfl⟩
  rw [← hA54]
  have HA := Lib.hid (hA54.trans (by rw [HA.out]))
  clear hA54 hrange hsize
  go_loopw [3, 29] (fun v i wr => ∃ k : Nat, k ≤ 8 ∧ i = .int .i64 k ∧ OwnL wr (w.heap.size + 1) v (sb q r k) ∧ Sup wr w.heap.size q r ∧ w.heap.size + 1 ≤ wr.heap.size ∧ Below w.heap.size w wr) (fun _ i _ => 8 - (intOf i).toNat)
  case atStart => exact ⟨0, by omega, rfl, HO5.out, HS5.out, hs5, HB5.out⟩
  case round =>
    obtain ⟨k, hk, rfl, hown, hsup, hsz, hbel⟩ := hrel
    by_cases hlt : k < 8
    · have hix := run_at54 A54 k hlt _ _ _ (by rw [HA.out]; exact U_ext r k hr hlt)
      obtain ⟨y1, hy1⟩ : ∃ x, x = r[3 + 3 * k] := ⟨_, rfl⟩
      obtain ⟨y2, hy2⟩ : ∃ x, x = r[3 + 3 * k + 1] := ⟨_, rfl⟩
      obtain ⟨y3, hy3⟩ : ∃ x, x = r[3 + 3 * k + 2] := ⟨_, rfl⟩
      have m1 : y1 < 4294967296 := by rw [hy1]; exact hrl _ (List.getElem_mem _)
      have m2 : y2 < 4294967296 := by rw [hy2]; exact hrl _ (List.getElem_mem _)
      have m3 : y3 < 4294967296 := by rw [hy3]; exact hrl _ (List.getElem_mem _)
      rw [← hy1, ← hy2, ← hy3] at hix
      have HY := Lib.hid (show sb q r (k + 1) = sb q r k ++ four y1 ++ four y2 ++ four y3 by rw [sb_succ q r k hr hlt, hy1, hy2, hy3])
      have hst := st53 wr y1 y2 y3
      have hl0 := sb_len q r k hr hk
      clear hy1 hy2 hy3
      go_wp2_with fail
      have c0 : (wr.alloc (.cells #[.int .u32 (y1 : Int), .int .u32 (y2 : Int), .int .u32 (y3 : Int)] 101)).cell? ⟨wr.heap.size, 0, none⟩ = some (.int .u32 (y1 : Int)) := World.cell?_alloc_new _ _ _ _
      have c1 : (wr.alloc (.cells #[.int .u32 (y1 : Int), .int .u32 (y2 : Int), .int .u32 (y3 : Int)] 101)).cell? ⟨wr.heap.size, 1, none⟩ = some (.int .u32 (y2 : Int)) := World.cell?_alloc_new _ _ _ _
      have c2 : (wr.alloc (.cells #[.int .u32 (y1 : Int), .int .u32 (y2 : Int), .int .u32 (y3 : Int)] 101)).cell? ⟨wr.heap.size, 2, none⟩ = some (.int .u32 (y3 : Int)) := World.cell?_alloc_new _ _ _ _
      have hn6 : u3.ownBlock ≠ some wr.heap.size := fun e => by have := (hown.lt _ e).2; omega
      have hlt6 : wr.heap.size < (wr.alloc (.cells #[.int .u32 (y1 : Int), .int .u32 (y2 : Int), .int .u32 (y3 : Int)] 101)).heap.size := by simp
      have ho6 := hown.alloc (.cells #[.int .u32 (y1 : Int), .int .u32 (y2 : Int), .int .u32 (y3 : Int)] 101)
      have hs6 : w.heap.size + 1 ≤ (wr.alloc (.cells #[.int .u32 (y1 : Int), .int .u32 (y2 : Int), .int .u32 (y3 : Int)] 101)).heap.size := by simp; omega
      have hb6 : Below (w.heap.size + 1) wr (wr.alloc (.cells #[.int .u32 (y1 : Int), .int .u32 (y2 : Int), .int .u32 (y3 : Int)] 101)) := (Below.refl _ _).alloc hsz _
      have HB6 := Lib.hid hb6
      have HS6 := Lib.hid hsup
      have HBr := Lib.hid hbel
      clear hst hix hb6 hsup hbel hown
      generalize wr.alloc (.cells #[.int .u32 (y1 : Int), .int .u32 (y2 : Int), .int .u32 (y3 : Int)] 101) = w6 at *
      obtain ⟨v6, hv6⟩ : ∃ v, v = u3 := ⟨_, rfl⟩
      rw [← hv6] at ho6 hn6 ⊢
      clear hv6
      go_region_held3 (fun w' => w'.cell? ⟨wr.heap.size, 0, none⟩ = some (.int .u32 (y1 : Int)) ∧ w'.cell? ⟨wr.heap.size, 1, none⟩ = some (.int .u32 (y2 : Int)) ∧ w'.cell? ⟨wr.heap.size, 2, none⟩ = some (.int .u32 (y3 : Int))) (first | go_keep | exact ⟨by assumption, by assumption, by assumption⟩)
        (first
          | (go_at_call_of 118 v6; go_must (refine (put_z (w.heap.size + 1) v6 _ _ y1 w6.drew rfl m1 ho6 hs6 (by first | omega | (simp only [List.length_append, four_len]; omega))).mono ?_); rintro e w7 ⟨v7, rfl, ho7, hb7, hk7⟩; have hs7 : w.heap.size + 1 ≤ w7.heap.size := Nat.le_trans hs6 hb7.size; obtain ⟨he7, hn7⟩ := hk7 wr.heap.size hlt6 hn6; have hlt7 : wr.heap.size < w7.heap.size := Nat.lt_of_lt_of_le hlt6 hb7.size; have d70 := cell_of_heap he7 c0; have d71 := cell_of_heap he7 c1; have d72 := cell_of_heap he7 c2)
          | (go_at_call_of 118 v7; go_must (refine (put_z (w.heap.size + 1) v7 _ _ y2 w7 rfl m2 ho7 hs7 (by first | omega | (simp only [List.length_append, four_len]; omega))).mono ?_); rintro e w8 ⟨v8, rfl, ho8, hb8, hk8⟩; have hs8 : w.heap.size + 1 ≤ w8.heap.size := Nat.le_trans hs7 hb8.size; obtain ⟨he8, hn8⟩ := hk8 wr.heap.size hlt7 hn7; have hlt8 : wr.heap.size < w8.heap.size := Nat.lt_of_lt_of_le hlt7 hb8.size; have d80 := cell_of_heap he8 d70; have d81 := cell_of_heap he8 d71; have d82 := cell_of_heap he8 d72)
          | (go_at_call_of 118 v8; go_must (refine (put_z (w.heap.size + 1) v8 _ _ y3 w8 rfl m3 ho8 hs8 (by first | omega | (simp only [List.length_append, four_len]; omega))).mono ?_); rintro e w9 ⟨v9, rfl, ho9, hb9, hk9⟩; have hs9 : w.heap.size + 1 ≤ w9.heap.size := Nat.le_trans hs8 hb9.size; obtain ⟨he9, hn9⟩ := hk9 wr.heap.size hlt8 hn8; have hlt9 : wr.heap.size < w9.heap.size := Nat.lt_of_lt_of_le hlt8 hb9.size; have d90 := cell_of_heap he9 d80; have d91 := cell_of_heap he9 d81; have d92 := cell_of_heap he9 d82))
      rw [← HY.out] at ho9
      have hb69 : Below (w.heap.size + 1) wr w9 := HB6.out.trans ((Below.refl _ w6).drew.trans (hb7.trans (hb8.trans hb9)))
      have HO9 := Lib.hid ho9
      have HS9 := Lib.hid (HS6.out.below hb69 (Nat.lt_succ_self _))
      have HB9 := Lib.hid (HBr.out.trans (hb69.mono (Nat.le_succ _)))
      clear ho9 hb69 ho6 ho7 ho8 hb7 hb8 hb9 hk7 hk8 hk9 he7 he8 he9
      go_wp2
      go_roundw
      case rel => exact ⟨k + 1, by omega, by go_num, HO9.out, HS9.out, hs9, HB9.out⟩
      case measure => simp [intOf]; omega
    · obtain rfl : k = 8 := by omega
      have c0 := hsup.at0
      obtain ⟨A9, c9, rfl, hr9, _⟩ := own_list hown
      have hbl := sbody_len q r hr
      rw [sb_all q r hr] at hr9
      have hz : (q : Int) % 2 = ((q % 2 : Nat) : Int) := by omega
      have cS := seal_any (q % 2) 1 A9 (sbody q r) c9 wr (by omega) (by omega) hr9 (hT.below hT.pos hbel)
      rw [sb_all q r hr]
      rw [← hz] at cS
      have HB := Lib.hid hbel
      clear hown hsup hsz hbel hr9 hz hlt hk
      rw [hbl] at cS ⊢
      go_wp2_with fail
      refine cS.mono ?_
      rintro e w9 ⟨g, rfl, hg, hgl, hb9⟩
      have HF := Lib.hid (And.intro hg (And.intro (Nat.le_trans HB.out.size hgl) (bel_call HB.out hb9)))
      clear hg hgl hb9 cS
      go_wp2
      go_ret
      exact ⟨g, rfl, HF.out⟩
end Go.Proofs.YtagmldkcogidgaaGreatDoor
