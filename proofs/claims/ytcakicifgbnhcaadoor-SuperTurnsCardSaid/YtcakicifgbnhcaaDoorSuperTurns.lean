/- SuperTurns: the turns of supers. -/
import Derived.Test.YtcakicifgbnhcaaDoorSuperFix
import Derived.Test.YtcakicifgbnhcaaDoorStill
namespace Go.Proofs.YtcakicifgbnhcaaDoor
open Go.RowKit Pgp
open Crcp (cmore)

theorem exec_ld {a : Act} {o : Oper} (x : Operand) (ho : o.op = .load 56 x) (B q : Nat) (r : List Nat) (hx : a.eval x = .pointer (some ⟨B, 0, none⟩)) {W : World} (hS : Sup W B q r) (hr : r.length = 27) :
    (execOp a.eval o).run Tryd.prog W = .ok (.value (.agg (SV q r).toArray)) W := by
  unfold execOp
  simp only [ho, hx, Sem.run_bind, Sem.run_pure, Result.andThen_ok, hS.load hr]
/-- a pair of slices in a block -/
def Pr (w : World) (n : Nat) (X Y : Value) : Prop := w.heap[n]? = some (.cells #[X, Y] 67 (0, 0))
theorem Pr.new (w : World) (X Y : Value) : Pr (w.alloc (.cells #[X, Y] 67)) w.heap.size X Y := by unfold Pr; exact heap_alloc_last w _
theorem Pr.c0 {w : World} {n : Nat} {X Y : Value} (h : Pr w n X Y) : w.cell? ⟨n, 0, none⟩ = some X := by unfold Pr at h; simp [World.cell?, h]
theorem Pr.c1 {w : World} {n : Nat} {X Y : Value} (h : Pr w n X Y) : w.cell? ⟨n, 1, none⟩ = some Y := by unfold Pr at h; simp [World.cell?, h]
theorem Pr.free {w : World} {n : Nat} {X Y : Value} (h : Pr w n X Y) (j : Nat) : w.frozen? ⟨n, j, none⟩ = false := by unfold Pr at h; simp [World.frozen?, h]
theorem Pr.lt {w : World} {n : Nat} {X Y : Value} (h : Pr w n X Y) : n < w.heap.size := (Array.getElem?_eq_some_iff.1 h).1
theorem Pr.below {w w' : World} {n : Nat} {X Y : Value} (h : Pr w n X Y) (hb : RowKit.Below w.heap.size w w') : Pr w' n X Y := (hb.block n h.lt).trans h
theorem Pr.st0 {w : World} {n : Nat} {X Y : Value} (h : Pr w n X Y) (Z : Value) : Pr (w.setCell ⟨n, 0, none⟩ Z) n Z Y := by
  unfold Pr at *
  simp [World.setCell, Array.getElem?_modify, h]
theorem Pr.st1 {w : World} {n : Nat} {X Y : Value} (h : Pr w n X Y) (Z : Value) : Pr (w.setCell ⟨n, 1, none⟩ Z) n X Z := by
  unfold Pr at *
  simp [World.setCell, Array.getElem?_modify, h]
theorem Blk.grown {w w' : World} {g : Nat} {L : List UInt8} {row : Option Nat} (h : Blk w g L) (hg : w.grownBy w' row) (hne : some g ≠ row) : Blk w' g L := (hg.block g (Array.getElem?_eq_some_iff.1 h).1 hne).trans h
theorem Blk.whole {w : World} {g : Nat} {L : List UInt8} (h : Blk w g L) (hl : L.length = 512) : Rd w (some ⟨g, 0, none⟩) ⟨L.toArray⟩ := by
  have := h.rd 0 512 (by omega)
  rwa [List.drop_zero, List.take_of_length_le (by omega)] at this
theorem str600 (t : List UInt8) (h : ¬ 600 < t.length) : t.length ≤ 1000000 := by omega

set_option maxRecDepth 20000 in
set_option maxHeartbeats 4000000 in
theorem walk14_0 (q : Nat) (r : List Nat) (q' : Nat) (r' : List Nat) (A : Option Addr) (t : List UInt8) (c : Nat) (w : World) (hq : q + 1 < 18446744073709551616) (hp : (q + 1) % 2 = 0) (hr : r.length = 27) (hr' : r'.length = 27) (hrl : ∀ x ∈ r, x < 4294967296) (hrl' : ∀ x ∈ r', x < 4294967296)
    (hA : Rd w A ⟨t.toArray⟩) (hc : t.length ≤ c) (ht : ¬ 600 < t.length) (hT : Tab w) :
    Calls Tryd.prog 14 #[.agg (SV q r).toArray, .agg (SV q' r').toArray, .slice A t.length c] w fun e w' => e = .returned (.bool true) ∧ RowKit.Below w.heap.size w w' := by
  have hS0 := sup_new w q r
  have hB0 : RowKit.Below w.heap.size w (w.alloc (.cells (SV q r).toArray 56)) := (Below.refl _ _).alloc (Nat.le_refl _) _
  have hS1 := sup_new (w.alloc (.cells (SV q r).toArray 56)) q' r'
  have hB1 : RowKit.Below (w.alloc (.cells (SV q r).toArray 56)).heap.size (w.alloc (.cells (SV q r).toArray 56)) ((w.alloc (.cells (SV q r).toArray 56)).alloc (.cells (SV q' r').toArray 56)) := (Below.refl _ _).alloc (Nat.le_refl _) _
  have HS := Lib.hid (hS0.below hB1 hS0.lt)
  have HN := Lib.hid (show Sup _ (w.heap.size + 1) q' r' by simpa using hS1)
  have HB := Lib.hid (bel_call hB0 hB1)
  have HP := Lib.hid (And.intro (spage_len q r hr) (spage_len (q + 1) r' hr'))
  have HTN := Lib.hid (turn_new q r r' hq hr hr' hrl hrl' (spage (q + 1) r') (spage q r) (.inr ⟨hp, rfl, rfl⟩))
  have HTO := Lib.hid (fun (hbad : sfault 0 t ≠ 0) => turn_old q r (by omega) hr hrl t (t) (spage q r) (by rw [hp]; exact hbad) (.inr ⟨hp, rfl, rfl⟩))
  clear hS0 hB0 hS1 hB1
  generalize hC : (SV q r).toArray = C at *
  generalize hD : (SV q' r').toArray = D at *
  go_enter Tryd.func14, Tryd.ntmps14
  go_upto_region 1 with fail
  generalize (w.alloc (.cells C 56)).alloc (.cells D 56) = W0 at *
  subst hC
  subst hD
  have q0 := HS.out.at0
  have n0 := HN.out.at0
  have f0 := HN.out.free 0
  have hqe : ((q : Int) == 18446744073709551615) = false := beq_eq_false_iff_ne.2 (by omega)
  have hw1 : IntKind.u64.wrap ((q : Int) + 1) = ((q + 1 : Nat) : Int) := by rw [IntKind.wrap_u64]; omega
  have HQ := Lib.hid hq
  clear hq
  go_upto_region 4 with fail
  have he1 : ((q + 1 : Nat) : Int) = (q : Int) + 1 := by omega
  have HS1 := Lib.hid (HS.out.grown (set_grown W0 (w.heap.size + 1) 0 (.int .u64 ((q : Int) + 1))) (by simp))
  have hN1 := HN.out.store0 (q + 1)
  rw [he1] at hN1
  have HN1 := Lib.hid hN1
  have HB1 := Lib.hid (below_setCells (show w.heap.size ≤ w.heap.size + 1 by omega) [.int .u64 ((q : Int) + 1)] 0 W0 HB.out)
  have HB1 := Lib.hid (show RowKit.Below w.heap.size w (W0.setCell ⟨w.heap.size + 1, 0, none⟩ (.int .u64 ((q : Int) + 1))) from HB1.out)
  clear he1 hN1
  clear hqe hw1 q0 n0 f0
  generalize W0.setCell ⟨w.heap.size + 1, 0, none⟩ (.int .u64 ((q : Int) + 1)) = W1 at *
  have hq := HQ.out
  have c1 := write_any q r W1.drew (by omega) hr hrl (hT.below hT.pos (bel_drew HB1.out))
  refine wp_region_held_drew (S := fun W => Sup W w.heap.size q r ∧ Sup W (w.heap.size + 1) (q + 1) r') (by kernel_rfl) ?_ (fun hH => ?_)
  · exact ⟨HS1.out, HN1.out⟩
  refine wpAnyH_take (i := 0) (oi := ⟨some 30, _, _, _, _, _⟩) (v := .agg (SV q r).toArray) rfl (by kernel_rfl) (by kernel_rfl) (by kernel_rfl) (fun _ _ _ h => h) (Or.inl ⟨by rfl, fun W hW => ?_⟩) hH ?_
  · exact exec_ld (.tmp 3) rfl w.heap.size q r rfl hW.1 hr
  simp only [Act.put, List.setIfInBounds_toArray, List.set_cons_zero, List.set_cons_succ]
  refine wpAnyH_take (i := 2) (oi := ⟨some 32, _, _, _, _, _⟩) (v := .agg (SV (q + 1) r').toArray) rfl (by kernel_rfl) (by kernel_rfl) (by kernel_rfl) (fun _ _ _ h => h) (Or.inl ⟨by rfl, fun W hW => ?_⟩) hH ?_
  · exact exec_ld (.tmp 4) rfl (w.heap.size + 1) (q + 1) r' rfl hW.2 hr'
  simp only [Act.put, List.setIfInBounds_toArray, List.set_cons_zero, List.set_cons_succ]
  refine wpAnyH_ready (rs := [1]) (by kernel_rfl) (by simp) ?_
  refine AllReadyH.cons (o := ⟨some 31, _, _, _, _, _⟩) rfl (fun K hK => ?_) AllReadyH.nil
  rw [if_pos (by rfl)]
  go_simp
  refine c1.mono ?_
  rintro e W2 ⟨g1, rfl, hg1, hgl1, hb2⟩
  have HS2 := Lib.hid ((show Sup W1.drew w.heap.size q r from HS1.out).below hb2 HS1.out.lt)
  have HN2 := Lib.hid ((show Sup W1.drew (w.heap.size + 1) (q + 1) r' from HN1.out).below hb2 HN1.out.lt)
  have HB2 := Lib.hid (bel_call (bel_drew HB1.out) hb2)
  have HG2 := Lib.hid hg1
  have HGL := Lib.hid hgl1
  have c2 := write_any (q + 1) r' W2 hq hr' hrl' (hT.below hT.pos HB2.out)
  clear hg1 hgl1 hb2 c1 hH
  refine hK.out _ _ ⟨HS2.out, HN2.out⟩ (fun hH => ?_)
  clear hK K
  try simp only [Act.put, List.setIfInBounds_toArray, List.set_cons_zero, List.set_cons_succ]
  refine wpAnyH_ready (rs := [3]) (by kernel_rfl) (by simp) ?_
  refine AllReadyH.cons (o := ⟨some 33, _, _, _, _, _⟩) rfl (fun K hK => ?_) AllReadyH.nil
  rw [if_pos (by rfl)]
  go_simp
  refine c2.mono ?_
  rintro e W3 ⟨g2, rfl, hg2, hgl2, hb3⟩
  have HS3 := Lib.hid (HS2.out.below hb3 HS2.out.lt)
  have HN3 := Lib.hid (HN2.out.below hb3 HN2.out.lt)
  have HG3 := Lib.hid (HG2.out.below hb3)
  have HK3 := Lib.hid hg2
  have HB3 := Lib.hid (bel_call HB2.out hb3)
  clear hg2 hgl2 hb3 c2 hH
  refine hK.out _ _ ⟨HS3.out, HN3.out⟩ (fun hH => ?_)
  clear hK K
  try simp only [Act.put, List.setIfInBounds_toArray, List.set_cons_zero, List.set_cons_succ]
  refine wpAnyH_take (i := 4) (oi := ⟨some 7, _, _, _, _, _⟩) (v := ?v4) rfl (by kernel_rfl) (by kernel_rfl) (by kernel_rfl) (fun _ _ _ h => h) (Or.inl ⟨by rfl, ?y4⟩) hH ?r4
  case y4 =>
    intro W _
    go_simp
    with_reducible rfl
  case r4 =>
  simp only [Act.put, List.setIfInBounds_toArray, List.set_cons_zero, List.set_cons_succ]
  refine wpAnyH_take (i := 5) (oi := ⟨some 8, _, _, _, _, _⟩) (v := ?v5) rfl (by kernel_rfl) (by kernel_rfl) (by kernel_rfl) (fun _ _ _ h => h) (Or.inl ⟨by rfl, ?y5⟩) hH ?r5
  case y5 =>
    intro W _
    go_simp
    with_reducible rfl
  case r5 =>
  simp only [Act.put, List.setIfInBounds_toArray, List.set_cons_zero, List.set_cons_succ]
  refine wpAnyH_done (by kernel_rfl) ?_ _
  clear hH
  have n3 := HN3.out.at0
  rw [show ((q + 1 : Nat) : Int) = (q : Int) + 1 by omega] at n3
  have hz : ((q : Int) + 1).tmod 2 = 0 := by rw [Int.tmod_eq_emod_of_nonneg (by omega)]; omega
  have hz2 : ((q : Int) + 1) % 2 = 0 := by omega
  have c6 := read_any 0 (by decide) A t c W3 (hA.below HB3.out) hc (str600 t ht) (hT.below hT.pos HB3.out)
  have hrt := (sr_ok 0 t).1
  clear hq
  go_wp2_with fail
  refine c6.mono ?_
  rintro e W4 ⟨rfl, hb4⟩
  have HS4 := Lib.hid (HS3.out.below hb4 HS3.out.lt)
  have HN4 := Lib.hid (HN3.out.below hb4 HN3.out.lt)
  have HG4 := Lib.hid (HG3.out.below hb4)
  have HK4 := Lib.hid (HK3.out.below hb4)
  have HB4 := Lib.hid (bel_call HB3.out hb4)
  have hBN : RowKit.Below W4.heap.size W4 (W4.alloc (.cells (SV (sq 0 t) (sr 0 t)).toArray 56)) := (Below.refl _ _).alloc (Nat.le_refl _) _
  have HS5 := Lib.hid (HS4.out.below hBN HS4.out.lt)
  have HN5 := Lib.hid (HN4.out.below hBN HN4.out.lt)
  have HG5 := Lib.hid (HG4.out.below hBN)
  have HK5 := Lib.hid (HK4.out.below hBN)
  have HB5 := Lib.hid (bel_call HB4.out hBN)
  clear hb4 hBN c6 n3 hz hz2
  go_upto_region 7 with (refine wpList_st_new (op := ⟨none, _, _, _, _, _⟩) rfl (.tmp 10) (.tmp 42) rfl W4 (sq 0 t) (sr 0 t) rfl rfl rfl hrt rfl ?_)
  generalize W4.alloc (.cells (SV (sq 0 t) (sr 0 t)).toArray 56) = W5 at *
  go_upto_region 9 with fail
  have hp0 := Pr.new W5 (.slice (some ⟨g2, 0, none⟩) 512 512) (.slice (some ⟨g1, 0, none⟩) 512 512)
  have hBN : RowKit.Below W5.heap.size W5 (W5.alloc (.cells #[.slice (some ⟨g2, 0, none⟩) 512 512, .slice (some ⟨g1, 0, none⟩) 512 512] 67)) := (Below.refl _ _).alloc (Nat.le_refl _) _
  have HS6 := Lib.hid (HS5.out.below hBN HS5.out.lt)
  have HN6 := Lib.hid (HN5.out.below hBN HN5.out.lt)
  have HG6 := Lib.hid (HG5.out.below hBN)
  have HK6 := Lib.hid (HK5.out.below hBN)
  have HB6 := Lib.hid (bel_call HB5.out hBN)
  have HLG := Lib.hid (And.intro (Nat.lt_of_lt_of_le (Array.getElem?_eq_some_iff.1 HG5.out).1 (Nat.le_refl _)) (And.intro HS5.out.lt HB5.out.size))
  generalize W5.alloc (.cells #[.slice (some ⟨g2, 0, none⟩) 512 512, .slice (some ⟨g1, 0, none⟩) 512 512] 67) = W6 at *
  generalize W5.heap.size = n at *
  have HP6 := Lib.hid hp0
  have p0 := hp0.c0
  have p1 := hp0.c1
  have cN := newest_any (some ⟨g2, 0, none⟩) (some ⟨g1, 0, none⟩) (spage (q + 1) r') (spage q r) 512 512 W6 (HK6.out.whole HP.out.2) (by rw [HP.out.2]; decide) (by rw [HP.out.2]; decide) (HG6.out.whole HP.out.1) (by rw [HP.out.1]; decide) (by rw [HP.out.1]; decide) (hT.below hT.pos HB6.out)
  rw [HTN.out.1, HTN.out.2.1, HTN.out.2.2, HP.out.2, HP.out.1] at cN
  clear hBN hp0
  go_wp2_with fail
  refine cN.mono ?_
  rintro e W7 ⟨rfl, hb7⟩
  have HS7 := Lib.hid (HS6.out.below hb7 HS6.out.lt)
  have HN7 := Lib.hid (HN6.out.below hb7 HN6.out.lt)
  have HG7 := Lib.hid (HG6.out.below hb7)
  have HP7 := Lib.hid (HP6.out.below hb7)
  have HB7 := Lib.hid (bel_call HB6.out hb7)
  have hBN : RowKit.Below W7.heap.size W7 (W7.alloc (.cells (SV (q + 1) r').toArray 56)) := (Below.refl _ _).alloc (Nat.le_refl _) _
  have HX8 := Lib.hid (sup_new W7 (q + 1) r')
  have HS8 := Lib.hid (HS7.out.below hBN HS7.out.lt)
  have HN8 := Lib.hid (HN7.out.below hBN HN7.out.lt)
  have HG8 := Lib.hid (HG7.out.below hBN)
  have HP8 := Lib.hid (HP7.out.below hBN)
  have HB8 := Lib.hid (bel_call HB7.out hBN)
  clear hb7 hBN cN p0 p1
  go_upto_region 10 with (refine wpList_st_new (op := ⟨none, _, _, _, _, _⟩) rfl (.tmp 13) (.tmp 56) rfl W7 (q + 1) r' rfl rfl rfl hr' rfl ?_)
  generalize W7.alloc (.cells (SV (q + 1) r').toArray 56) = W8 at *
  have p0 := HP8.out.c0
  have p1 := HP8.out.c1
  have fz := HP8.out.free 0
  by_cases hbad : sfault 0 t = 0
  · have hb2 : ((sfault 0 t : Int) == 0) = true := by rw [hbad]; rfl
    have F := fixed07_any W8 (hT.below hT.pos HB8.out)
    go_wp2_with (first
      | refine wl_ld (op := ⟨some 61, _, _, _, _, _⟩) rfl (.tmp 13) rfl W7.heap.size (q + 1) r' rfl HX8.out hr' ?_
      | refine wl_ld (op := ⟨some 62, _, _, _, _, _⟩) rfl (.tmp 4) rfl (w.heap.size + 1) (q + 1) r' rfl HN8.out hr' ?_
      | refine wl_ne (op := ⟨some 63, _, _, _, _, _⟩) rfl (.tmp 61) (.tmp 62) 56 rfl (q + 1) r' rfl rfl hr' ?_)
    refine F.mono ?_
    rintro e W9 ⟨rfl, hb9⟩
    have HB9 := Lib.hid (bel_call HB8.out hb9)
    clear hb9 F
    go_wp2
    go_ret
    exact ⟨rfl, HB9.out⟩
  · have hb2 : ((sfault 0 t : Int) == 0) = false := beq_eq_false_iff_ne.2 (by omega)
    have HTO2 := Lib.hid (HTO.out hbad)
    clear hbad
    go_upto_region 14 with (first
      | refine wl_ld (op := ⟨some 61, _, _, _, _, _⟩) rfl (.tmp 13) rfl W7.heap.size (q + 1) r' rfl HX8.out hr' ?_
      | refine wl_ld (op := ⟨some 62, _, _, _, _, _⟩) rfl (.tmp 4) rfl (w.heap.size + 1) (q + 1) r' rfl HN8.out hr' ?_
      | refine wl_ne (op := ⟨some 63, _, _, _, _, _⟩) rfl (.tmp 61) (.tmp 62) 56 rfl (q + 1) r' rfl rfl hr' ?_)
    go_upto_region 15 with fail
    have HS9 := Lib.hid (HS8.out.grown (set_grown W8 n 0 (.slice A t.length c)) (by have := HLG.out.2.1; have := HB.out.size; simp; omega))
    have HG9 := Lib.hid (HG8.out.grown (set_grown W8 n 0 (.slice A t.length c)) (by have := HLG.out.1; simp; omega))
    have HP9 := Lib.hid (HP8.out.st0 (.slice A t.length c))
    have HB9 := Lib.hid (below_setCells HLG.out.2.2 [.slice A t.length c] 0 W8 HB8.out)
    have HB9 := Lib.hid (show RowKit.Below w.heap.size w (W8.setCell ⟨n, 0, none⟩ (.slice A t.length c)) from HB9.out)
    clear p0 p1 fz
    generalize W8.setCell ⟨n, 0, none⟩ (.slice A t.length c) = W9 at *
    have p0 := HP9.out.c0
    have p1 := HP9.out.c1
    have cN := newest_any A (some ⟨g1, 0, none⟩) t (spage q r) c 512 W9 (hA.below HB9.out) hc (str600 t ht) (HG9.out.whole HP.out.1) (by rw [HP.out.1]; decide) (by rw [HP.out.1]; decide) (hT.below hT.pos HB9.out)
    rw [HTO2.out.1, HTO2.out.2.1, HTO2.out.2.2, HP.out.1] at cN
    go_wp2_with fail
    refine cN.mono ?_
    rintro e W10 ⟨rfl, hb10⟩
    have HSa := Lib.hid (HS9.out.below hb10 HS9.out.lt)
    have HBa := Lib.hid (bel_call HB9.out hb10)
    have hBN : RowKit.Below W10.heap.size W10 (W10.alloc (.cells (SV q r).toArray 56)) := (Below.refl _ _).alloc (Nat.le_refl _) _
    have HY := Lib.hid (sup_new W10 q r)
    have HSb := Lib.hid (HSa.out.below hBN HSa.out.lt)
    have HBb := Lib.hid (bel_call HBa.out hBN)
    clear hb10 hBN cN p0 p1
    go_upto_region 16 with (refine wpList_st_new (op := ⟨none, _, _, _, _, _⟩) rfl (.tmp 15) (.tmp 77) rfl W10 q r rfl rfl rfl hr rfl ?_)
    generalize W10.alloc (.cells (SV q r).toArray 56) = W11 at *
    have F := fixed07_any W11 (hT.below hT.pos HBb.out)
    go_wp2_with fail
    refine F.mono ?_
    rintro e W12 ⟨rfl, hb12⟩
    have HSc := Lib.hid (HSb.out.below hb12 HSb.out.lt)
    have HYc := Lib.hid (HY.out.below hb12 HY.out.lt)
    have HBc := Lib.hid (bel_call HBb.out hb12)
    clear hb12 F
    go_wp2_with (first
      | refine wl_ld (op := ⟨some 85, _, _, _, _, _⟩) rfl (.tmp 15) rfl W10.heap.size q r rfl HYc.out hr ?_
      | refine wl_ld (op := ⟨some 86, _, _, _, _, _⟩) rfl (.tmp 3) rfl w.heap.size q r rfl HSc.out hr ?_
      | refine wl_eq (op := ⟨some 87, _, _, _, _, _⟩) rfl (.tmp 85) (.tmp 86) 56 rfl q r rfl rfl hr ?_)
    go_ret
    exact ⟨rfl, HBc.out⟩

set_option maxRecDepth 20000 in
set_option maxHeartbeats 4000000 in
theorem walk14_1 (q : Nat) (r : List Nat) (q' : Nat) (r' : List Nat) (A : Option Addr) (t : List UInt8) (c : Nat) (w : World) (hq : q + 1 < 18446744073709551616) (hp : (q + 1) % 2 = 1) (hr : r.length = 27) (hr' : r'.length = 27) (hrl : ∀ x ∈ r, x < 4294967296) (hrl' : ∀ x ∈ r', x < 4294967296)
    (hA : Rd w A ⟨t.toArray⟩) (hc : t.length ≤ c) (ht : ¬ 600 < t.length) (hT : Tab w) :
    Calls Tryd.prog 14 #[.agg (SV q r).toArray, .agg (SV q' r').toArray, .slice A t.length c] w fun e w' => e = .returned (.bool true) ∧ RowKit.Below w.heap.size w w' := by
  have hS0 := sup_new w q r
  have hB0 : RowKit.Below w.heap.size w (w.alloc (.cells (SV q r).toArray 56)) := (Below.refl _ _).alloc (Nat.le_refl _) _
  have hS1 := sup_new (w.alloc (.cells (SV q r).toArray 56)) q' r'
  have hB1 : RowKit.Below (w.alloc (.cells (SV q r).toArray 56)).heap.size (w.alloc (.cells (SV q r).toArray 56)) ((w.alloc (.cells (SV q r).toArray 56)).alloc (.cells (SV q' r').toArray 56)) := (Below.refl _ _).alloc (Nat.le_refl _) _
  have HS := Lib.hid (hS0.below hB1 hS0.lt)
  have HN := Lib.hid (show Sup _ (w.heap.size + 1) q' r' by simpa using hS1)
  have HB := Lib.hid (bel_call hB0 hB1)
  have HP := Lib.hid (And.intro (spage_len q r hr) (spage_len (q + 1) r' hr'))
  have HTN := Lib.hid (turn_new q r r' hq hr hr' hrl hrl' (spage q r) (spage (q + 1) r') (.inl ⟨hp, rfl, rfl⟩))
  have HTO := Lib.hid (fun (hbad : sfault 1 t ≠ 0) => turn_old q r (by omega) hr hrl t (spage q r) (t) (by rw [hp]; exact hbad) (.inl ⟨hp, rfl, rfl⟩))
  clear hS0 hB0 hS1 hB1
  generalize hC : (SV q r).toArray = C at *
  generalize hD : (SV q' r').toArray = D at *
  go_enter Tryd.func14, Tryd.ntmps14
  go_upto_region 1 with fail
  generalize (w.alloc (.cells C 56)).alloc (.cells D 56) = W0 at *
  subst hC
  subst hD
  have q0 := HS.out.at0
  have n0 := HN.out.at0
  have f0 := HN.out.free 0
  have hqe : ((q : Int) == 18446744073709551615) = false := beq_eq_false_iff_ne.2 (by omega)
  have hw1 : IntKind.u64.wrap ((q : Int) + 1) = ((q + 1 : Nat) : Int) := by rw [IntKind.wrap_u64]; omega
  have HQ := Lib.hid hq
  clear hq
  go_upto_region 4 with fail
  have he1 : ((q + 1 : Nat) : Int) = (q : Int) + 1 := by omega
  have HS1 := Lib.hid (HS.out.grown (set_grown W0 (w.heap.size + 1) 0 (.int .u64 ((q : Int) + 1))) (by simp))
  have hN1 := HN.out.store0 (q + 1)
  rw [he1] at hN1
  have HN1 := Lib.hid hN1
  have HB1 := Lib.hid (below_setCells (show w.heap.size ≤ w.heap.size + 1 by omega) [.int .u64 ((q : Int) + 1)] 0 W0 HB.out)
  have HB1 := Lib.hid (show RowKit.Below w.heap.size w (W0.setCell ⟨w.heap.size + 1, 0, none⟩ (.int .u64 ((q : Int) + 1))) from HB1.out)
  clear he1 hN1
  clear hqe hw1 q0 n0 f0
  generalize W0.setCell ⟨w.heap.size + 1, 0, none⟩ (.int .u64 ((q : Int) + 1)) = W1 at *
  have hq := HQ.out
  have c1 := write_any q r W1.drew (by omega) hr hrl (hT.below hT.pos (bel_drew HB1.out))
  refine wp_region_held_drew (S := fun W => Sup W w.heap.size q r ∧ Sup W (w.heap.size + 1) (q + 1) r') (by kernel_rfl) ?_ (fun hH => ?_)
  · exact ⟨HS1.out, HN1.out⟩
  refine wpAnyH_take (i := 0) (oi := ⟨some 30, _, _, _, _, _⟩) (v := .agg (SV q r).toArray) rfl (by kernel_rfl) (by kernel_rfl) (by kernel_rfl) (fun _ _ _ h => h) (Or.inl ⟨by rfl, fun W hW => ?_⟩) hH ?_
  · exact exec_ld (.tmp 3) rfl w.heap.size q r rfl hW.1 hr
  simp only [Act.put, List.setIfInBounds_toArray, List.set_cons_zero, List.set_cons_succ]
  refine wpAnyH_take (i := 2) (oi := ⟨some 32, _, _, _, _, _⟩) (v := .agg (SV (q + 1) r').toArray) rfl (by kernel_rfl) (by kernel_rfl) (by kernel_rfl) (fun _ _ _ h => h) (Or.inl ⟨by rfl, fun W hW => ?_⟩) hH ?_
  · exact exec_ld (.tmp 4) rfl (w.heap.size + 1) (q + 1) r' rfl hW.2 hr'
  simp only [Act.put, List.setIfInBounds_toArray, List.set_cons_zero, List.set_cons_succ]
  refine wpAnyH_ready (rs := [1]) (by kernel_rfl) (by simp) ?_
  refine AllReadyH.cons (o := ⟨some 31, _, _, _, _, _⟩) rfl (fun K hK => ?_) AllReadyH.nil
  rw [if_pos (by rfl)]
  go_simp
  refine c1.mono ?_
  rintro e W2 ⟨g1, rfl, hg1, hgl1, hb2⟩
  have HS2 := Lib.hid ((show Sup W1.drew w.heap.size q r from HS1.out).below hb2 HS1.out.lt)
  have HN2 := Lib.hid ((show Sup W1.drew (w.heap.size + 1) (q + 1) r' from HN1.out).below hb2 HN1.out.lt)
  have HB2 := Lib.hid (bel_call (bel_drew HB1.out) hb2)
  have HG2 := Lib.hid hg1
  have HGL := Lib.hid hgl1
  have c2 := write_any (q + 1) r' W2 hq hr' hrl' (hT.below hT.pos HB2.out)
  clear hg1 hgl1 hb2 c1 hH
  refine hK.out _ _ ⟨HS2.out, HN2.out⟩ (fun hH => ?_)
  clear hK K
  try simp only [Act.put, List.setIfInBounds_toArray, List.set_cons_zero, List.set_cons_succ]
  refine wpAnyH_ready (rs := [3]) (by kernel_rfl) (by simp) ?_
  refine AllReadyH.cons (o := ⟨some 33, _, _, _, _, _⟩) rfl (fun K hK => ?_) AllReadyH.nil
  rw [if_pos (by rfl)]
  go_simp
  refine c2.mono ?_
  rintro e W3 ⟨g2, rfl, hg2, hgl2, hb3⟩
  have HS3 := Lib.hid (HS2.out.below hb3 HS2.out.lt)
  have HN3 := Lib.hid (HN2.out.below hb3 HN2.out.lt)
  have HG3 := Lib.hid (HG2.out.below hb3)
  have HK3 := Lib.hid hg2
  have HB3 := Lib.hid (bel_call HB2.out hb3)
  clear hg2 hgl2 hb3 c2 hH
  refine hK.out _ _ ⟨HS3.out, HN3.out⟩ (fun hH => ?_)
  clear hK K
  try simp only [Act.put, List.setIfInBounds_toArray, List.set_cons_zero, List.set_cons_succ]
  refine wpAnyH_take (i := 4) (oi := ⟨some 7, _, _, _, _, _⟩) (v := ?v4) rfl (by kernel_rfl) (by kernel_rfl) (by kernel_rfl) (fun _ _ _ h => h) (Or.inl ⟨by rfl, ?y4⟩) hH ?r4
  case y4 =>
    intro W _
    go_simp
    with_reducible rfl
  case r4 =>
  simp only [Act.put, List.setIfInBounds_toArray, List.set_cons_zero, List.set_cons_succ]
  refine wpAnyH_take (i := 5) (oi := ⟨some 8, _, _, _, _, _⟩) (v := ?v5) rfl (by kernel_rfl) (by kernel_rfl) (by kernel_rfl) (fun _ _ _ h => h) (Or.inl ⟨by rfl, ?y5⟩) hH ?r5
  case y5 =>
    intro W _
    go_simp
    with_reducible rfl
  case r5 =>
  simp only [Act.put, List.setIfInBounds_toArray, List.set_cons_zero, List.set_cons_succ]
  refine wpAnyH_done (by kernel_rfl) ?_ _
  clear hH
  have n3 := HN3.out.at0
  rw [show ((q + 1 : Nat) : Int) = (q : Int) + 1 by omega] at n3
  have hz : ((q : Int) + 1).tmod 2 = 1 := by rw [Int.tmod_eq_emod_of_nonneg (by omega)]; omega
  have hz2 : ((q : Int) + 1) % 2 = 1 := by omega
  have c6 := read_any 1 (by decide) A t c W3 (hA.below HB3.out) hc (str600 t ht) (hT.below hT.pos HB3.out)
  have hrt := (sr_ok 1 t).1
  clear hq
  go_wp2_with fail
  refine c6.mono ?_
  rintro e W4 ⟨rfl, hb4⟩
  have HS4 := Lib.hid (HS3.out.below hb4 HS3.out.lt)
  have HN4 := Lib.hid (HN3.out.below hb4 HN3.out.lt)
  have HG4 := Lib.hid (HG3.out.below hb4)
  have HK4 := Lib.hid (HK3.out.below hb4)
  have HB4 := Lib.hid (bel_call HB3.out hb4)
  have hBN : RowKit.Below W4.heap.size W4 (W4.alloc (.cells (SV (sq 1 t) (sr 1 t)).toArray 56)) := (Below.refl _ _).alloc (Nat.le_refl _) _
  have HS5 := Lib.hid (HS4.out.below hBN HS4.out.lt)
  have HN5 := Lib.hid (HN4.out.below hBN HN4.out.lt)
  have HG5 := Lib.hid (HG4.out.below hBN)
  have HK5 := Lib.hid (HK4.out.below hBN)
  have HB5 := Lib.hid (bel_call HB4.out hBN)
  clear hb4 hBN c6 n3 hz hz2
  go_upto_region 7 with (refine wpList_st_new (op := ⟨none, _, _, _, _, _⟩) rfl (.tmp 10) (.tmp 42) rfl W4 (sq 1 t) (sr 1 t) rfl rfl rfl hrt rfl ?_)
  generalize W4.alloc (.cells (SV (sq 1 t) (sr 1 t)).toArray 56) = W5 at *
  go_upto_region 9 with fail
  have hp0 := Pr.new W5 (.slice (some ⟨g1, 0, none⟩) 512 512) (.slice (some ⟨g2, 0, none⟩) 512 512)
  have hBN : RowKit.Below W5.heap.size W5 (W5.alloc (.cells #[.slice (some ⟨g1, 0, none⟩) 512 512, .slice (some ⟨g2, 0, none⟩) 512 512] 67)) := (Below.refl _ _).alloc (Nat.le_refl _) _
  have HS6 := Lib.hid (HS5.out.below hBN HS5.out.lt)
  have HN6 := Lib.hid (HN5.out.below hBN HN5.out.lt)
  have HG6 := Lib.hid (HG5.out.below hBN)
  have HK6 := Lib.hid (HK5.out.below hBN)
  have HB6 := Lib.hid (bel_call HB5.out hBN)
  have HLG := Lib.hid (And.intro (Nat.lt_of_lt_of_le (Array.getElem?_eq_some_iff.1 HG5.out).1 (Nat.le_refl _)) (And.intro HS5.out.lt HB5.out.size))
  generalize W5.alloc (.cells #[.slice (some ⟨g1, 0, none⟩) 512 512, .slice (some ⟨g2, 0, none⟩) 512 512] 67) = W6 at *
  generalize W5.heap.size = n at *
  have HP6 := Lib.hid hp0
  have p0 := hp0.c0
  have p1 := hp0.c1
  have cN := newest_any (some ⟨g1, 0, none⟩) (some ⟨g2, 0, none⟩) (spage q r) (spage (q + 1) r') 512 512 W6 (HG6.out.whole HP.out.1) (by rw [HP.out.1]; decide) (by rw [HP.out.1]; decide) (HK6.out.whole HP.out.2) (by rw [HP.out.2]; decide) (by rw [HP.out.2]; decide) (hT.below hT.pos HB6.out)
  rw [HTN.out.1, HTN.out.2.1, HTN.out.2.2, HP.out.1, HP.out.2] at cN
  clear hBN hp0
  go_wp2_with fail
  refine cN.mono ?_
  rintro e W7 ⟨rfl, hb7⟩
  have HS7 := Lib.hid (HS6.out.below hb7 HS6.out.lt)
  have HN7 := Lib.hid (HN6.out.below hb7 HN6.out.lt)
  have HG7 := Lib.hid (HG6.out.below hb7)
  have HP7 := Lib.hid (HP6.out.below hb7)
  have HB7 := Lib.hid (bel_call HB6.out hb7)
  have hBN : RowKit.Below W7.heap.size W7 (W7.alloc (.cells (SV (q + 1) r').toArray 56)) := (Below.refl _ _).alloc (Nat.le_refl _) _
  have HX8 := Lib.hid (sup_new W7 (q + 1) r')
  have HS8 := Lib.hid (HS7.out.below hBN HS7.out.lt)
  have HN8 := Lib.hid (HN7.out.below hBN HN7.out.lt)
  have HG8 := Lib.hid (HG7.out.below hBN)
  have HP8 := Lib.hid (HP7.out.below hBN)
  have HB8 := Lib.hid (bel_call HB7.out hBN)
  clear hb7 hBN cN p0 p1
  go_upto_region 10 with (refine wpList_st_new (op := ⟨none, _, _, _, _, _⟩) rfl (.tmp 13) (.tmp 56) rfl W7 (q + 1) r' rfl rfl rfl hr' rfl ?_)
  generalize W7.alloc (.cells (SV (q + 1) r').toArray 56) = W8 at *
  have p0 := HP8.out.c0
  have p1 := HP8.out.c1
  have fz := HP8.out.free 1
  by_cases hbad : sfault 1 t = 0
  · have hb2 : ((sfault 1 t : Int) == 0) = true := by rw [hbad]; rfl
    have F := fixed07_any W8 (hT.below hT.pos HB8.out)
    go_wp2_with (first
      | refine wl_ld (op := ⟨some 61, _, _, _, _, _⟩) rfl (.tmp 13) rfl W7.heap.size (q + 1) r' rfl HX8.out hr' ?_
      | refine wl_ld (op := ⟨some 62, _, _, _, _, _⟩) rfl (.tmp 4) rfl (w.heap.size + 1) (q + 1) r' rfl HN8.out hr' ?_
      | refine wl_ne (op := ⟨some 63, _, _, _, _, _⟩) rfl (.tmp 61) (.tmp 62) 56 rfl (q + 1) r' rfl rfl hr' ?_)
    refine F.mono ?_
    rintro e W9 ⟨rfl, hb9⟩
    have HB9 := Lib.hid (bel_call HB8.out hb9)
    clear hb9 F
    go_wp2
    go_ret
    exact ⟨rfl, HB9.out⟩
  · have hb2 : ((sfault 1 t : Int) == 0) = false := beq_eq_false_iff_ne.2 (by omega)
    have HTO2 := Lib.hid (HTO.out hbad)
    clear hbad
    go_upto_region 14 with (first
      | refine wl_ld (op := ⟨some 61, _, _, _, _, _⟩) rfl (.tmp 13) rfl W7.heap.size (q + 1) r' rfl HX8.out hr' ?_
      | refine wl_ld (op := ⟨some 62, _, _, _, _, _⟩) rfl (.tmp 4) rfl (w.heap.size + 1) (q + 1) r' rfl HN8.out hr' ?_
      | refine wl_ne (op := ⟨some 63, _, _, _, _, _⟩) rfl (.tmp 61) (.tmp 62) 56 rfl (q + 1) r' rfl rfl hr' ?_)
    go_upto_region 15 with fail
    have HS9 := Lib.hid (HS8.out.grown (set_grown W8 n 1 (.slice A t.length c)) (by have := HLG.out.2.1; have := HB.out.size; simp; omega))
    have HG9 := Lib.hid (HG8.out.grown (set_grown W8 n 1 (.slice A t.length c)) (by have := HLG.out.1; simp; omega))
    have HP9 := Lib.hid (HP8.out.st1 (.slice A t.length c))
    have HB9 := Lib.hid (below_setCells HLG.out.2.2 [.slice A t.length c] 1 W8 HB8.out)
    have HB9 := Lib.hid (show RowKit.Below w.heap.size w (W8.setCell ⟨n, 1, none⟩ (.slice A t.length c)) from HB9.out)
    clear p0 p1 fz
    generalize W8.setCell ⟨n, 1, none⟩ (.slice A t.length c) = W9 at *
    have p0 := HP9.out.c0
    have p1 := HP9.out.c1
    have cN := newest_any (some ⟨g1, 0, none⟩) A (spage q r) t 512 c W9 (HG9.out.whole HP.out.1) (by rw [HP.out.1]; decide) (by rw [HP.out.1]; decide) (hA.below HB9.out) hc (str600 t ht) (hT.below hT.pos HB9.out)
    rw [HTO2.out.1, HTO2.out.2.1, HTO2.out.2.2, HP.out.1] at cN
    go_wp2_with fail
    refine cN.mono ?_
    rintro e W10 ⟨rfl, hb10⟩
    have HSa := Lib.hid (HS9.out.below hb10 HS9.out.lt)
    have HBa := Lib.hid (bel_call HB9.out hb10)
    have hBN : RowKit.Below W10.heap.size W10 (W10.alloc (.cells (SV q r).toArray 56)) := (Below.refl _ _).alloc (Nat.le_refl _) _
    have HY := Lib.hid (sup_new W10 q r)
    have HSb := Lib.hid (HSa.out.below hBN HSa.out.lt)
    have HBb := Lib.hid (bel_call HBa.out hBN)
    clear hb10 hBN cN p0 p1
    go_upto_region 16 with (refine wpList_st_new (op := ⟨none, _, _, _, _, _⟩) rfl (.tmp 15) (.tmp 77) rfl W10 q r rfl rfl rfl hr rfl ?_)
    generalize W10.alloc (.cells (SV q r).toArray 56) = W11 at *
    have F := fixed07_any W11 (hT.below hT.pos HBb.out)
    go_wp2_with fail
    refine F.mono ?_
    rintro e W12 ⟨rfl, hb12⟩
    have HSc := Lib.hid (HSb.out.below hb12 HSb.out.lt)
    have HYc := Lib.hid (HY.out.below hb12 HY.out.lt)
    have HBc := Lib.hid (bel_call HBb.out hb12)
    clear hb12 F
    go_wp2_with (first
      | refine wl_ld (op := ⟨some 85, _, _, _, _, _⟩) rfl (.tmp 15) rfl W10.heap.size q r rfl HYc.out hr ?_
      | refine wl_ld (op := ⟨some 86, _, _, _, _, _⟩) rfl (.tmp 3) rfl w.heap.size q r rfl HSc.out hr ?_
      | refine wl_eq (op := ⟨some 87, _, _, _, _, _⟩) rfl (.tmp 85) (.tmp 86) 56 rfl q r rfl rfl hr ?_)
    go_ret
    exact ⟨rfl, HBc.out⟩
end Go.Proofs.YtcakicifgbnhcaaDoor
