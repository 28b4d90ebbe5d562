/- bytes.Count at one byte, bytes.Clone; page.Open. -/
import Derived.Test.YtagmldkcogidgaaGreatDoorPageSeal
import Derived.Lib.QuietBelow
import Derived.Lib.SliceRun
import Derived.Shelf.Bytes.SlCountOne
namespace Go.Proofs.YtagmldkcogidgaaGreatDoor
set_option maxRecDepth 100000
open Go.RowKit Pgp
open Crcp (cmore)

theorem bytesOf_nums (l : List UInt8) : Lib.bytesOf (l.map fun x => (x.toNat : Int)) = l := by
  simp [Lib.bytesOf, List.map_map, Function.comp_def]

theorem cell_new' (v : Value) (W : World) : (W.alloc (.cells #[v] 5)).cell? ⟨W.heap.size, 0, none⟩ = some v := by simp [go_sem]
theorem keep8 {W w' : World} {a : Addr} {v : Value} (hb : Below W.heap.size W w') (hc : W.cell? a = some v) : w'.cell? a = some v := (hb.cell (block_lt_of_cell hc)).trans hc
/-- bytes.Count: how often the byte 0 stands in a row. -/
theorem count_any (A : Option Addr) (l : List UInt8) (c b2 o2 d : Nat) (w : World) (hA : Rd w A ⟨l.toArray⟩) (hc2 : w.cell? ⟨b2, o2, none⟩ = some (.int .u8 0)) :
    Calls Tryz.prog 123 #[.slice A l.length c, .slice (some ⟨b2, o2, none⟩) 1 d] w fun e w' => e = .returned (.int .i64 (Lib.countByte l 0)) ∧ w = w' := by
  have hrun : (Extern.BytealgCount.count #[.slice A l.length c, .int .u8 0]).run Tryz.prog w = .ok (.int .i64 (Lib.countByte l 0)) w := by
    cases A with
    | none =>
      have h0 : l = [] := by
        cases l with
        | nil => rfl
        | cons x l => obtain ⟨b, o, e, _⟩ := rd_list hA (by simp); cases e
      subst h0
      rw [Lib.run_countNil]; rfl
    | some a =>
      have := Lib.run_countAt (P := Tryz.prog) w a l.length c (l.map fun x => (x.toNat : Int)) (by rw [List.length_map]) (fun i hi => by
        obtain ⟨b, o, e, hc⟩ := rd_list hA (by omega)
        injection e with e
        subst e
        rw [addAt, hc i hi, List.getD, List.getElem?_map, List.getElem?_eq_getElem hi]; rfl) 0
      rw [bytesOf_nums] at this
      exact this
  go_enter Tryz.func123, Tryz.ntmps123
  go_wp2
  rw [run_callFunc_extern Tryz.func168 (by kernel_rfl) (by kernel_rfl) (by kernel_rfl) (e := Extern.BytealgCount.count) (by kernel_rfl), hrun]
  simp only [Result.andThen]
  rw [Oper.upon_value]
  go_wp2
  go_ret
  exact ⟨rfl, rfl⟩

/-- bytes.Clone of a row that is no nil -/
theorem clone_any (b o : Nat) (l : List UInt8) (c : Nat) (w : World) (hA : Rd w (some ⟨b, o, none⟩) ⟨l.toArray⟩) (hl : l.length ≤ 1000000) :
    Calls Tryz.prog 124 #[.slice (some ⟨b, o, none⟩) l.length c] w fun e w' => ∃ v, e = .returned v ∧ Own w' w.heap.size v ⟨l.toArray⟩ ∧ Below w.heap.size w w' := by
  have hs : (⟨l.toArray⟩ : ByteArray).size = l.length := by simp [ByteArray.size]
  have hb0 : Below w.heap.size w (w.alloc (.cells #[] 5)) := (Below.refl _ _).alloc (Nat.le_refl _) _
  have o0 : Own (w.alloc (.cells #[] 5)) w.heap.size (.slice (some ⟨w.heap.size, 0, none⟩) 0 0) ByteArray.empty := Own.lit w w.heap.size ByteArray.empty #[] (by simp [bcells]) (Nat.le_refl _) (by decide)
  have hr := hA.below hb0
  have hnil : (binOp .eql 29 (.slice (some ⟨b, o, none⟩) l.length c) (.slice none 0 0)).run Tryz.prog w = .ok (.bool false) w := Lib.run_eql_slice_nil (P := Tryz.prog) w 29 5 (some ⟨b, o, none⟩) l.length c 0 0 Tryz.underlying29
  have hsz := hb0.size
  go_enter Tryz.func124, Tryz.ntmps124
  go_wp2_with (at_builtin; refine wpList_clone (by simp [Region.wanted, go_sem]) (.tmp 5) (.tmp 6) rfl rfl w.heap.size (.slice (some ⟨w.heap.size, 0, none⟩) 0 0) rfl o0 (some ⟨b, o, none⟩) c ⟨l.toArray⟩ rfl hr (by rw [hs]; omega) hsz ?_; intro A1 c1 w2 o1 g1 _)
  go_ret
  exact ⟨_, rfl, o1, hb0.grown g1 hsz (fun k hk => (o0.lt k hk).1)⟩

theorem Rd.sub {w : World} {bb oo : Nat} {b : List UInt8} (h : Rd w (some ⟨bb, oo, none⟩) ⟨b.toArray⟩) (i k : Nat) (hk : i + k ≤ b.length) : Rd w (some ⟨bb, oo + i, none⟩) ⟨((b.drop i).take k).toArray⟩ := fun h0 => by
  have hl : (⟨((b.drop i).take k).toArray⟩ : ByteArray).size = k := by simp [ByteArray.size]; omega
  rw [hl] at h0
  have hs : (⟨b.toArray⟩ : ByteArray).size = b.length := by simp [ByteArray.size]
  obtain ⟨b', o', e, hlt, hc⟩ := h (by omega)
  injection e with e
  injection e with e1 e2
  subst e1 e2
  refine ⟨bb, oo + i, rfl, hlt, fun j hj => ?_⟩
  rw [hl] at hj
  have := hc (i + j) (by omega)
  rw [Nat.add_assoc, this]
  have : (⟨b.toArray⟩ : ByteArray)[i + j]'(by omega) = (⟨((b.drop i).take k).toArray⟩ : ByteArray)[j]'(by rw [hl]; exact hj) := by
    show b[i + j]'_ = ((b.drop i).take k)[j]'_
    simp
  rw [this]

theorem below_drewN (w : World) (n : Nat) : Below w.heap.size w (w.drewN n) := ⟨rfl, rfl, rfl, Nat.le_refl _, fun _ _ => rfl⟩
theorem slice_mid (bb oo L c n : Nat) (V : World) (h1 : 12 < c) (h2 : 12 + n ≤ c) : (Instr.sliceAt 29 (.slice (some ⟨bb, oo, none⟩) L c) (some (.int .i64 12)) (some (.int .u32 (12 + (n : Int)))) none).run Tryz.prog V = .ok (.slice (some ⟨bb, oo + 12, none⟩) n (c - 12)) V := by
  have ht : Tryz.prog.underlying 29 = some (.slice (Tryz.prog.elem 29)) := by kernel_rfl
  have he : Tryz.prog.elem 29 = 5 := by kernel_rfl
  obtain ⟨i0, hi, hz0, hz1, hz2⟩ := info_parts info5
  have hs : (Go.sizeOf 5).run Tryz.prog V = .ok 1 V := by simp [Go.sizeOf, typeInfo, hi, hz1]
  refine (run_sliceAt_slice (w := V) 29 (.slice (some ⟨bb, oo, none⟩) L c) (some (.int .i64 12)) (some (.int .u32 (12 + (n : Int)))) none ht).trans ?_
  rw [run_slice_lh V 29 _ L c ht .i64 .u32 12 (12 + (n : Int)) (by omega) (by omega) (by omega), he, hs]
  have e1 : ((12 : Int) + (n : Int)).toNat = 12 + n := by omega
  have e2 : ¬ c = 12 := by omega
  simp [Result.andThen, sliced, e1, e2, addAt]

/-- What Open leaves. -/
def OpenPost (w : World) (number : Nat) (b : List UInt8) (e : Ending) (w' : World) : Prop :=
  Below w.heap.size w w' ∧ ((fault number b = 0 ∧ ∃ v, e = .returned (.tuple #[.int .u8 (okind b).toNat, v, .int .i64 0]) ∧ Own w' w.heap.size v ⟨(obody b).toArray⟩) ∨
    (fault number b ≠ 0 ∧ e = .returned (.tuple #[.int .u8 0, .slice none 0 0, .int .i64 (fault number b)])))

set_option maxHeartbeats 1000000 in
theorem open_any (number : Nat) (A : Option Addr) (b : List UInt8) (c : Nat) (w : World) (_hn : number < 4294967296) (hA : Rd w A ⟨b.toArray⟩) (hc : b.length ≤ c) (_hbl : b.length ≤ 1000000) (hT : Tab w) :
    Calls Tryz.prog 80 #[.int .u32 number, .slice A b.length c] w (OpenPost w number b) := by
  by_cases hl : b.length = 512
  · obtain ⟨bb, oo, rfl, hcell⟩ := rd_list hA (by omega)
    have cg : ∀ (i k cc : Nat) (W : World), i + k ≤ 512 → k ≤ 4 → Below w.heap.size w W → Calls Tryz.prog 122 #[.slice (some ⟨bb, oo + i, none⟩) k cc] W fun e w' => e = .returned (.int .u32 (num ((b.drop i).take k))) ∧ W = w' := fun i k cc W h1 h2 h3 => by
      have := get_any _ _ cc W ((hA.below h3).sub i k (by omega)) (by rw [List.length_take]; omega)
      rw [show ((b.drop i).take k).length = k by rw [List.length_take, List.length_drop]; omega] at this
      exact this
    have cS : ∀ (cc : Nat) (W : World), Below w.heap.size w W → Calls Tryz.prog 117 #[.slice (some ⟨bb, oo + 4, none⟩) 508 cc] W fun e w' => e = .returned (.int .u32 (cmore 0 (b.drop 4))) ∧ W = w' := fun cc W h3 => by
      have e5 : (b.drop 4).take 508 = b.drop 4 := List.take_of_length_le (by rw [List.length_drop]; omega)
      have hr := (hA.below h3).sub 4 508 (by omega)
      rw [e5] at hr
      have hs : (⟨(b.drop 4).toArray⟩ : ByteArray).size = 508 := by simp only [ByteArray.size, List.size_toArray, List.length_drop]; omega
      have := sum_any _ _ cc W (by rw [hs]; omega) hr (hT.below hT.pos h3)
      rw [hs] at this
      simpa using this
    have g0 := fun n => (cg 0 4 c (w.drewN n) (by omega) (by omega) (below_drewN w n)).mono fun e w' (h : _ ∧ _) => (⟨h.1, h.2.symm⟩ : e = .returned (.int .u32 (num ((b.drop 0).take 4))) ∧ w' = w.drewN n)
    rw [Nat.add_zero, List.drop_zero] at g0
    have s0 := fun n => (cS (c - 4) (w.drewN n) (below_drewN w n)).mono fun e w' (h : _ ∧ _) => (⟨h.1, h.2.symm⟩ : e = .returned (.int .u32 (cmore 0 (b.drop 4))) ∧ w' = w.drewN n)
    have CG := Lib.hid cg
    clear cg cS
    go_enter Tryz.func80, Tryz.ntmps80
    go_wp2_with fail
    go_quiet (with_reducible first | exact Calls.quiet_of_same (g0 _) | exact Calls.quiet_of_same (s0 _))
    have HD := Lib.hid (below_drewN w nq)
    have g4 := CG.out 4 4 (c - 4) (w.drewN nq) (by omega) (by omega) HD.out
    have HF0 := Lib.hid (show fault number b = _ by unfold fault; rw [if_neg (by rw [hl]; decide)])
    generalize hW : w.drewN nq = W at *
    have hX := num_lt4 (b.take 4) (by rw [List.length_take]; omega)
    have hN2 := num_lt4 ((b.drop 4).take 4) (by rw [List.length_take, List.length_drop]; omega)
    have hLn := num_lt2 ((b.drop 9).take 2) (by rw [List.length_take, List.length_drop]; omega)
    have hob : obody b = (b.drop 12).take (num ((b.drop 9).take 2)) := rfl
    have HOB := Lib.hid hob
    have g9 := CG.out 9 2 (c - 9) W (by omega) (by omega) HD.out
    clear g0 s0 hob
    generalize num (b.take 4) = X at *
    generalize cmore 0 (b.drop 4) = Y at *
    generalize num ((b.drop 4).take 4) = N2 at *
    generalize num ((b.drop 9).take 2) = n at *
    by_cases e1 : X = Y
    · have q1 : ((X : Int) != (Y : Int)) = false := by rw [e1]; simp
      by_cases e2 : N2 = number
      · have q2 : ((N2 : Int) != (number : Int)) = false := by rw [e2]; simp
        have HF1 := Lib.hid (show fault number b = _ by rw [HF0.out, if_neg (by omega), if_neg (by omega)])
        by_cases e3 : 500 < n
        · have HF := Lib.hid (show fault number b = 2 by rw [HF1.out, if_pos (.inl e3)])
          have q3 : decide ((500 : Int) < (n : Int)) = true := decide_eq_true (by omega)
          clear e1 e2 e3
          go_wp2_with fail
          refine g4.mono ?_
          rintro e w' ⟨rfl, rfl⟩
          go_wp2_with fail
          refine g9.mono ?_
          rintro e w' ⟨rfl, rfl⟩
          go_wp2
          go_ret3
          exact ⟨HD.out, .inr ⟨by rw [HF.out]; decide, by rw [HF.out]; rfl⟩⟩
        · have q3 : decide ((500 : Int) < (n : Int)) = false := decide_eq_false (by omega)
          have c11 : W.cell? ⟨bb, oo + 11, none⟩ = some (.int .u8 (b[11].toNat : Int)) := (HD.out.cell (p := ⟨bb, oo + 11, none⟩) (lt_of_cell (hcell 11 (by omega)))).trans (hcell 11 (by omega))
          have HX11 := Lib.hid (show b.getD 11 0 = b[11] by rw [List.getD, List.getElem?_eq_getElem (by omega)]; rfl)
          generalize b[11] = x11 at *
          have q11 : (11 : Int) < (b.length : Int) := by omega
          by_cases e4 : x11 = 0
          · have hF2 : fault number b = if (b.drop (12 + n)).all (· == 0) = false then 2 else 0 := by rw [HF1.out, if_neg (by rw [HX11.out, e4]; simp; omega)]
            have HF2 := Lib.hid hF2
            have hRl : (b.drop (12 + n)).length = 500 - n := by rw [List.length_drop]; omega
            have hn5 : n ≤ 500 := by omega
            subst e4
            have HL := Lib.hid hl
            have HC := Lib.hid hc
            have hDA : Below w.heap.size w (W.alloc (.cells #[.int .u8 0] 5)) := HD.out.alloc HD.out.size _
            have HDA := Lib.hid hDA
            have cR : ∀ (Ad : Addr) (cc : Nat), Rd W (some Ad) ⟨(b.drop (12 + n)).toArray⟩ → Calls Tryz.prog 123 #[.slice (some Ad) (512 - (12 + n)) cc, .slice (some ⟨W.heap.size, 0, none⟩) 1 1] (W.alloc (.cells #[.int .u8 0] 5)) fun e w' => e = .returned (.int .i64 (Lib.countByte (b.drop (12 + n)) 0)) ∧ W.alloc (.cells #[.int .u8 0] 5) = w' := fun Ad cc h => by
              have := count_any (some Ad) (b.drop (12 + n)) cc W.heap.size 0 1 (W.alloc (.cells #[.int .u8 0] 5)) (h.below ((Below.refl _ _).alloc (Nat.le_refl _) _)) (cell_new' _ W)
              rw [hRl, show 500 - n = 512 - (12 + n) by omega] at this
              exact this
            have HCT := Lib.hid (show if (b.drop (12 + n)).all (· == 0) = true then Lib.countByte (b.drop (12 + n)) 0 = 512 - (12 + n) else Lib.countByte (b.drop (12 + n)) 0 ≠ 512 - (12 + n) by
              split
              · next h => rw [Lib.countByte, show 512 - (12 + n) = (b.drop (12 + n)).length by omega, List.count_eq_length]; intro x hx; have := List.all_eq_true.1 h x hx; exact (show x = 0 by simpa using this).symm
              · next h =>
                intro h2
                rw [Lib.countByte, show 512 - (12 + n) = (b.drop (12 + n)).length by omega, List.count_eq_length] at h2
                exact h (List.all_eq_true.2 fun x hx => by rw [← h2 x hx]; rfl))
            have c8 : (W.alloc (.cells #[.int .u8 0] 5)).cell? ⟨bb, oo + 8, none⟩ = some (.int .u8 ((okind b).toNat : Int)) := by
              have h8 : okind b = b[8] := by rw [okind, List.getD, List.getElem?_eq_getElem (by omega)]; rfl
              rw [h8]
              exact (hDA.cell (p := ⟨bb, oo + 8, none⟩) (lt_of_cell (hcell 8 (by omega)))).trans (hcell 8 (by omega))
            have CC := Lib.hid (show ∀ (cc : Nat) (V : World), Below w.heap.size w V → Calls Tryz.prog 124 #[.slice (some ⟨bb, oo + 12, none⟩) n cc] V fun e w' => ∃ v, e = .returned v ∧ Own w' V.heap.size v ⟨(obody b).toArray⟩ ∧ Below V.heap.size V w' from fun cc V hV => by
              have h1 := (hA.below hV).sub 12 n (by omega)
              rw [← HOB.out] at h1
              have h2 : (obody b).length = n := by rw [HOB.out, List.length_take, List.length_drop]; omega
              have := clone_any bb (oo + 12) (obody b) cc V h1 (by omega)
              rw [h2] at this
              exact this)
            have hRsub : Rd W (some ⟨bb, oo + (12 + n), none⟩) ⟨(b.drop (12 + n)).toArray⟩ := by
              have h1 := (hA.below HD.out).sub (12 + n) (500 - n) (by omega)
              rw [List.take_of_length_le (by omega)] at h1
              exact h1
            clear e1 e2 e3 hcell hF2 hDA
            by_cases hcn : c = 12 + n
            · have hRd : Rd W (some ⟨bb, oo, none⟩) ⟨(b.drop (12 + n)).toArray⟩ := fun h0 => by
                have : (⟨(b.drop (12 + n)).toArray⟩ : ByteArray).size = (b.drop (12 + n)).length := by simp [ByteArray.size]
                omega
              obtain rfl : n = 500 := by omega
              obtain rfl : c = 512 := by omega
              clear hRsub hcn
              cases hz : (b.drop (12 + 500)).all (· == 0) with
              | true =>
                have HF := Lib.hid (show fault number b = 0 by rw [HF2.out, hz]; rfl)
                have hct : Lib.countByte (b.drop (12 + 500)) 0 = 512 - (12 + 500) := by have := HCT.out; rw [if_pos hz] at this; exact this
                rw [hct] at cR
                clear hz hct
                simp only [Nat.reduceAdd, Nat.reduceSub] at cR
                go_wp2_with fail
                refine g4.mono ?_
                rintro e w' ⟨rfl, rfl⟩
                go_wp2_with fail
                refine g9.mono ?_
                rintro e w' ⟨rfl, rfl⟩
                go_wp2_with fail
                refine (cR _ _ hRd).mono ?_
                rintro e w' ⟨rfl, rfl⟩
                go_wp2_with fail
                go_region_with (go_at_call 124; (first | refine (CC.out _ _ HDA.out).mono ?_ | refine (CC.out _ _ HDA.out.drew).mono ?_); rintro e w4 ⟨v, rfl, hv, hb4⟩; have c8b := keep8 hb4 c8)
                all_goals
                  go_wp2
                  go_ret3
                  first | exact ⟨HDA.out.trans (hb4.mono HDA.out.size), .inl ⟨HF.out, v, rfl, Joins.ownsRow_le hv HDA.out.size⟩⟩ | exact ⟨HDA.out.drew.trans (hb4.mono HDA.out.size), .inl ⟨HF.out, v, rfl, Joins.ownsRow_le hv HDA.out.size⟩⟩ | exact ⟨(HDA.out.trans (hb4.mono HDA.out.size)).drew, .inl ⟨HF.out, v, rfl, Joins.ownsRow_le hv HDA.out.size⟩⟩
              | false =>
                rw [List.drop_eq_nil_of_le (by omega)] at hz
                cases hz
            · have hRd := hRsub
              have hwr : IntKind.u32.wrap (12 + (n : Int)) = 12 + (n : Int) := by simp [IntKind.wrap, IntKind.bits, IntKind.signed]; omega
              have hmx : max (12 + (n : Int)) 0 = 12 + (n : Int) := by omega
              have htn : (12 + (n : Int)).toNat - 12 = n := by omega
              have h12 : (12 : Int) ≤ 12 + (n : Int) := by omega
              have z1 : ¬ c = 12 := by omega
              have z2 : (12 : Int) + n ≤ c := by omega
              clear hRsub
              cases hz : (b.drop (12 + n)).all (· == 0) with
              | true =>
                have HF := Lib.hid (show fault number b = 0 by rw [HF2.out, hz]; rfl)
                have hct : Lib.countByte (b.drop (12 + n)) 0 = 512 - (12 + n) := by have := HCT.out; rw [if_pos hz] at this; exact this
                rw [hct] at cR
                clear hz hct
                go_wp2_with fail
                refine g4.mono ?_
                rintro e w' ⟨rfl, rfl⟩
                go_wp2_with fail
                refine g9.mono ?_
                rintro e w' ⟨rfl, rfl⟩
                go_wp2_with fail
                refine (cR _ _ hRd).mono ?_
                rintro e w' ⟨rfl, rfl⟩
                go_wp2_with fail
                go_region_with (go_at_call 124; (first | refine (CC.out _ _ HDA.out).mono ?_ | refine (CC.out _ _ HDA.out.drew).mono ?_); rintro e w4 ⟨v, rfl, hv, hb4⟩; have c8b := keep8 hb4 c8)
                all_goals
                  go_wp2
                  go_ret3
                  first | exact ⟨HDA.out.trans (hb4.mono HDA.out.size), .inl ⟨HF.out, v, rfl, Joins.ownsRow_le hv HDA.out.size⟩⟩ | exact ⟨HDA.out.drew.trans (hb4.mono HDA.out.size), .inl ⟨HF.out, v, rfl, Joins.ownsRow_le hv HDA.out.size⟩⟩ | exact ⟨(HDA.out.trans (hb4.mono HDA.out.size)).drew, .inl ⟨HF.out, v, rfl, Joins.ownsRow_le hv HDA.out.size⟩⟩
              | false =>
                have HF := Lib.hid (show fault number b = 2 by rw [HF2.out, hz]; rfl)
                have hct : Lib.countByte (b.drop (12 + n)) 0 ≠ 512 - (12 + n) := by have := HCT.out; rw [if_neg (by rw [hz]; decide)] at this; exact this
                have q5 : ((Lib.countByte (b.drop (12 + n)) 0 : Int) != ((512 - (12 + n) : Nat) : Int)) = true := bne_iff_ne.2 (by omega)
                clear hz hct
                go_wp2_with fail
                refine g4.mono ?_
                rintro e w' ⟨rfl, rfl⟩
                go_wp2_with fail
                refine g9.mono ?_
                rintro e w' ⟨rfl, rfl⟩
                go_wp2_with fail
                refine (cR _ _ hRd).mono ?_
                rintro e w' ⟨rfl, rfl⟩
                go_wp2_with fail
                go_ret3
                exact ⟨HDA.out, .inr ⟨by rw [HF.out]; decide, by rw [HF.out]; rfl⟩⟩
          · have HF := Lib.hid (show fault number b = 2 by rw [HF1.out, if_pos (.inr (by rw [HX11.out]; exact e4))])
            have hne : x11.toNat ≠ 0 := fun h => e4 (UInt8.toNat_inj.1 (by rw [h]; rfl))
            have q4 : ((x11.toNat : Int) != 0) = true := bne_iff_ne.2 (by omega)
            clear e1 e2 e3 e4 hcell
            go_wp2_with fail
            refine g4.mono ?_
            rintro e w' ⟨rfl, rfl⟩
            go_wp2_with fail
            refine g9.mono ?_
            rintro e w' ⟨rfl, rfl⟩
            go_wp2
            go_ret3
            exact ⟨HD.out, .inr ⟨by rw [HF.out]; decide, by rw [HF.out]; rfl⟩⟩
      · have HF := Lib.hid (show fault number b = 4 by rw [HF0.out, if_neg (by omega), if_pos e2])
        have q2 : ((N2 : Int) != (number : Int)) = true := bne_iff_ne.2 (by omega)
        clear e1 e2 g9
        go_wp2_with fail
        refine g4.mono ?_
        rintro e w' ⟨rfl, rfl⟩
        go_wp2
        go_ret3
        exact ⟨HD.out, .inr ⟨by rw [HF.out]; decide, by rw [HF.out]; rfl⟩⟩
    · have HF := Lib.hid (show fault number b = 8 by rw [HF0.out, if_pos e1])
      have q1 : ((X : Int) != (Y : Int)) = true := bne_iff_ne.2 (by omega)
      clear e1 g4 g9
      go_wp2
      go_ret3
      exact ⟨HD.out, .inr ⟨by rw [HF.out]; decide, by rw [HF.out]; rfl⟩⟩
  · have HF := Lib.hid (show fault number b = 1 by unfold fault; rw [if_pos hl])
    have hl2 : ((b.length : Int) != 512) = true := bne_iff_ne.2 (by omega)
    clear hl
    go_enter Tryz.func80, Tryz.ntmps80
    go_wp2
    go_ret3
    exact ⟨Below.refl _ _, .inr ⟨by rw [HF.out]; decide, by rw [HF.out]; rfl⟩⟩
end Go.Proofs.YtagmldkcogidgaaGreatDoor
