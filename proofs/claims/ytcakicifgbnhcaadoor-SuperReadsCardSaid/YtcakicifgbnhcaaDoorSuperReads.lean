/- SuperReads: what any block says at any place is the document's. -/
import Derived.Test.YtcakicifgbnhcaaDoorSuperNew
import Derived.Test.YtcakicifgbnhcaaDoorPageOpens
namespace Go.Proofs.YtcakicifgbnhcaaDoor
open Go.RowKit Go.Sort Pgp
open Crcp (cmore)

/-- both readings, at any place -/
theorem read_both (z : Int) (b : List UInt8) (hb : b.length ≤ 1000) : ∃ (q : Nat) (r : List Nat) (f : Nat), r.length = 27 ∧
    (∀ (A : Option Addr) (c : Nat) (w : World), Rd w A ⟨b.toArray⟩ → b.length ≤ c → Tab w → Calls Tryd.prog 27 #[.int .i64 z, .slice A b.length c] w fun e w' => e = .returned (.tuple #[.agg (SV q r).toArray, .int .i64 f]) ∧ RowKit.Below w.heap.size w w') ∧
    ∀ w : World, Calls Tryd.prog 30 #[.int .i64 z, .string ⟨b.toArray⟩] w fun e w' => e = .returned (.tuple #[.agg (SV q r).toArray, .int .i64 f]) ∧ RowKit.Below w.heap.size w w' := by
  by_cases h : z < 0 ∨ 1 < z
  · exact ⟨0, zeros27, 1, z27_len, fun A c w _ _ _ => read_out z h A b.length c w, fun w => refRead_out z h _ w⟩
  · obtain ⟨p, rfl, hp⟩ : ∃ p : Nat, z = (p : Int) ∧ p ≤ 1 := ⟨z.toNat, by omega, by omega⟩
    exact ⟨sq p b, sr p b, sfault p b, (sr_ok p b).1, fun A c w hA hc hT => read_any p hp A b c w hA hc (by omega) hT, fun w => refRead_any p hp b w hb⟩

set_option maxRecDepth 20000 in
set_option maxHeartbeats 1600000 in
theorem walk12 (z : Int) (A : Option Addr) (l : List UInt8) (c : Nat) (mend : Bool) (w : World) (hA : Rd w A ⟨l.toArray⟩) (hT : Tab w) :
    Calls Tryd.prog 12 #[.int .i64 z, .slice A l.length c, .bool mend] w fun e w' => e = .returned (.bool true) ∧ Below w.heap.size w w' := by
  by_cases h6 : 600 < l.length
  · have F := fixed07_any w hT
    go_enter Tryd.func12, Tryd.ntmps12
    go_wp2_with fail
    refine F.mono ?_
    rintro e w2 ⟨rfl, hb⟩
    go_wp2
    go_ret
    exact ⟨rfl, hb⟩
  · have h6 : l.length ≤ 600 := by omega
    have hs : (⟨l.toArray⟩ : ByteArray).size = l.length := by simp [ByteArray.size]
    have hb0 : Below w.heap.size w (w.alloc (.cells #[] 5)) := (Below.refl _ _).alloc (Nat.le_refl _) _
    have o0 : Own (w.alloc (.cells #[] 5)) w.heap.size (.slice (some ⟨w.heap.size, 0, none⟩) 0 0) ByteArray.empty := Own.lit w w.heap.size ByteArray.empty #[] (by simp [bcells]) (Nat.le_refl _) (by decide)
    have hr := hA.below hb0
    have hsz := hb0.size
    by_cases hm : mend = true ∧ l.length = 512
    · obtain ⟨rfl, hl⟩ := hm
      go_enter Tryd.func12, Tryd.ntmps12
      go_upto_region 4 with (at_builtin; refine wpList_clone (by simp [Region.wanted, go_sem]) (.tmp 16) (.tmp 17) rfl rfl w.heap.size (.slice (some ⟨w.heap.size, 0, none⟩) 0 0) rfl o0 A c ⟨l.toArray⟩ (by rw [hs, hl]; rfl) hr (by rw [hs]; omega) hsz ?_; intro A1 c1 w2 o1 g1 _)
      have hb2 := hb0.grown g1 hsz (fun k hk => (o0.lt k hk).1)
      rw [hs, hl] at o1
      obtain ⟨g, hg⟩ : ∃ g, A1 = some ⟨g, 0, none⟩ := by
        obtain ⟨gg, cc, e⟩ := Joins.ownsRow_form (v := .slice A1 512 c1) (by have := o1; unfold Own at this; rw [hs, hl] at this; exact this) (by decide)
        injection e with e1 e2 e3
        exact ⟨gg, e1⟩
      subst hg
      obtain ⟨hR2, _, hmc⟩ := own_list2 o1
      have hbg := (o1.lt g rfl).1
      have hR4 := hR2.sub 4 508 (by omega)
      rw [List.take_of_length_le (by rw [List.length_drop]; omega)] at hR4
      have hs4 := str_rd hR4 (c1 - 4)
      have hl4 : (l.drop 4).length = 508 := by rw [List.length_drop]; omega
      rw [hl4] at hs4
      have s4 : (⟨(l.drop 4).toArray⟩ : ByteArray).size = 508 := by simp only [ByteArray.size, List.size_toArray]; exact hl4
      have cS := refSum_any ⟨(l.drop 4).toArray⟩ w2 (by rw [s4]; omega)
      have hm := Crcp.more_lt (s := 0) (l.drop 4) (by decide)
      have c4 := fun W => four_lit (cmore 0 (l.drop 4)) hm W
      have O1 := Lib.hid o1
      have HB2 := Lib.hid hb2
      have h4c : 4 ≤ c1 := by omega
      have h4d : ¬ c1 = 4 := by omega
      have HC := Lib.hid hmc
      have hzz : (⟨(l.drop 4).toArray⟩ : ByteArray).data.toList = l.drop 4 := by simp
      rw [hzz] at cS
      clear o1 g1 hb2 o0 hb0 hr hsz hR2 hR4 s4 hl4 hzz hs hmc
      go_wp2_with fail
      refine cS.mono ?_
      rintro e w' ⟨rfl, rfl⟩
      clear cS hs4
      go_wp2_with fail
      refine (c4 _).mono ?_
      rintro e w3 ⟨rfl, hb3⟩
      obtain ⟨W, hcp, o4, hb4⟩ := run_mend (cmore 0 (l.drop 4)) l g w.heap.size c1 w3 hl (O1.out.below hb3) hbg 3
      have HB := Lib.hid (HB2.out.trans ((hb3.mono HB2.out.size).trans hb4))
      obtain ⟨hR, hml, _⟩ := own_list2 o4
      have hmc : (four (cmore 0 (l.drop 4)) ++ l.drop 4).length ≤ c1 := by rw [hml]; exact HC.out
      have hl512 := hl
      clear o4 hb4 hb3 c4 O1 hbg h4c h4d HC
      generalize four (cmore 0 (l.drop 4)) ++ l.drop 4 = m at *
      go_upto_region 6 with fail
      obtain ⟨q, r, f, hr, fP, fR⟩ := read_both z m (by omega)
      have cP := fP _ c1 _ hR hmc (hT.below hT.pos HB.out)
      rw [hml] at cP
      have HR := Lib.hid hR
      clear hR fP
      go_wp2_with fail
      refine cP.mono ?_
      rintro e W4 ⟨rfl, hb4⟩
      have HB4 := Lib.hid (bel_call HB.out hb4)
      have HR4 := Lib.hid (HR.out.below hb4)
      have hBN : RowKit.Below W4.heap.size W4 (W4.alloc (.cells (SV q r).toArray 56)) := (Below.refl _ _).alloc (Nat.le_refl _) _
      have HS5 := Lib.hid (sup_new W4 q r)
      have HR5 := Lib.hid (HR4.out.below hBN)
      have HB5 := Lib.hid (bel_call HB4.out hBN)
      clear hb4 hBN cP
      go_upto_region 7 with (refine wpList_st_new (op := ⟨none, _, _, _, _, _⟩) rfl (.tmp 8) (.tmp 36) rfl W4 q r rfl rfl rfl hr rfl ?_)
      generalize W4.alloc (.cells (SV q r).toArray 56) = W5 at *
      have hs := str_rd HR5.out c1
      rw [hml] at hs
      have cR := fR W5
      clear fR
      go_wp2_with fail
      refine cR.mono ?_
      rintro e W6 ⟨rfl, hb6⟩
      have HB6 := Lib.hid (bel_call HB5.out hb6)
      have HS6 := Lib.hid (HS5.out.below hb6 HS5.out.lt)
      have hBN : RowKit.Below W6.heap.size W6 (W6.alloc (.cells (SV q r).toArray 56)) := (Below.refl _ _).alloc (Nat.le_refl _) _
      have HX7 := Lib.hid (sup_new W6 q r)
      have HS7 := Lib.hid (HS6.out.below hBN HS6.out.lt)
      have HB7 := Lib.hid (bel_call HB6.out hBN)
      clear hb6 hBN cR hs
      go_upto_region 8 with (refine wpList_st_new (op := ⟨none, _, _, _, _, _⟩) rfl (.tmp 10) (.tmp 43) rfl W6 q r rfl rfl rfl hr rfl ?_)
      generalize W6.alloc (.cells (SV q r).toArray 56) = W7 at *
      have F := fixed07_any W7 (hT.below hT.pos HB7.out)
      go_wp2_with fail
      refine F.mono ?_
      rintro e W8 ⟨rfl, hb8⟩
      have HS8 := Lib.hid (HS7.out.below hb8 HS7.out.lt)
      have HX8 := Lib.hid (HX7.out.below hb8 HX7.out.lt)
      have HB8 := Lib.hid (bel_call HB7.out hb8)
      clear hb8 F
      go_wp2_with (first
        | refine wl_ld (op := ⟨some 47, _, _, _, _, _⟩) rfl (.tmp 8) rfl W4.heap.size q r rfl HS8.out hr ?_
        | refine wl_ld (op := ⟨some 48, _, _, _, _, _⟩) rfl (.tmp 10) rfl W6.heap.size q r rfl HX8.out hr ?_
        | refine wl_eq (op := ⟨some 49, _, _, _, _, _⟩) rfl (.tmp 47) (.tmp 48) 56 rfl q r rfl rfl hr ?_)
      go_ret
      exact ⟨rfl, HB8.out⟩
    · have hmb : mend = false ∨ mend = true ∧ ((l.length : Int) == 512) = false := by
        cases mend
        · exact .inl rfl
        · exact .inr ⟨rfl, beq_eq_false_iff_ne.2 (by intro e; exact hm ⟨rfl, by omega⟩)⟩
      clear hm
      rcases hmb with rfl | ⟨rfl, hl⟩
      all_goals
        go_enter Tryd.func12, Tryd.ntmps12
        go_upto_region 6 with (at_builtin; refine wpList_clone (by simp [Region.wanted, go_sem]) (.tmp 16) (.tmp 17) rfl rfl w.heap.size (.slice (some ⟨w.heap.size, 0, none⟩) 0 0) rfl o0 A c ⟨l.toArray⟩ (by rw [hs]; rfl) hr (by rw [hs]; omega) hsz ?_; intro A1 c1 W o1 g1 _)
        have hbW := hb0.grown g1 hsz (fun k hk => (o0.lt k hk).1)
        rw [hs] at o1
        obtain ⟨hR, _, hmc⟩ := own_list2 o1
        have HB := Lib.hid hbW
        clear hbW o1 g1 hsz hr o0 hb0 hs
        obtain ⟨m, hm0⟩ : ∃ m, m = l := ⟨_, rfl⟩
        have hml : m.length = l.length := by rw [hm0]
        rw [← hml] at hmc
        rw [← hm0] at hR
        clear hm0
        obtain ⟨q, r, f, hr, fP, fR⟩ := read_both z m (by omega)
        have cP := fP _ c1 _ hR hmc (hT.below hT.pos HB.out)
        rw [hml] at cP
        have HR := Lib.hid hR
        clear hR fP
        go_wp2_with fail
        refine cP.mono ?_
        rintro e W4 ⟨rfl, hb4⟩
        have HB4 := Lib.hid (bel_call HB.out hb4)
        have HR4 := Lib.hid (HR.out.below hb4)
        have hBN : RowKit.Below W4.heap.size W4 (W4.alloc (.cells (SV q r).toArray 56)) := (Below.refl _ _).alloc (Nat.le_refl _) _
        have HS5 := Lib.hid (sup_new W4 q r)
        have HR5 := Lib.hid (HR4.out.below hBN)
        have HB5 := Lib.hid (bel_call HB4.out hBN)
        clear hb4 hBN cP
        go_upto_region 7 with (refine wpList_st_new (op := ⟨none, _, _, _, _, _⟩) rfl (.tmp 8) (.tmp 36) rfl W4 q r rfl rfl rfl hr rfl ?_)
        generalize W4.alloc (.cells (SV q r).toArray 56) = W5 at *
        have hs := str_rd HR5.out c1
        rw [hml] at hs
        have cR := fR W5
        clear fR
        go_wp2_with fail
        refine cR.mono ?_
        rintro e W6 ⟨rfl, hb6⟩
        have HB6 := Lib.hid (bel_call HB5.out hb6)
        have HS6 := Lib.hid (HS5.out.below hb6 HS5.out.lt)
        have hBN : RowKit.Below W6.heap.size W6 (W6.alloc (.cells (SV q r).toArray 56)) := (Below.refl _ _).alloc (Nat.le_refl _) _
        have HX7 := Lib.hid (sup_new W6 q r)
        have HS7 := Lib.hid (HS6.out.below hBN HS6.out.lt)
        have HB7 := Lib.hid (bel_call HB6.out hBN)
        clear hb6 hBN cR hs
        go_upto_region 8 with (refine wpList_st_new (op := ⟨none, _, _, _, _, _⟩) rfl (.tmp 10) (.tmp 43) rfl W6 q r rfl rfl rfl hr rfl ?_)
        generalize W6.alloc (.cells (SV q r).toArray 56) = W7 at *
        have F := fixed07_any W7 (hT.below hT.pos HB7.out)
        go_wp2_with fail
        refine F.mono ?_
        rintro e W8 ⟨rfl, hb8⟩
        have HS8 := Lib.hid (HS7.out.below hb8 HS7.out.lt)
        have HX8 := Lib.hid (HX7.out.below hb8 HX7.out.lt)
        have HB8 := Lib.hid (bel_call HB7.out hb8)
        clear hb8 F
        go_wp2_with (first
          | refine wl_ld (op := ⟨some 47, _, _, _, _, _⟩) rfl (.tmp 8) rfl W4.heap.size q r rfl HS8.out hr ?_
          | refine wl_ld (op := ⟨some 48, _, _, _, _, _⟩) rfl (.tmp 10) rfl W6.heap.size q r rfl HX8.out hr ?_
          | refine wl_eq (op := ⟨some 49, _, _, _, _, _⟩) rfl (.tmp 47) (.tmp 48) 56 rfl q r rfl rfl hr ?_)
        go_ret
        exact ⟨rfl, HB8.out⟩
end Go.Proofs.YtcakicifgbnhcaaDoor
