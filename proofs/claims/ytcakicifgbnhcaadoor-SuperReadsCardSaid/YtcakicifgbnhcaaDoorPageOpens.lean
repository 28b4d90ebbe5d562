/- PageOpens: what any block is opened as. -/
import Derived.Test.YtcakicifgbnhcaaDoorPageRefOpen
import Derived.Lib.LazyBuf
namespace Go.Proofs.YtcakicifgbnhcaaDoor
open Go.RowKit Go.Sort Pgp
open Crcp (cmore)

theorem own_list2 {w : World} {base : Nat} {A : Option Addr} {n c : Nat} {l : List UInt8} (h : Own w base (.slice A n c) ⟨l.toArray⟩) : Rd w A ⟨l.toArray⟩ ∧ l.length = n ∧ n ≤ c := by
  obtain ⟨A', c', e, h1, h2⟩ := own_list h
  injection e with e1 e2 e3
  subst e1 e2 e3
  exact ⟨h1, rfl, h2⟩
theorem size5 (w : World) : (Go.sizeOf 5).run Tryd.prog w = .ok 1 w := by
  obtain ⟨i0, hi, hz0, hz1, hz2⟩ := info_parts info5
  simp [Go.sizeOf, typeInfo, hi, hz1]
/-- the first four bytes of a row of the call's own, put anew from a string -/
theorem run_mend (x : Nat) (l : List UInt8) (g base cc : Nat) (w : World) (hl : l.length = 512) (ho : Own w base (.slice (some ⟨g, 0, none⟩) 512 cc) ⟨l.toArray⟩) (hbg : base ≤ g) (ty : TypeId) :
    ∃ w', (Builtin.copy_ #[22, 9] ty #[.slice (some ⟨g, 0, none⟩) 512 cc, .string ⟨(four x).toArray⟩]).run Tryd.prog w = .ok (.int .i64 4) w' ∧ Own w' base (.slice (some ⟨g, 0, none⟩) 512 cc) ⟨(four x ++ l.drop 4).toArray⟩ ∧ Below base w w' := by
  have h := run_copy_string (P := Tryd.prog) w 22 9 ty 5 g 0 512 cc ⟨(four x).toArray⟩ Tryd.underlying22 size5 (show 4 ≤ 512 by decide) (fun j hj => by
    have hj : j < 4 := hj
    rw [Nat.zero_add, ho.at_ j l[j] (List.getElem?_eq_getElem (by omega))]; rfl) (fun j _ => ho.free (0 + j))
  refine ⟨_, h, ?_, below_setCells hbg _ _ _ (Below.refl _ _)⟩
  match l, hl with
  | a :: b :: c :: d :: t, hl =>
    have ho : Own w base (.slice (some ⟨g, 0, none⟩) (a :: b :: c :: d :: t).length cc) ⟨(a :: b :: c :: d :: t).toArray⟩ := by rw [hl]; exact ho
    have h1 := (ho.stored 0 (UInt8.ofNat (x / 16777216))).1
    have h2 := (h1.stored 1 (UInt8.ofNat (x / 65536))).1
    have h3 := (h2.stored 2 (UInt8.ofNat (x / 256))).1
    have h4 := (h3.stored 3 (UInt8.ofNat x)).1
    rw [List.length_set, List.length_set, List.length_set, List.length_set, hl] at h4
    exact h4

set_option maxRecDepth 20000 in
set_option maxHeartbeats 1600000 in
theorem walk8 (number : Nat) (A : Option Addr) (l : List UInt8) (c : Nat) (mend : Bool) (w : World) (hn : number < 4294967296) (hA : Rd w A ⟨l.toArray⟩) (hT : Tab w) :
    Calls Tryd.prog 8 #[.int .u32 number, .slice A l.length c, .bool mend] w fun e w' => e = .returned (.bool true) ∧ Below w.heap.size w w' := by
  by_cases h6 : 600 < l.length
  · have F := fixed06_any w hT
    go_enter Tryd.func8, Tryd.ntmps8
    go_wp2_with fail
    refine F.mono ?_
    rintro e w2 ⟨rfl, hb⟩
    go_wp2
    go_ret
    exact ⟨rfl, hb⟩
  · have h6 : l.length ≤ 600 := by omega
    have hs : (⟨l.toArray⟩ : ByteArray).size = l.length := by simp [ByteArray.size]
    have hb0 : Below w.heap.size w (w.alloc (.cells #[] 5)) := (Below.refl _ _).alloc (Nat.le_refl _) _
    have o0 : Own (w.alloc (.cells #[] 5)) w.heap.size (.slice (some ⟨w.heap.size, 0, none⟩) 0 0) ByteArray.empty := Own.lit w w.heap.size ByteArray.empty #[] (by simp [bcells]) (Nat.le_refl _) (by decide)
    have hr := hA.below hb0
    have hsz := hb0.size
    by_cases hm : mend = true ∧ l.length = 512
    · obtain ⟨rfl, hl⟩ := hm
      go_enter Tryd.func8, Tryd.ntmps8
      go_upto_region 4 with (at_builtin; refine wpList_clone (by simp [Region.wanted, go_sem]) (.tmp 20) (.tmp 21) rfl rfl w.heap.size (.slice (some ⟨w.heap.size, 0, none⟩) 0 0) rfl o0 A c ⟨l.toArray⟩ (by rw [hs, hl]; rfl) hr (by rw [hs]; omega) hsz ?_; intro A1 c1 w2 o1 g1 _)
      have hb2 := hb0.grown g1 hsz (fun k hk => (o0.lt k hk).1)
      rw [hs, hl] at o1
      obtain ⟨g, hg⟩ : ∃ g, A1 = some ⟨g, 0, none⟩ := by
        obtain ⟨gg, cc, e⟩ := Joins.ownsRow_form (v := .slice A1 512 c1) (by have := o1; unfold Own at this; rw [hs, hl] at this; exact this) (by decide)
        injection e with e1 e2 e3
        exact ⟨gg, e1⟩
      subst hg
      obtain ⟨hR2, _, hmc⟩ := own_list2 o1
      have hbg := (o1.lt g rfl).1
      have hR4 := hR2.sub 4 508 (by omega)
      rw [List.take_of_length_le (by rw [List.length_drop]; omega)] at hR4
      have hs4 := str_rd hR4 (c1 - 4)
      have hl4 : (l.drop 4).length = 508 := by rw [List.length_drop]; omega
      rw [hl4] at hs4
      have s4 : (⟨(l.drop 4).toArray⟩ : ByteArray).size = 508 := by simp only [ByteArray.size, List.size_toArray]; exact hl4
      have cS := refSum_any ⟨(l.drop 4).toArray⟩ w2 (by rw [s4]; omega)
      have hm := Crcp.more_lt (s := 0) (l.drop 4) (by decide)
      have c4 := fun W => four_lit (cmore 0 (l.drop 4)) hm W
      have O1 := Lib.hid o1
      have HB2 := Lib.hid hb2
      have h4c : 4 ≤ c1 := by omega
      have h4d : ¬ c1 = 4 := by omega
      have HC := Lib.hid hmc
      have hz : (⟨(l.drop 4).toArray⟩ : ByteArray).data.toList = l.drop 4 := by simp
      rw [hz] at cS
      clear o1 g1 hb2 o0 hb0 hr hsz hR2 hR4 s4 hl4 hz hs hmc
      go_wp2_with fail
      refine cS.mono ?_
      rintro e w' ⟨rfl, rfl⟩
      clear cS hs4
      go_wp2_with fail
      refine (c4 _).mono ?_
      rintro e w3 ⟨rfl, hb3⟩
      obtain ⟨W, hcp, o4, hb4⟩ := run_mend (cmore 0 (l.drop 4)) l g w.heap.size c1 w3 hl (O1.out.below hb3) hbg 3
      have HB := Lib.hid (HB2.out.trans ((hb3.mono HB2.out.size).trans hb4))
      obtain ⟨hR, hml, _⟩ := own_list2 o4
      have hmc : (four (cmore 0 (l.drop 4)) ++ l.drop 4).length ≤ c1 := by rw [hml]; exact HC.out
      have hl512 := hl
      clear o4 hb4 hb3 c4 O1 hbg h4c h4d HC
      generalize four (cmore 0 (l.drop 4)) ++ l.drop 4 = m at *
      go_upto_region 6 with fail
      have cO := open_any number _ m c1 _ hn hR hmc (by omega) (hT.below hT.pos HB.out)
      rw [hml] at cO
      have HR := Lib.hid hR
      clear hR
      go_wp2_with fail
      refine cO.mono ?_
      rintro e W4 ⟨hb4, hpost⟩
      have hs := str_rd (HR.out.below hb4) c1
      rw [hml] at hs
      have cR := refOpen_any number m W4 hn (by omega)
      have HR4 := Lib.hid (HR.out.below hb4)
      have HB4 := Lib.hid (bel_call HB.out hb4)
      clear hb4 cO
      rcases hpost with ⟨hf, v, rfl, hv⟩ | ⟨hf, rfl⟩
      · obtain ⟨A4, c4, rfl, hr4, _⟩ := own_list hv
        have hrv : rv number m = .tuple #[.int .u8 (okind m).toNat, .string ⟨(obody m).toArray⟩, .int .i64 0] := by rw [rv, if_pos hf]
        rw [hrv] at cR
        obtain ⟨hob, hso⟩ := seal_open number m hf
        have hm5 : m.length = 512 := by rw [← hso]; exact seal_len _ _ _ hob
        have HM5 := Lib.hid hm5
        have HSO := Lib.hid hso
        have HRB := Lib.hid hr4
        clear hv hr4 hso hm5 hrv hf
        go_wp2_with fail
        refine cR.mono ?_
        rintro e W5 ⟨rfl, hb5⟩
        have hs5 := str_rd (HRB.out.below hb5) c4
        have HB5 := Lib.hid (bel_call HB4.out hb5)
        have HR5 := Lib.hid (HR4.out.below hb5)
        have cS := seal_any number (okind m) A4 (obody m) c4 W5 hn hob (HRB.out.below hb5) (hT.below hT.pos HB5.out)
        rw [HSO.out] at cS
        clear hs cR hb5
        go_wp2_with fail
        refine cS.mono ?_
        rintro e W6 ⟨g6, rfl, hg6, hgl6, hb6⟩
        have HB6 := Lib.hid (bel_call HB5.out hb6)
        have HR6 := Lib.hid (HR5.out.below hb6)
        have HG6 := Lib.hid hg6
        have F := fixed06_any W6 (hT.below hT.pos HB6.out)
        clear cS hs5 hg6 hgl6 hb6
        go_wp2_with fail
        refine F.mono ?_
        rintro e W7 ⟨rfl, hb7⟩
        have hs7 := str_rd (HR6.out.below hb7) c1
        rw [hml] at hs7
        have hr8 := (HG6.out.below hb7).rd 0 512 (by rw [HM5.out]; decide)
        rw [List.drop_zero, List.take_of_length_le (by rw [HM5.out]; decide)] at hr8
        have hs8 := str_rd hr8 512
        rw [HM5.out] at hs8
        have HB7 := Lib.hid (bel_call HB6.out hb7)
        clear hb7 hr8
        go_wp2
        go_ret
        exact ⟨rfl, HB7.out⟩
      · have hrv : rv number m = .tuple #[.int .u8 0, .string ⟨#[]⟩, .int .i64 (fault number m)] := by rw [rv, if_neg hf]
        rw [hrv] at cR
        have hq2 : ((fault number m : Int) != 0) = true := bne_iff_ne.2 (by omega)
        clear hrv hf
        generalize fault number m = ft at *
        go_wp2_with fail
        refine cR.mono ?_
        rintro e W5 ⟨rfl, hb5⟩
        have hnil := nil_str W5
        have HB5 := Lib.hid (bel_call HB4.out hb5)
        have cS := seal_any number 0 none [] 0 W5 hn (by decide) (Rd.none_ _ _) (hT.below hT.pos HB5.out)
        clear hs cR hb5
        go_wp2_with fail
        refine cS.mono ?_
        rintro e W6 ⟨g6, rfl, hg6, hgl6, hb6⟩
        have HB6 := Lib.hid (bel_call HB5.out hb6)
        have F := fixed06_any W6 (hT.below hT.pos HB6.out)
        clear cS hnil hg6 hgl6 hb6
        go_wp2_with fail
        refine F.mono ?_
        rintro e W7 ⟨rfl, hb7⟩
        have HB7 := Lib.hid (bel_call HB6.out hb7)
        clear hb7
        go_wp2
        go_ret
        exact ⟨rfl, HB7.out⟩
    · have hmb : mend = false ∨ mend = true ∧ ((l.length : Int) == 512) = false := by
        cases mend
        · exact .inl rfl
        · exact .inr ⟨rfl, beq_eq_false_iff_ne.2 (by intro e; exact hm ⟨rfl, by omega⟩)⟩
      clear hm
      rcases hmb with rfl | ⟨rfl, hl⟩
      all_goals
        go_enter Tryd.func8, Tryd.ntmps8
        go_upto_region 6 with (at_builtin; refine wpList_clone (by simp [Region.wanted, go_sem]) (.tmp 20) (.tmp 21) rfl rfl w.heap.size (.slice (some ⟨w.heap.size, 0, none⟩) 0 0) rfl o0 A c ⟨l.toArray⟩ (by rw [hs]; rfl) hr (by rw [hs]; omega) hsz ?_; intro A1 c1 W o1 g1 _)
        have hbW := hb0.grown g1 hsz (fun k hk => (o0.lt k hk).1)
        rw [hs] at o1
        obtain ⟨hR, _, hmc⟩ := own_list2 o1
        have HB := Lib.hid hbW
        clear hbW o1 g1 hsz hr o0 hb0 hs
        obtain ⟨m, hm0⟩ : ∃ m, m = l := ⟨_, rfl⟩
        have hml : m.length = l.length := by rw [hm0]
        rw [← hml] at hmc
        rw [← hm0] at hR
        clear hm0
        have cO := open_any number _ m c1 _ hn hR hmc (by omega) (hT.below hT.pos HB.out)
        rw [hml] at cO
        have HR := Lib.hid hR
        clear hR
        go_wp2_with fail
        refine cO.mono ?_
        rintro e W4 ⟨hb4, hpost⟩
        have hs := str_rd (HR.out.below hb4) c1
        rw [hml] at hs
        have cR := refOpen_any number m W4 hn (by omega)
        have HR4 := Lib.hid (HR.out.below hb4)
        have HB4 := Lib.hid (bel_call HB.out hb4)
        clear hb4 cO
        rcases hpost with ⟨hf, v, rfl, hv⟩ | ⟨hf, rfl⟩
        · obtain ⟨A4, c4, rfl, hr4, _⟩ := own_list hv
          have hrv : rv number m = .tuple #[.int .u8 (okind m).toNat, .string ⟨(obody m).toArray⟩, .int .i64 0] := by rw [rv, if_pos hf]
          rw [hrv] at cR
          obtain ⟨hob, hso⟩ := seal_open number m hf
          have hm5 : m.length = 512 := by rw [← hso]; exact seal_len _ _ _ hob
          have HM5 := Lib.hid hm5
          have HSO := Lib.hid hso
          have HRB := Lib.hid hr4
          clear hv hr4 hso hm5 hrv hf
          go_wp2_with fail
          refine cR.mono ?_
          rintro e W5 ⟨rfl, hb5⟩
          have hs5 := str_rd (HRB.out.below hb5) c4
          have HB5 := Lib.hid (bel_call HB4.out hb5)
          have HR5 := Lib.hid (HR4.out.below hb5)
          have cS := seal_any number (okind m) A4 (obody m) c4 W5 hn hob (HRB.out.below hb5) (hT.below hT.pos HB5.out)
          rw [HSO.out] at cS
          clear hs cR hb5
          go_wp2_with fail
          refine cS.mono ?_
          rintro e W6 ⟨g6, rfl, hg6, hgl6, hb6⟩
          have HB6 := Lib.hid (bel_call HB5.out hb6)
          have HR6 := Lib.hid (HR5.out.below hb6)
          have HG6 := Lib.hid hg6
          have F := fixed06_any W6 (hT.below hT.pos HB6.out)
          clear cS hs5 hg6 hgl6 hb6
          go_wp2_with fail
          refine F.mono ?_
          rintro e W7 ⟨rfl, hb7⟩
          have hs7 := str_rd (HR6.out.below hb7) c1
          rw [hml] at hs7
          have hr8 := (HG6.out.below hb7).rd 0 512 (by rw [HM5.out]; decide)
          rw [List.drop_zero, List.take_of_length_le (by rw [HM5.out]; decide)] at hr8
          have hs8 := str_rd hr8 512
          rw [HM5.out] at hs8
          have HB7 := Lib.hid (bel_call HB6.out hb7)
          clear hb7 hr8
          go_wp2
          go_ret
          exact ⟨rfl, HB7.out⟩
        · have hrv : rv number m = .tuple #[.int .u8 0, .string ⟨#[]⟩, .int .i64 (fault number m)] := by rw [rv, if_neg hf]
          rw [hrv] at cR
          have hq2 : ((fault number m : Int) != 0) = true := bne_iff_ne.2 (by omega)
          clear hrv hf
          generalize fault number m = ft at *
          go_wp2_with fail
          refine cR.mono ?_
          rintro e W5 ⟨rfl, hb5⟩
          have hnil := nil_str W5
          have HB5 := Lib.hid (bel_call HB4.out hb5)
          have cS := seal_any number 0 none [] 0 W5 hn (by decide) (Rd.none_ _ _) (hT.below hT.pos HB5.out)
          clear hs cR hb5
          go_wp2_with fail
          refine cS.mono ?_
          rintro e W6 ⟨g6, rfl, hg6, hgl6, hb6⟩
          have HB6 := Lib.hid (bel_call HB5.out hb6)
          have F := fixed06_any W6 (hT.below hT.pos HB6.out)
          clear cS hnil hg6 hgl6 hb6
          go_wp2_with fail
          refine F.mono ?_
          rintro e W7 ⟨rfl, hb7⟩
          have HB7 := Lib.hid (bel_call HB6.out hb7)
          clear hb7
          go_wp2
          go_ret
          exact ⟨rfl, HB7.out⟩
end Go.Proofs.YtcakicifgbnhcaaDoor
