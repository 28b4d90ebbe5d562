/- The reference's Parse, and Same. -/
import Derived.Test.YtpecleflhhbecaaParseWalks
namespace Go.Proofs.Ytpecleflhhbecaa
open Go.RowKit Lip

theorem ext_drop (l : List UInt8) (i j : Nat) : (⟨l.toArray⟩ : ByteArray).extract i j = ⟨((l.drop i).take (j - i)).toArray⟩ := by
  apply ByteArray.ext
  rw [ByteArray.data_extract]
  simp [List.extract_toArray, List.take_drop]
theorem numl_get4 (l : List UInt8) (i : Nat) (h : i + 4 ≤ l.length) : numl ((l.drop i).take 4) = get4 l i := by
  rw [← get4_drop]
  have h2 : 4 ≤ (l.drop i).length := by rw [List.length_drop]; omega
  match l.drop i, h2 with
  | a :: b :: c :: d :: t, _ => simp [numl, get4]; omega
theorem numl_get2 (l : List UInt8) (i : Nat) (h : i + 2 ≤ l.length) : numl ((l.drop i).take 2) = get2 l i := by
  have e : get2 l i = get2 (l.drop i) 0 := by
    have h : ∀ k, (l.drop i).getD k 0 = l.getD (i + k) 0 := fun k => by rw [List.getD, List.getD, List.getElem?_drop]
    simp only [get2, h]; simp
  rw [e]
  have h2 : 2 ≤ (l.drop i).length := by rw [List.length_drop]; omega
  match l.drop i, h2 with
  | a :: b :: t, _ => simp [numl, get2]

theorem number_ext (l : List UInt8) (i j : Nat) (w : World) (h : j - i ≤ 4) : Calls Try.prog 49 #[.string ((⟨l.toArray⟩ : ByteArray).extract i j)] w fun e w' => e = .returned (.int .u32 (numl ((l.drop i).take (j - i)))) ∧ w = w' := by
  rw [ext_drop]
  exact number_any _ w (by rw [List.length_take]; omega)

set_option maxHeartbeats 800000 in
theorem refParse_any (l : List UInt8) (w : World) (hl : l.length ≤ 1000000) : Calls Try.prog 33 #[.string ⟨l.toArray⟩] w (ParsePost w l) := by
  by_cases h6 : l.length < 6
  · have HG := Lib.hid (show pgood l = false by simp [pgood]; omega)
    go_enter Try.func33, Try.ntmps33
    go_wp2
    go_ret3
    exact ⟨Below.refl _ _, .inr ⟨HG.out, rfl⟩⟩
  · have h6i : ¬ (l.length : Int) < 6 := by omega
    by_cases h4 : (l.length - 6) % 4 = 0
    · have e4 : (((l.length : Int) - 6) % 4 != 0) = false := by rw [show ((l.length : Int) - 6) % 4 = 0 by omega]; rfl
      have c1 := number_ext l 0 4 w (by omega)
      have c2 := number_ext l 4 6 w (by omega)
      rw [show 4 - 0 = 4 from rfl, numl_get4 l 0 (by omega)] at c1
      rw [show 6 - 4 = 2 from rfl, numl_get2 l 4 (by omega)] at c2
      have HN := Lib.hid (show pn l = get2 l 4 from rfl)
      have HX := Lib.hid (show pnext l = get4 l 0 from rfl)
      have hnx := get4_lt l 0
      have hnn := get2_lt l 4
      generalize get4 l 0 = nx at *
      generalize get2 l 4 = n at *
      have H4 := Lib.hid h4
      clear h4
      by_cases hg : nx ≠ 1 ∧ n ≤ 123 ∧ l.length = 6 + 4 * n
      · obtain ⟨g1, g2, g3⟩ := hg
        have HP := Lib.hid (show pgood l = rise 1 (pnum l n) by
          simp only [pgood, HX.out, HN.out, decide_eq_true (show 6 ≤ l.length by omega), decide_eq_true g1, decide_eq_true g2, decide_eq_true g3, Bool.true_and])
        have HL := Lib.hid g3
        have hx1 : ((nx : Int) == 1) = false := beq_eq_false_iff_ne.2 (by omega)
        have hd1 : decide ((123 : Int) < (n : Int)) = false := decide_eq_false (by omega)
        have hq1 : ((n : Int) != ((l.length : Int) - 6) / 4) = false := by rw [show ((l.length : Int) - 6) / 4 = n by omega]; simp
        clear g3
        go_enter Try.func33, Try.ntmps33
        go_wp2_with fail
        refine c1.mono ?_
        rintro e w' ⟨rfl, rfl⟩
        go_wp2_with fail
        refine c2.mono ?_
        rintro e w' ⟨rfl, rfl⟩
        go_wp2
        clear c1 c2 hx1 hd1 hq1
        go_loopw [7, 8] (fun v i wr => ∃ (k : Nat) (ov : Value), k ≤ n ∧ i = .int .i64 k ∧ ov = v ∧ Own wr w.heap.size 48 ov ((pnum l k).map u32v) ∧ Below w.heap.size w wr) (fun _ i _ => n - (intOf i).toNat)
        case atStart => exact ⟨0, _, Nat.zero_le _, rfl, rfl, Own.lit w w.heap.size 48 #[] (Nat.le_refl _) (by simp), (Below.refl _ _).alloc (Nat.le_refl _) _⟩
        case round =>
          obtain ⟨k, ov, hk, rfl, rfl, hown, hbel⟩ := hrel
          have HOV := Lib.hid hown
          have HBL := Lib.hid hbel
          clear hown hbel
          by_cases hlt : k < n
          · have h46 : 6 + 4 * k + 4 ≤ l.length := by have := HL.out; omega
            have cg := number_ext l (6 + 4 * k) (10 + 4 * k) wr (by omega)
            rw [show 10 + 4 * k - (6 + 4 * k) = 4 by omega, numl_get4 l _ h46] at cg
            have HP2 := Lib.hid (pnum_succ l k)
            have hy := get4_lt l (6 + 4 * k)
            generalize get4 l (6 + 4 * k) = y at *
            have HOV2 := HOV.out.alloc (.cells #[.int .u32 (y : Int)] 48)
            have hr6 : Rd (wr.alloc (.cells #[.int .u32 (y : Int)] 48)) (some ⟨wr.heap.size, 0, none⟩) ([y].map u32v) := Rd.fresh _ _ _ _
            have HBA := Lib.hid (show Below w.heap.size w (wr.alloc (.cells #[.int .u32 (y : Int)] 48)) from HBL.out.alloc HBL.out.size _)
            have hsz := HBA.out.size
            go_wp2_with fail
            refine cg.mono ?_
            rintro e w1 ⟨rfl, rfl⟩
            go_wp2_with (at_builtin; refine wpList_app el25 (by simp [Region.wanted, go_sem]) (.tmp 46) (.tmp 56) rfl w.heap.size ov ((pnum l k).map u32v) rfl HOV2 (some ⟨wr.heap.size, 0, none⟩) 1 1 ([y].map u32v) rfl rfl hr6 (one_u32 _) (by simp [pnum_len]; omega) (by simp [pnum_len]; omega) hsz ?_; intro A' n' c' w' h1 h2 h3 h4)
            go_roundw
            case rel => exact ⟨k + 1, _, by omega, by go_num, rfl, by rw [HP2.out, List.map_append]; exact h1, HBA.out.grown h3 hsz (fun r e => (HOV2.lt r e).1)⟩
            case measure => simp [intOf]; omega
          · obtain rfl : k = n := by omega
            obtain ⟨A1, c1, rfl, hr1, _, _⟩ := HOV.out.form
            have cr := refRises_any A1 (pnum l k) c1 wr hr1 (pnum_lt l _) (by rw [pnum_len]; omega)
            rw [pnum_len] at cr
            simp only [List.length_map, pnum_len] at HOV
            simp only [List.length_map, pnum_len]
            cases hri : rise 1 (pnum l k) with
            | true =>
              rw [hri] at cr
              have HR := Lib.hid (HP.out.trans hri)
              clear hri hr1
              go_wp2_with fail
              refine cr.mono ?_
              rintro e w1 ⟨rfl, hb⟩
              have HB := Lib.hid hb
              clear hb
              go_wp2
              go_ret3
              exact ⟨HBL.out.trans (HB.out.mono HBL.out.size), .inl ⟨HR.out, _, by rw [HX.out]; rfl, by rw [HN.out]; exact HOV.out.below HB.out⟩⟩
            | false =>
              rw [hri] at cr
              have HR := Lib.hid (HP.out.trans hri)
              clear hri hr1
              go_wp2_with fail
              refine cr.mono ?_
              rintro e w1 ⟨rfl, hb⟩
              have HB := Lib.hid hb
              clear hb
              go_wp2
              go_ret3
              exact ⟨HBL.out.trans (HB.out.mono HBL.out.size), .inr ⟨HR.out, rfl⟩⟩
      · have HP := Lib.hid (show pgood l = false by
          cases hp : pgood l with
          | false => rfl
          | true =>
            simp only [pgood, Bool.and_eq_true, decide_eq_true_eq] at hp
            rw [HX.out, HN.out] at hp
            exact absurd ⟨hp.1.1.1.2, hp.1.1.2, hp.1.2⟩ hg)
        have hL : ∃ q, l.length = 6 + 4 * q := ⟨(l.length - 6) / 4, by have := H4.out; omega⟩
        obtain ⟨q, hq⟩ := hL
        have HQ := Lib.hid (show ((l.length : Int) - 6) / 4 = q by omega)
        by_cases g2 : n ≤ 123
        · have hd1 : decide ((123 : Int) < (n : Int)) = false := decide_eq_false (by omega)
          by_cases g3 : n = q
          · have hx1 : ((nx : Int) == 1) = true := by rw [show nx = 1 by omega]; rfl
            have hq1 : ((n : Int) != ((l.length : Int) - 6) / 4) = false := by rw [HQ.out, g3]; simp
            clear g2 g3 hg hq
            go_enter Try.func33, Try.ntmps33
            go_wp2_with fail
            refine c1.mono ?_
            rintro e w' ⟨rfl, rfl⟩
            go_wp2_with fail
            refine c2.mono ?_
            rintro e w' ⟨rfl, rfl⟩
            go_wp2
            go_ret3
            exact ⟨Below.refl _ _, .inr ⟨HP.out, rfl⟩⟩
          · have hq1 : ((n : Int) != ((l.length : Int) - 6) / 4) = true := bne_iff_ne.2 (by rw [HQ.out]; omega)
            clear g2 g3 hg hq
            go_enter Try.func33, Try.ntmps33
            go_wp2_with fail
            refine c1.mono ?_
            rintro e w' ⟨rfl, rfl⟩
            go_wp2_with fail
            refine c2.mono ?_
            rintro e w' ⟨rfl, rfl⟩
            go_wp2
            go_ret3
            exact ⟨Below.refl _ _, .inr ⟨HP.out, rfl⟩⟩
        · have hd1 : decide ((123 : Int) < (n : Int)) = true := decide_eq_true (by omega)
          clear g2 hg hq
          go_enter Try.func33, Try.ntmps33
          go_wp2_with fail
          refine c1.mono ?_
          rintro e w' ⟨rfl, rfl⟩
          go_wp2_with fail
          refine c2.mono ?_
          rintro e w' ⟨rfl, rfl⟩
          go_wp2
          go_ret3
          exact ⟨Below.refl _ _, .inr ⟨HP.out, rfl⟩⟩
    · have e4 : (((l.length : Int) - 6) % 4 != 0) = true := bne_iff_ne.2 (by omega)
      have HP := Lib.hid (show pgood l = false by
        cases hp : pgood l with
        | false => rfl
        | true =>
          simp only [pgood, Bool.and_eq_true, decide_eq_true_eq] at hp
          omega)
      clear h4
      go_enter Try.func33, Try.ntmps33
      go_wp2
      go_ret3
      exact ⟨Below.refl _ _, .inr ⟨HP.out, rfl⟩⟩

/-- Same, of two rows that read alike. -/
theorem same_any (A B : Option Addr) (l : List Nat) (c d : Nat) (w : World) (hA : Rd w A (l.map u32v)) (hB : Rd w B (l.map u32v)) (hl : l.length ≤ 1000000) : Calls Try.prog 34 #[.slice A l.length c, .slice B l.length d] w fun e w' => e = .returned (.bool true) ∧ Below w.heap.size w w' := by
  go_enter Try.func34, Try.ntmps34
  go_wp2
  go_loopw [5] (fun i wr => ∃ k : Nat, k ≤ l.length ∧ i = .int .i64 k ∧ Below w.heap.size w wr) (fun i _ => l.length - (intOf i).toNat)
  case atStart => exact ⟨0, Nat.zero_le _, rfl, Below.refl _ _⟩
  case round =>
    obtain ⟨k, hk, rfl, hbel⟩ := hrel
    have HBL := Lib.hid hbel
    by_cases hlt : k < l.length
    · obtain ⟨ba, oa, rfl, _, hca⟩ := (hA.below hbel) (by rw [List.length_map]; omega)
      obtain ⟨bb, ob, rfl, _, hcb⟩ := (hB.below hbel) (by rw [List.length_map]; omega)
      have ha := hca k (.int .u32 ((l[k] : Nat) : Int)) (by rw [List.getElem?_map, List.getElem?_eq_getElem hlt]; rfl)
      have hb := hcb k (.int .u32 ((l[k] : Nat) : Int)) (by rw [List.getElem?_map, List.getElem?_eq_getElem hlt]; rfl)
      clear hca hcb hbel
      generalize l[k] = x at *
      go_wp2
      go_quiet (fail)
      go_wp2
      go_roundw
      case rel => exact ⟨k + 1, by omega, by go_num, drewN_below HBL.out⟩
      case measure => simp [intOf]; omega
    · go_wp2
      go_ret
      exact ⟨rfl, HBL.out⟩
end Go.Proofs.Ytpecleflhhbecaa
