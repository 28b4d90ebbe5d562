/- ListParses: the walk of the law. -/
import Derived.Test.YtpecleflhhbecaaRefParse
import Derived.Test.YtpecleflhhbecaaListBodies
import Derived.Lib.QuietBelow
namespace Go.Proofs.Ytpecleflhhbecaa
open Go.RowKit Lip

/-- what is parsed stands in these pages, and its first body is what was parsed -/
theorem back_of {l : List UInt8} (h : pgood l = true) (pages : List Nat) (h1 : 1 ≤ pages.length) (h2 : ∀ p ∈ pages, 2 ≤ p) (h3 : pages.getD 1 0 = pnext l) :
    good (pnum l (pn l)) pages = true ∧ bodyAt (pnum l (pn l)) pages 0 = l := by
  have hb := body_parse h
  simp only [pgood, Bool.and_eq_true, decide_eq_true_eq] at h
  have hall : (pages.all fun p => decide (2 ≤ p)) = true := List.all_eq_true.2 fun p hp => by simpa using h2 p hp
  refine ⟨?_, ?_⟩
  · simp only [good, h.2, Bool.true_and, Bool.and_eq_true, decide_eq_true_eq, pnum_len]
    exact ⟨by omega, hall⟩
  · have e : lpart (pnum l (pn l)) 0 = pnum l (pn l) := by
      rw [lpart, Nat.mul_zero, List.drop_zero, List.take_of_length_le (by rw [pnum_len]; omega)]
    rw [bodyAt, e, Nat.zero_add, h3]; exact hb

set_option maxHeartbeats 1000000 in
theorem walk9 (A : Option Addr) (l : List UInt8) (c : Nat) (w : World) (lc : l.length ≤ c) (hA : Rd w A (l.map b8)) : Calls Try.prog 9 #[.slice A l.length c] w fun e w' => e = .returned (.bool true) ∧ Below w.heap.size w w' := by
  by_cases hl : l.length ≤ 600
  · have cP := parse_any A l c w hA lc (by omega)
    have hcv : ∀ W : World, Below w.heap.size w W → (convert 33 9 (.slice A l.length c)).run Try.prog W = .ok (.string ⟨l.toArray⟩) W := fun W hW => string_of (P := Try.prog) Try.underlying33 Try.underlying5 Try.underlying9 (hA.below hW) c
    go_enter Try.func9, Try.ntmps9
    go_wp2_with fail
    refine cP.mono ?_
    rintro e w1 ⟨hb1, h1⟩
    have cR := refParse_any l w1 (by omega)
    have hv1 := hcv w1 hb1
    rcases h1 with ⟨hg, v, rfl, ho⟩ | ⟨hg, rfl⟩
    · obtain ⟨A1, c1, rfl, hr1, hc1, _⟩ := ho.form
      rw [List.length_map, pnum_len] at hc1
      have HO := Lib.hid ho
      simp only [List.length_map, pnum_len] at HO
      simp only [List.length_map, pnum_len]
      have HB1 := Lib.hid hb1
      have HCV := Lib.hid hcv
      clear hb1 ho hcv cP
      go_wp2_with fail
      refine cR.mono ?_
      rintro e w2 ⟨hb2, h2⟩
      obtain ⟨_, v2, rfl, ho2⟩ : pgood l = true ∧ ∃ v, e = .returned (.tuple #[.int .u32 (pnext l), v, .int .i64 0]) ∧ Own w2 w1.heap.size 48 v ((pnum l (pn l)).map u32v) := by
        rcases h2 with h2 | h2
        · exact h2
        · rw [hg] at h2; exact absurd h2.1 (by decide)
      obtain ⟨A2, c2, rfl, hr2, _, _⟩ := ho2.form
      simp only [List.length_map, pnum_len]
      have cS := same_any A1 A2 (pnum l (pn l)) c1 c2 w2 (hr1.below hb2) hr2 (by rw [pnum_len]; have := get2_lt l 4; simp only [pn]; omega)
      rw [pnum_len] at cS
      have HB2 := Lib.hid (HB1.out.trans (hb2.mono HB1.out.size))
      have HR1 := Lib.hid (hr1.below hb2)
      clear hb2 h2 cR hv1 hr1 hr2 ho2
      have hG := hg
      simp only [pgood, Bool.and_eq_true, decide_eq_true_eq] at hG
      have hn1 : pnext l ≠ 1 := hG.1.1.1.2
      have hn2 : pn l ≤ 123 := hG.1.1.2
      have hn3 : pnext l < 4294967296 := get4_lt l 0
      have HG := Lib.hid hg
      clear hG hg
      have hne : ((pnext l : Int) != (pnext l : Int)) = false := by simp
      go_wp2_with fail
      refine cS.mono ?_
      rintro e w3 ⟨rfl, hb3⟩
      have HB3 := Lib.hid (HB2.out.trans (hb3.mono HB2.out.size))
      have HR3 := Lib.hid (HR1.out.below hb3)
      clear hb3
      go_upto_if 48 with (fail)
      go_cut [9] from 46 to 52 (fun v wx => ∃ (B : Option Addr) (pages : List Nat) (d : Nat), v = .slice B pages.length d ∧ Rd wx B (pages.map u32v) ∧ 1 ≤ pages.length ∧ pages.length ≤ 2 ∧ (∀ p ∈ pages, 2 ≤ p ∧ p < 4294967296) ∧ pages.getD 1 0 = pnext l ∧ Below w.heap.size w wx ∧ Below w3.heap.size w3 wx)
      case first =>
        have o1 : Own (w3.alloc (.cells #[.int .u32 5] 48)) w3.heap.size 48 (.slice (some ⟨w3.heap.size, 0, none⟩) 1 1) ([5].map u32v) := Own.lit w3 w3.heap.size 48 #[.int .u32 5] (Nat.le_refl _) (by simp)
        by_cases hz : pnext l = 0
        · have hz1 : ((pnext l : Int) != 0) = false := by rw [hz]; rfl
          have hb4 : Below w3.heap.size w3 (w3.alloc (.cells #[.int .u32 5] 48)) := (Below.refl _ _).alloc (Nat.le_refl _) _
          have HB4 := Lib.hid hb4
          have HO4 := Lib.hid o1
          have HZ := Lib.hid hz
          clear hz hb4 o1
          go_wp2
          go_meet
          exact ⟨_, [5], _, rfl, HO4.out.rd, by simp, by simp, by simp, by rw [HZ.out]; rfl, HB3.out.trans (HB4.out.mono HB3.out.size), HB4.out⟩
        · have hz1 : ((pnext l : Int) != 0) = true := bne_iff_ne.2 (by omega)
          have hb5 : Below w3.heap.size w3 ((w3.alloc (.cells #[.int .u32 5] 48)).alloc (.cells #[.int .u32 (pnext l : Int)] 48)) := ((Below.refl _ _).alloc (Nat.le_refl _) _).alloc (by simp) _
          have HB5 := Lib.hid hb5
          have hsz := hb5.size
          have o2 := o1.alloc (.cells #[.int .u32 (pnext l : Int)] 48)
          have hr6 : Rd ((w3.alloc (.cells #[.int .u32 5] 48)).alloc (.cells #[.int .u32 (pnext l : Int)] 48)) (some ⟨w3.heap.size + 1, 0, none⟩) ([pnext l].map u32v) := by
            have := Rd.fresh (w3.alloc (.cells #[.int .u32 5] 48)) #[.int .u32 (pnext l : Int)] 48 (0, 0)
            rw [World.size_alloc] at this
            exact this
          clear hb5 o1
          go_wp2_with (at_builtin; refine wpList_app el25 (by simp [Region.wanted, go_sem]) (.tmp 49) (.tmp 51) rfl w3.heap.size _ ([5].map u32v) rfl o2 (some ⟨w3.heap.size + 1, 0, none⟩) 1 1 ([pnext l].map u32v) rfl rfl hr6 (one_u32 _) (by simp) (by simp) hsz ?_; intro A' n' c' w' h1 h2 h3 h4)
          go_meet
          have hn' := h1.len
          have hB := HB5.out.grown h3 hsz (fun r e => (o2.lt r e).1)
          exact ⟨_, [5, pnext l], _, by rw [hn']; rfl, by rw [hn'] at h1; exact h1.rd, by simp, by simp, by simp; omega, rfl, HB3.out.trans (hB.mono HB3.out.size), hB⟩
      case rest =>
        obtain ⟨B, pages, d, rfl, hrB, p1, p2, p3, p4, hbel, hbel3⟩ := hcut
        obtain ⟨hgd, hbd⟩ := back_of HG.out pages p1 (fun p hp => (p3 p hp).1) p4
        have cB := bodies_any A1 B (pnum l (pn l)) pages c1 d wc (HR3.out.below hbel3) hrB (by rw [pnum_len]; exact hc1) (pnum_lt l _) (fun p hp => (p3 p hp).2) (by rw [pnum_len]; omega) (by omega)
        rw [pnum_len] at cB
        have HBW := Lib.hid hbel
        clear hbel hbel3 hrB p3 p4
        go_wp2_with fail
        refine cB.mono ?_
        rintro e w5 ⟨hb5, h5⟩
        obtain ⟨_, ov, vs, rfl, ho, hbds⟩ := h5.resolve_right (fun h => by rw [hgd] at h; exact absurd h.1 (by decide))
        have HB5 := Lib.hid (HBW.out.trans (hb5.mono HBW.out.size))
        obtain ⟨A6, c6, rfl, hx⟩ := Bods.at_ ho hbds
        rw [bodies_length] at hx
        obtain ⟨b6, o6, rfl, h9⟩ := hx (by omega)
        have hb0 : (bodies (pnum l (pn l)) pages pages.length)[0]? = some (bodyAt (pnum l (pn l)) pages 0) := by
          rw [bodies, List.getElem?_map, List.getElem?_range (by omega)]; rfl
        rw [hbd] at hb0
        obtain ⟨A7, c7, hcell, hr7⟩ := h9 0 l hb0
        simp only [bodies_length]
        have hcell0 : ∀ D os, (Sort.grow (redrawn w5 D) os).cell? ⟨b6, o6, none⟩ = some (.slice A7 l.length c7) := fun D os => cell_regrown hcell D os
        have cv1 : ∀ D os, (convert 33 9 (.slice A7 l.length c7)).run Try.prog (Sort.grow (redrawn w5 D) os) = .ok (.string ⟨l.toArray⟩) (Sort.grow (redrawn w5 D) os) := fun D os => string_of (P := Try.prog) Try.underlying33 Try.underlying5 Try.underlying9 (hr7.below (below_regrown w5 D os)) c7
        have cv2 : ∀ D os, (convert 33 9 (.slice A l.length c)).run Try.prog (Sort.grow (redrawn w5 D) os) = .ok (.string ⟨l.toArray⟩) (Sort.grow (redrawn w5 D) os) := fun D os => HCV.out _ (HB5.out.trans ((below_regrown w5 D os).mono HB5.out.size))
        have cF := fun D os => Calls.regrown_of (fixed09_any (Sort.grow (redrawn w5 D) os))
        clear h9 hx hb0 hcell hr7 ho hbds h5 hb5 hgd hbd
        have hpl : 0 < pages.length := by omega
        go_wp2_with fail
        refine wp_region_quiet_below (by kernel_rfl) (by kernel_rfl) ?_
        repeat (quiet_step (with_reducible exact cF _ _))
        refine wpQuiet_nil ?_
        intro _ hw'
        obtain ⟨⟨dq, osq⟩, hw''⟩ := hw'
        subst hw''
        go_wp2
        go_ret
        exact ⟨rfl, HB5.out.trans ((below_regrown w5 dq osq).mono HB5.out.size)⟩
    · have HB1 := Lib.hid hb1
      clear hb1 hcv cP
      go_wp2_with fail
      refine cR.mono ?_
      rintro e w2 ⟨hb2, h2⟩
      obtain rfl : e = .returned (.tuple #[.int .u32 0, .slice none 0 0, .int .i64 2]) := by
        rcases h2 with h2 | h2
        · rw [hg] at h2; exact absurd h2.1 (by decide)
        · exact h2.2
      have HB2 := Lib.hid (HB1.out.trans (hb2.mono HB1.out.size))
      clear hb2 h2 cR hv1
      have cS := same_any none none [] 0 0 w2 (Rd.nil _ _) (Rd.nil _ _) (by simp)
      simp only [List.length_nil] at cS
      go_wp2_with fail
      refine cS.mono ?_
      rintro e w3 ⟨rfl, hb3⟩
      have cF := fixed09_any w3
      have HB3 := Lib.hid (HB2.out.trans (hb3.mono HB2.out.size))
      clear hb3
      go_wp2_with fail
      refine cF.mono ?_
      rintro e w' ⟨rfl, hb⟩
      have HF := Lib.hid hb
      clear hb
      go_wp2
      go_ret
      exact ⟨rfl, HB3.out.trans (HF.out.mono HB3.out.size)⟩
  · have cF := fixed09_any w
    go_enter Try.func9, Try.ntmps9
    go_wp2_with fail
    refine cF.mono ?_
    rintro e w' ⟨rfl, hb⟩
    go_wp2
    go_ret
    exact ⟨rfl, hb⟩
end Go.Proofs.Ytpecleflhhbecaa
