/- freelist.Need and the reference's, the chapter's examples, and the law ListNeeds. -/
import Derived.Test.YtpecleflhhbecaaBodies
namespace Go.Proofs.Ytpecleflhhbecaa
open Go.RowKit Lip

def need (z : Int) : Int := if z < 1 then 0 else (z - 1) / 124 + 1
theorem need_lo {z : Int} (h : z < 1) : need z = 0 := if_pos h
theorem need_hi {z : Int} (h : 1 ≤ z) : need z = (z - 1) / 124 + 1 := if_neg (by omega)

theorem need_any (z : Int) (w : World) (h0 : -9223372036854775808 ≤ z) (h1 : z ≤ 9223372036854775807) : Calls Try.prog 12 #[.int .i64 z] w fun e w' => e = .returned (.int .i64 (need z)) ∧ w = w' := by
  by_cases h : z < 1
  · rw [need_lo h]
    go_enter Try.func12, Try.ntmps12
    go_wp2
    go_ret
    exact ⟨rfl, rfl⟩
  · rw [need_hi (by omega)]
    have h2 : 1 ≤ z := by omega
    clear h
    go_enter Try.func12, Try.ntmps12
    go_wp2
    go_ret
    exact ⟨rfl, rfl⟩

theorem refNeed_any (z : Int) (w : World) (h1 : z ≤ 100000) : Calls Try.prog 13 #[.int .i64 z] w fun e w' => e = .returned (.int .i64 (need z)) ∧ w = w' := by
  by_cases h : z < 1
  · rw [need_lo h]
    have hz : ¬ 0 < z := by omega
    go_enter Try.func13, Try.ntmps13
    go_wp2
    refine wp_loop_rounds 1 ?_
    rw [rounds_succ]
    go_wp2
    go_ret
    exact ⟨rfl, rfl⟩
  · rw [need_hi (by omega)]
    go_enter Try.func13, Try.ntmps13
    go_wp2
    go_loop [3] (fun i => ∃ k : Nat, i = .int .i64 k ∧ 124 * (k : Int) < z + 124) (fun i => z.toNat - (intOf i).toNat)
    case atStart => exact ⟨0, rfl, by omega⟩
    case round =>
      obtain ⟨k, rfl, hk⟩ := hrel
      have hk2 : (k : Int) < 1000000 := by omega
      by_cases hlt : 124 * (k : Int) < z
      · have hlt2 : 123 * (k : Int) < z - k := by omega
        have hlt4 : 0 < z := by omega
        go_wp2
        go_round
        case rel => exact ⟨k + 1, by go_num, by omega⟩
        case measure => simp [intOf]; omega
      · have hlt2 : ¬ 123 * (k : Int) < z - k := by omega
        have hlt4 : 0 < z := by omega
        have HF := Lib.hid (show (k : Int) = (z - 1) / 124 + 1 by omega)
        go_wp2
        go_ret
        exact ⟨by rw [← HF.out]; rfl, rfl⟩

theorem string_of {P : Program} {w : World} {src e dst : TypeId} (hs : P.underlying src = some (.slice e)) (he : P.underlying e = some (.int .u8)) (hd : P.underlying dst = some .string) {A : Option Addr} {l : List UInt8} (h : Rd w A (l.map b8)) (cap : Nat) :
    (convert src dst (.slice A l.length cap)).run P w = .ok (str l) w := by
  rcases l with _ | ⟨x, l⟩
  · rcases A with _ | a
    · exact run_convert_bytes_nil (P := P) w src e hs he _ cap dst hd
    · rw [run_convert_bytes_string w src dst e _ _ cap hs he hd]
      show (Conv.bytesToString (.slice (some a) 0 cap)).run P w = _
      have hl : (loadCells a 0).run P w = .ok (([] : List Int).map (Value.int .u8)).toArray w := run_loadCells_list (P := P) w a [] (fun j v hj => by simp at hj)
      rw [run_bytesToString w a 0 cap [] hl]
      rfl
  · obtain ⟨b, o, rfl, _, hc⟩ := h (by simp)
    have hh := run_convert_bytes_arg (P := P) w src e hs he b o (x :: l).length cap ((x :: l).map fun y => (y.toNat : Int)) (by simp) (fun i hi => by
      have := hc i (.int .u8 (((x :: l)[i].toNat : Nat) : Int)) (by rw [List.getElem?_map, List.getElem?_eq_getElem hi]; rfl)
      rw [this, List.getD, List.getElem?_map, List.getElem?_eq_getElem hi]; rfl) dst hd
    rw [hh]
    have : strOfNums ((x :: l).map fun y => (y.toNat : Int)) = ⟨(x :: l).toArray⟩ := by
      apply ByteArray.ext; apply Array.toList_inj.1
      rw [strOfNums_data, List.map_map]
      have : ((fun n : Int => UInt8.ofNat n.toNat) ∘ fun y : UInt8 => (y.toNat : Int)) = id := by funext y; simp
      rw [this, List.map_id]
    rw [this]; rfl

/-- what the bodies read as, one by one -/
theorem Bods.at_ {w : World} {base : Nat} {ov : Value} {vs : List Value} {L : List (List UInt8)} (ho : Own w base 33 ov vs) (hb : Bods w base vs L) :
    ∃ A c, ov = .slice A L.length c ∧ (0 < L.length → ∃ b o, A = some ⟨b, o, none⟩ ∧ ∀ i l, L[i]? = some l → ∃ A' c', w.cell? ⟨b, o + i, none⟩ = some (.slice A' l.length c') ∧ Rd w A' (l.map b8)) := by
  obtain ⟨A, c, rfl, hr, _⟩ := ho.form
  refine ⟨A, c, by rw [hb.1], fun h0 => ?_⟩
  obtain ⟨b, o, e, _, hc⟩ := hr (by rw [hb.1]; exact h0)
  refine ⟨b, o, e, fun i l hl => ?_⟩
  have hlt : i < vs.length := by rw [hb.1]; exact (List.getElem?_eq_some_iff.1 hl).1
  obtain ⟨l', h1, h2⟩ := hb.2 i _ (List.getElem?_eq_getElem hlt)
  rw [hl] at h1
  obtain rfl := Option.some.inj h1
  obtain ⟨A', c', e2, h3, _⟩ := h2.form
  refine ⟨A', c', ?_, h3⟩
  rw [hc i _ (List.getElem?_eq_getElem hlt), e2, List.length_map]

set_option maxHeartbeats 800000 in
theorem fixed09_any (w : World) : Calls Try.prog 11 #[] w fun e w' => e = .returned (.bool true) ∧ Below w.heap.size w w' := by
  have hb1 : Below w.heap.size w ((w.alloc (.cells #[.int .u32 2, .int .u32 7] 48)).alloc (.cells #[.int .u32 9] 48)) := ((Below.refl _ _).alloc (Nat.le_refl _) _).alloc (by simp) _
  have r1 : Rd ((w.alloc (.cells #[.int .u32 2, .int .u32 7] 48)).alloc (.cells #[.int .u32 9] 48)) (some ⟨w.heap.size, 0, none⟩) (([2, 7] : List Nat).map u32v) :=
    (Rd.fresh w #[.int .u32 2, .int .u32 7] 48 (0, 0)).below ((Below.refl _ _).alloc (Nat.le_refl _) _)
  have r2 : Rd ((w.alloc (.cells #[.int .u32 2, .int .u32 7] 48)).alloc (.cells #[.int .u32 9] 48)) (some ⟨w.heap.size + 1, 0, none⟩) (([9] : List Nat).map u32v) := by
    have := Rd.fresh (w.alloc (.cells #[.int .u32 2, .int .u32 7] 48)) #[.int .u32 9] 48 (0, 0)
    rw [World.size_alloc] at this
    exact this
  have cB := bodies_any _ _ [2, 7] [9] 2 1 _ r1 r2 (by decide) (by decide) (by decide) (by decide) (by decide)
  have HB := Lib.hid hb1
  clear hb1 r1 r2
  go_enter Try.func11, Try.ntmps11
  go_wp2_with fail
  refine cB.mono ?_
  rintro e w2 ⟨hb2, h | ⟨h, _⟩⟩
  · obtain ⟨_, ov, vs, rfl, ho, hbd⟩ := h
    obtain ⟨A, c, rfl, hc⟩ := Bods.at_ ho hbd
    obtain ⟨b, o, rfl, hcc⟩ := hc (by decide)
    obtain ⟨A', c', hcell, hr⟩ := hcc 0 [0, 0, 0, 0, 0, 2, 0, 0, 0, 2, 0, 0, 0, 7] (by decide)
    have hcell : w2.cell? ⟨b, o, none⟩ = some (.slice A' 14 c') := hcell
    have hs : (convert 33 9 (.slice A' 14 c')).run Try.prog w2 = .ok (.string ⟨#[0, 0, 0, 0, 0, 2, 0, 0, 0, 2, 0, 0, 0, 7]⟩) w2 := string_of (P := Try.prog) Try.underlying33 Try.underlying5 Try.underlying9 hr c'
    have n1 := need_any 1 w2 (by decide) (by decide)
    have n2 := need_any 124 w2 (by decide) (by decide)
    have n3 := need_any 125 w2 (by decide) (by decide)
    rw [show need 1 = 1 by decide] at n1
    rw [show need 124 = 1 by decide] at n2
    rw [show need 125 = 2 by decide] at n3
    have HE := Lib.hid (HB.out.trans (hb2.mono HB.out.size))
    clear hb2 ho hbd hc hcc hr cB
    simp only [show (bodies [2, 7] [9] [9].length).length = 1 by decide]
    go_wp2_with fail
    refine n1.mono ?_
    rintro e w' ⟨rfl, rfl⟩
    go_wp2_with fail
    refine n2.mono ?_
    rintro e w' ⟨rfl, rfl⟩
    go_wp2_with fail
    refine n3.mono ?_
    rintro e w' ⟨rfl, rfl⟩
    go_wp2
    go_ret
    exact ⟨rfl, HE.out⟩
  · exact absurd h (by decide)

set_option maxHeartbeats 800000 in
theorem walk3 (z : Int) (w : World) (hz : (Lit.int .i64 z).wf = true) : Calls Try.prog 3 #[.int .i64 z] w fun e w' => e = .returned (.bool true) ∧ Below w.heap.size w w' := by
  have hw : -9223372036854775808 ≤ z ∧ z ≤ 9223372036854775807 := by simpa [Lit.wf, IntKind.min, IntKind.max, IntKind.signed, IntKind.bits] using hz
  have cn : ∀ w', Calls Try.prog 12 #[.int .i64 z] w' fun e w'' => e = .returned (.int .i64 (need z)) ∧ w' = w'' := fun w' => need_any z w' hw.1 hw.2
  clear hw hz
  by_cases hb : 100000 < z
  · have cf := fixed09_any w
    go_enter Try.func3, Try.ntmps3
    go_wp2_with fail
    refine cf.mono ?_
    rintro e w' ⟨rfl, hB⟩
    have HB := Lib.hid hB
    clear hB
    go_wp2
    go_ret
    exact ⟨rfl, HB.out⟩
  · have cr : ∀ w', Calls Try.prog 13 #[.int .i64 z] w' fun e w'' => e = .returned (.int .i64 (need z)) ∧ w' = w'' := fun w' => refNeed_any z w' (by omega)
    have cf := fixed09_any w
    go_enter Try.func3, Try.ntmps3
    go_wp2_with fail
    refine (cn _).mono ?_
    rintro e w' ⟨rfl, rfl⟩
    go_wp2_with fail
    refine cf.mono ?_
    rintro e w' ⟨rfl, hB⟩
    have HB := Lib.hid hB
    clear hB
    go_wp2_with fail
    refine (cr _).mono ?_
    rintro e w'' ⟨rfl, rfl⟩
    by_cases hl : z < 1
    · simp only [need_lo hl]
      go_wp2
      go_ret
      exact ⟨rfl, HB.out⟩
    · have hn : ∃ n : Nat, need z = n ∧ 1 ≤ n ∧ n ≤ 1000 ∧ z ≤ 124 * (n : Int) ∧ 124 * (n : Int) < z + 124 := ⟨((z - 1) / 124 + 1).toNat, by rw [need_hi (by omega)]; omega, by omega, by omega, by omega, by omega⟩
      obtain ⟨n, hn, h1, h2, h3, h4⟩ := hn
      simp only [hn]
      have h5 : ¬ 123 * (n : Int) < z - n := by omega
      have h6 : 123 * ((n : Int) - 1) < z - (n - 1) := by omega
      go_wp2
      go_ret
      exact ⟨rfl, HB.out⟩
end Go.Proofs.Ytpecleflhhbecaa
