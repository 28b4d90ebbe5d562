/- ListBack: the walk of the law. -/
import Derived.Test.YtpecleflhhbecaaListParses
namespace Go.Proofs.Ytpecleflhhbecaa
open Go.RowKit Lip

theorem rise_weak {a b : Nat} (h : b ≤ a) {l : List Nat} (hr : rise a l = true) : rise b l = true := by
  cases l with
  | nil => rfl
  | cons x l =>
    simp only [rise, Bool.and_eq_true, decide_eq_true_eq] at hr ⊢
    exact ⟨by omega, hr.2⟩
theorem rise_drop1 : ∀ (n : Nat) (l : List Nat), rise 1 l = true → rise 1 (l.drop n) = true
  | 0, _, h => h
  | _ + 1, [], h => h
  | n + 1, x :: l, h => by
    simp only [rise, Bool.and_eq_true, decide_eq_true_eq] at h
    exact rise_drop1 n l (rise_weak (by omega) h.2)
theorem rise_take' : ∀ (n a : Nat) (l : List Nat), rise a l = true → rise a (l.take n) = true
  | 0, _, _, _ => rfl
  | _ + 1, _, [], h => h
  | n + 1, a, x :: l, h => by
    simp only [rise, Bool.and_eq_true, decide_eq_true_eq, List.take_succ_cons] at h ⊢
    exact ⟨h.1, rise_take' n x l h.2⟩

/-- each body of a list that stands in pages says its numbers and the next page -/
theorem part_back {s t : List Nat} (hg : good s t = true) (hs : ∀ n ∈ s, n < 4294967296) (ht : ∀ n ∈ t, n < 4294967296) (k : Nat) :
    pgood (bodyAt s t k) = true ∧ pnext (bodyAt s t k) = t.getD (k + 1) 0 ∧ pn (bodyAt s t k) = (lpart s k).length ∧ pnum (bodyAt s t k) (lpart s k).length = lpart s k ∧ (bodyAt s t k).length ≤ 600 ∧
      (∀ h : k + 1 < t.length, t.getD (k + 1) 0 = t[k + 1] ∧ 2 ≤ t[k + 1]) := by
  simp only [good, Bool.and_eq_true, decide_eq_true_eq] at hg
  obtain ⟨⟨g1, _⟩, g3⟩ := hg
  have hx : ∀ h : k + 1 < t.length, t.getD (k + 1) 0 = t[k + 1] ∧ 2 ≤ t[k + 1] := fun h => by
    refine ⟨by rw [List.getD, List.getElem?_eq_getElem h]; rfl, ?_⟩
    have := List.all_eq_true.1 g3 t[k + 1] (List.getElem_mem h)
    simpa using this
  have hn : t.getD (k + 1) 0 < 4294967296 ∧ t.getD (k + 1) 0 ≠ 1 := by
    by_cases h : k + 1 < t.length
    · obtain ⟨e, h2⟩ := hx h
      rw [e]; exact ⟨ht _ (List.getElem_mem h), by omega⟩
    · rw [List.getD, List.getElem?_eq_none (by omega)]; simp
  have hl : (lpart s k).length ≤ 123 := by rw [lpart_len]; omega
  have hm : ∀ n ∈ lpart s k, n < 4294967296 := fun n hn => hs n (List.mem_of_mem_drop (List.mem_of_mem_take hn))
  obtain ⟨e1, e2, e3, e4⟩ := parse_body (t.getD (k + 1) 0) (lpart s k) hn.1 hm hl
  exact ⟨pgood_body _ _ hn.1 hm hl hn.2 (rise_take' 123 1 _ (rise_drop1 _ _ g1)), e1, e2, e3, by rw [bodyAt, e4]; omega, hx⟩
theorem take_part (s : List Nat) (k : Nat) : s.take (123 * (k + 1)) = s.take (123 * k) ++ lpart s k := by
  rw [lpart, Nat.mul_succ, List.take_add]

/-- what the bodies read as, one by one; their room -/
theorem Bods.at2 {w : World} {base : Nat} {A : Option Addr} {n c : Nat} {vs : List Value} {L : List (List UInt8)} (ho : Own w base 33 (.slice A n c) vs) (hb : Bods w base vs L) (i : Nat) (l : List UInt8) (hl : L[i]? = some l) :
    ∃ b o A' c', A = some ⟨b, o, none⟩ ∧ w.cell? ⟨b, o + i, none⟩ = some (.slice A' l.length c') ∧ Rd w A' (l.map b8) ∧ l.length ≤ c' := by
  have hi : i < vs.length := by rw [hb.1]; exact (List.getElem?_eq_some_iff.1 hl).1
  obtain ⟨b, o, e, _, hc⟩ := ho.rd (by omega)
  obtain ⟨l', h1, h2⟩ := hb.2 i _ (List.getElem?_eq_getElem hi)
  rw [hl] at h1
  obtain rfl := Option.some.inj h1
  obtain ⟨A', c', e2, h3, h4, _⟩ := h2.form
  refine ⟨b, o, A', c', e, ?_, h3, by rw [List.length_map] at h4; exact h4⟩
  rw [hc i _ (List.getElem?_eq_getElem hi), e2, List.length_map]

set_option maxHeartbeats 1000000 in
theorem walk10 (A B : Option Addr) (s t : List Nat) (c d : Nat) (w : World) (lc : s.length ≤ c) (hs : ∀ n ∈ s, n < 4294967296) (ht : ∀ n ∈ t, n < 4294967296)
    (hA : Rd w A (s.map u32v)) (hB : Rd w B (t.map u32v)) : Calls Try.prog 10 #[.slice A s.length c, .slice B t.length d] w fun e w' => e = .returned (.bool true) ∧ Below w.heap.size w w' := by
  by_cases hl : s.length ≤ 600 ∧ t.length ≤ 10
  · obtain ⟨hl1, hl2⟩ := hl
    have cB := bodies_any A B s t c d w hA hB lc hs ht (by omega) (by omega)
    clear lc
    go_enter Try.func10, Try.ntmps10
    go_wp2_with fail
    refine cB.mono ?_
    rintro e w1 ⟨hb1, h1⟩
    rcases h1 with ⟨hg, ov, vs, rfl, ho, hbd⟩ | ⟨hg, rfl⟩
    · have HB1 := Lib.hid hb1
      have HO := Lib.hid ho
      have HBD := Lib.hid hbd
      obtain ⟨A1, c1, rfl, -⟩ := Bods.at_ ho hbd
      simp only [bodies_length] at HO
      clear hb1 ho hbd cB
      simp only [bodies_length]
      go_wp2
      go_loopw [7, 37] (fun v i wr => ∃ (k : Nat) (al : Value), k ≤ t.length ∧ i = .int .i64 k ∧ al = v ∧ Own wr w1.heap.size 48 al ((s.take (123 * k)).map u32v) ∧ Below w1.heap.size w1 wr) (fun _ i _ => t.length - (intOf i).toNat)
      case atStart => exact ⟨0, _, Nat.zero_le _, rfl, rfl, Own.nil _ _ _, Below.refl _ _⟩
      case round =>
        obtain ⟨k, al, hk, rfl, rfl, hown, hbel⟩ := hrel
        have HOW := Lib.hid hown
        have HBL := Lib.hid hbel
        clear hown
        by_cases hlt : k < t.length
        · obtain ⟨b1, o1, A3, c3, rfl, hcell1, hr3, hc3⟩ := Bods.at2 (HO.out.below hbel) (HBD.out.below hbel) k (bodyAt s t k) (by simp [bodies, hlt])
          obtain ⟨hp1, hp2, hp3, hp4, hp5, hp6⟩ := part_back hg hs ht k
          have cP := parse_any A3 (bodyAt s t k) c3 wr hr3 hc3 (by omega)
          have HT := Lib.hid (take_part s k)
          have HL := Lib.hid (show (s.take (123 * k)).length ≤ 600 by rw [List.length_take]; omega)
          have HL2 := Lib.hid (show (lpart s k).length ≤ 123 by rw [lpart_len]; omega)
          have HPN := Lib.hid hp3
          have HPU := Lib.hid hp4
          have HG := Lib.hid hg
          have HP2 := Lib.hid hp2
          clear hbel hr3 hp3 hp4 hg hp2
          go_wp2_with fail
          refine cP.mono ?_
          rintro e w2 ⟨hb2, h2⟩
          obtain ⟨_, v, rfl, ho2⟩ := h2.resolve_right (fun h => by rw [hp1] at h; exact absurd h.1 (by decide))
          rw [HP2.out, HPN.out] at *
          rw [HPU.out] at ho2
          obtain ⟨A4, c4, rfl, hr4, -, -⟩ := ho2.form
          have HB2 := Lib.hid hb2
          have HO2 := Lib.hid ho2
          have hoW := HOW.out.below hb2
          have hsz := (HBL.out.trans (hb2.mono HBL.out.size)).size
          have h63 : ((s.take (123 * k)).map u32v).length + ((lpart s k).map u32v).length ≤ 1000 := by
            rw [List.length_map, List.length_map]
            have := HL.out; have := HL2.out; omega
          clear hb2 ho2 h2 hp1
          by_cases hk1 : k + 1 < t.length
          · obtain ⟨e7, h7⟩ := hp6 hk1
            have hbb := ((hB.below HB1.out).below HBL.out).below HB2.out
            obtain ⟨bb, ob, rfl, -, hcb⟩ := hbb (by rw [List.length_map]; omega)
            have hck : w2.cell? ⟨bb, ob + (k + 1), none⟩ = some (.int .u32 ((t[k + 1] : Nat) : Int)) := hcb (k + 1) (.int .u32 ((t[k + 1] : Nat) : Int)) (by rw [List.getElem?_map, List.getElem?_eq_getElem hk1]; rfl)
            rw [e7]
            clear hcb hp6 e7
            generalize t[k + 1] = x at *
            have hd1 : decide ((k : Int) + 1 < (t.length : Int)) = true := decide_eq_true (by omega)
            have hx1 : ((x : Int) != 0) = true := bne_iff_ne.2 (by omega)
            go_wp2_with (at_builtin; refine wpList_app el25 (by simp [Region.wanted, go_sem]) (.tmp 78) (.tmp 79) rfl w1.heap.size al ((s.take (123 * k)).map u32v) rfl hoW A4 _ c4 ((lpart s k).map u32v) rfl (by rw [List.length_map]) hr4 (one_u32 _) (by omega) (by omega) hsz ?_; intro A' n' c' w' h1 h2 h3 h4)
            go_roundw
            case rel => exact ⟨k + 1, _, by omega, by go_num, rfl, by rw [HT.out, List.map_append]; exact h1, (HBL.out.trans (HB2.out.mono HBL.out.size)).grown h3 hsz (fun r e => (hoW.lt r e).1)⟩
            case measure => simp [intOf]; omega
          · have e7 : t.getD (k + 1) 0 = 0 := by rw [List.getD, List.getElem?_eq_none (by omega)]; rfl
            rw [e7]
            clear hp6 e7
            have hd1 : decide ((k : Int) + 1 < (t.length : Int)) = false := decide_eq_false (by omega)
            go_wp2_with (at_builtin; refine wpList_app el25 (by simp [Region.wanted, go_sem]) (.tmp 78) (.tmp 79) rfl w1.heap.size al ((s.take (123 * k)).map u32v) rfl hoW A4 _ c4 ((lpart s k).map u32v) rfl (by rw [List.length_map]) hr4 (one_u32 _) (by omega) (by omega) hsz ?_; intro A' n' c' w' h1 h2 h3 h4)
            go_roundw
            case rel => exact ⟨k + 1, _, by omega, by go_num, rfl, by rw [HT.out, List.map_append]; exact h1, (HBL.out.trans (HB2.out.mono HBL.out.size)).grown h3 hsz (fun r e => (hoW.lt r e).1)⟩
            case measure => simp [intOf]; omega
        · obtain rfl : k = t.length := by omega
          have hall : s.take (123 * t.length) = s := by
            simp only [good, Bool.and_eq_true, decide_eq_true_eq] at hg
            exact List.take_of_length_le hg.1.2
          rw [hall] at HOW
          obtain ⟨A4, c4, rfl, hr4, -, -⟩ := HOW.out.form
          have cF := fixed09_any wr
          simp only [List.length_map]
          have HR4 := Lib.hid hr4
          have HBL2 := Lib.hid hbel
          clear hbel hr4 hg hall
          go_wp2_with fail
          refine cF.mono ?_
          rintro e w2 ⟨rfl, hb2⟩
          have hall2 := HB1.out.trans (HBL2.out.mono HB1.out.size)
          have hall3 := hall2.trans (hb2.mono hall2.size)
          have cS := same_any A4 A s c4 c w2 (HR4.out.below hb2) (hA.below hall3) (by omega)
          have HB3 := Lib.hid hall3
          clear hb2 hall2 hall3
          go_wp2_with fail
          refine cS.mono ?_
          rintro e w3 ⟨rfl, hb3⟩
          have HB4 := Lib.hid (HB3.out.trans (hb3.mono HB3.out.size))
          clear hb3
          go_wp2
          go_ret
          exact ⟨rfl, HB4.out⟩
    · have HB1 := Lib.hid hb1
      clear hb1
      have cF := fixed09_any w1
      go_wp2_with fail
      refine cF.mono ?_
      rintro e w2 ⟨rfl, hb2⟩
      have HB2 := Lib.hid (HB1.out.trans (hb2.mono HB1.out.size))
      clear hb2
      go_wp2
      go_ret
      exact ⟨rfl, HB2.out⟩
  · have cF := fixed09_any w
    by_cases h1 : 600 < s.length
    · go_enter Try.func10, Try.ntmps10
      go_wp2_with fail
      refine cF.mono ?_
      rintro e w' ⟨rfl, hb⟩
      go_wp2
      go_ret
      exact ⟨rfl, hb⟩
    · have h2 : 10 < t.length := by omega
      clear hl
      go_enter Try.func10, Try.ntmps10
      go_wp2_with fail
      refine cF.mono ?_
      rintro e w' ⟨rfl, hb⟩
      go_wp2
      go_ret
      exact ⟨rfl, hb⟩
end Go.Proofs.Ytpecleflhhbecaa
