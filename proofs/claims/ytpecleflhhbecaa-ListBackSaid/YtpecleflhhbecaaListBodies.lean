/- ListBodies: the walk of the law. -/
import Derived.Test.YtpecleflhhbecaaRefBodies
namespace Go.Proofs.Ytpecleflhhbecaa
open Go.RowKit Lip

theorem bodies_length (numbers pages : List Nat) (k : Nat) : (bodies numbers pages k).length = k := by simp [bodies]

set_option maxHeartbeats 1000000 in
theorem walk4 (A B : Option Addr) (s t : List Nat) (c d : Nat) (w : World) (lc : s.length ≤ c) (hs : ∀ n ∈ s, n < 4294967296) (ht : ∀ n ∈ t, n < 4294967296)
    (hA : Rd w A (s.map u32v)) (hB : Rd w B (t.map u32v)) : Calls Try.prog 4 #[.slice A s.length c, .slice B t.length d] w fun e w' => e = .returned (.bool true) ∧ Below w.heap.size w w' := by
  by_cases hl : s.length ≤ 600 ∧ t.length ≤ 10
  · obtain ⟨hl1, hl2⟩ := hl
    have cB := bodies_any A B s t c d w hA hB lc hs ht (by omega) (by omega)
    clear lc
    go_enter Try.func4, Try.ntmps4
    go_wp2_with fail
    refine cB.mono ?_
    rintro e w1 ⟨hb1, h1⟩
    have cR := refBodies_any A B s t c d w1 (hA.below hb1) (hB.below hb1) hs ht (by omega) (by omega)
    rcases h1 with ⟨hg, ov, vs, rfl, ho, hbd⟩ | ⟨hg, rfl⟩
    · have HB1 := Lib.hid hb1
      have HO := Lib.hid ho
      have HBD := Lib.hid hbd
      obtain ⟨A1, c1, rfl, -⟩ := Bods.at_ ho hbd
      simp only [bodies_length] at HO
      clear hb1 ho hbd
      go_wp2_with fail
      refine cR.mono ?_
      rintro e w2 ⟨hb2, h2⟩
      obtain ⟨_, mv, rfl, hm⟩ : good s t = true ∧ ∃ mv, e = .returned (.tuple #[mv, .int .i64 0]) ∧ Own w2 w1.heap.size 9 mv ((bodies s t t.length).map str) := by
        rcases h2 with h2 | h2
        · exact h2
        · rw [hg] at h2; exact absurd h2.1 (by decide)
      obtain ⟨A2, c2, rfl, -, -, -⟩ := hm.form
      simp only [List.length_map, bodies_length] at hm
      have HM := Lib.hid hm
      have HB2 := Lib.hid hb2
      clear hm hb2 h2 cR cB
      simp only [List.length_map, bodies_length]
      have hk0 : (0 : Nat) ≤ t.length := Nat.zero_le _
      go_wp2
      go_loopw [43] (fun i wr => ∃ k : Nat, k ≤ t.length ∧ i = .int .i64 k ∧ Below w2.heap.size w2 wr) (fun i _ => t.length - (intOf i).toNat)
      case atStart => exact ⟨0, hk0, rfl, Below.refl _ _⟩
      case round =>
        obtain ⟨k, hk, rfl, hbel⟩ := hrel
        have HBL := Lib.hid hbel
        by_cases hlt : k < t.length
        · have hmr : Rd wr A2 ((bodies s t t.length).map str) := HM.out.rd.below hbel
          obtain ⟨b2, o2, rfl, hl2, hc2⟩ := hmr (by rw [List.length_map, bodies_length]; omega)
          obtain ⟨A1', c1', e1, h1⟩ := Bods.at_ (HO.out.below (HB2.out.trans (hbel.mono HB2.out.size))) (HBD.out.below (HB2.out.trans (hbel.mono HB2.out.size)))
          injection e1 with e1 e3 e2
          subst e1; subst e2; clear e3
          obtain ⟨b1, o1, rfl, h9⟩ := h1 (by rw [bodies_length]; omega)
          obtain ⟨A3, c3, hcell1, hr3⟩ := h9 k (bodyAt s t k) (by simp [bodies, hlt])
          have hcell2 : wr.cell? ⟨b2, o2 + k, none⟩ = some (.string ⟨(bodyAt s t k).toArray⟩) := hc2 k _ (by simp [bodies, hlt]; rfl)
          have hcv : ∀ W : World, Below wr.heap.size wr W → (convert 33 9 (.slice A3 (bodyAt s t k).length c3)).run Try.prog W = .ok (.string ⟨(bodyAt s t k).toArray⟩) W := fun W hW => string_of (P := Try.prog) Try.underlying33 Try.underlying5 Try.underlying9 (hr3.below hW) c3
          have hcv1 : ∀ n, (convert 33 9 (.slice A3 (bodyAt s t k).length c3)).run Try.prog (wr.drewN n) = .ok (.string ⟨(bodyAt s t k).toArray⟩) (wr.drewN n) := fun n => hcv _ (drewN_below (Below.refl _ _))
          clear h1 h9 hc2 hbel hmr hr3 hcv
          generalize bodyAt s t k = bd at *
          have HC := Lib.hid hcv1
          clear hcv1
          go_wp2
          have hcv1 := HC.out
          go_quiet (fail)
          go_wp2
          go_roundw
          case rel => exact ⟨k + 1, by omega, by go_num, drewN_below HBL.out⟩
          case measure => simp [intOf]; omega
        · obtain rfl : k = t.length := by omega
          have cF := fixed09_any wr
          clear hbel
          go_wp2_with fail
          refine cF.mono ?_
          rintro e w' ⟨rfl, hb⟩
          have HF := Lib.hid hb
          clear hb
          go_wp2
          go_ret
          have := HB1.out.trans (HB2.out.mono HB1.out.size)
          have := this.trans (HBL.out.mono this.size)
          exact ⟨rfl, this.trans (HF.out.mono this.size)⟩
    · have HB1 := Lib.hid hb1
      clear hb1
      go_wp2_with fail
      refine cR.mono ?_
      rintro e w2 ⟨hb2, h2⟩
      obtain rfl : e = .returned (.tuple #[.slice none 0 0, .int .i64 1]) := by
        rcases h2 with h2 | h2
        · rw [hg] at h2; exact absurd h2.1 (by decide)
        · exact h2.2
      have HB2 := Lib.hid (HB1.out.trans (hb2.mono HB1.out.size))
      clear hb2 h2 cR cB
      have cF := fixed09_any w2
      go_wp2
      refine wp_loop_rounds 1 ?_
      rw [rounds_succ]
      go_wp2_with fail
      refine cF.mono ?_
      rintro e w' ⟨rfl, hb⟩
      have HF := Lib.hid hb
      clear hb
      go_wp2
      go_ret
      exact ⟨rfl, HB2.out.trans (HF.out.mono HB2.out.size)⟩
  · have cF := fixed09_any w
    by_cases h1 : 600 < s.length
    · go_enter Try.func4, Try.ntmps4
      go_wp2_with fail
      refine cF.mono ?_
      rintro e w' ⟨rfl, hb⟩
      go_wp2
      go_ret
      exact ⟨rfl, hb⟩
    · have h2 : 10 < t.length := by omega
      clear hl
      go_enter Try.func4, Try.ntmps4
      go_wp2_with fail
      refine cF.mono ?_
      rintro e w' ⟨rfl, hb⟩
      go_wp2
      go_ret
      exact ⟨rfl, hb⟩
end Go.Proofs.Ytpecleflhhbecaa
