/- The chapter's example of pages; PageSeals; PageMoved. -/
import Derived.Test.YtcakicifgbnhcaaDoorPageRef
import Derived.Test.YtcakicifgbnhcaaDoorPageOpen
namespace Go.Proofs.YtcakicifgbnhcaaDoor
open Go.RowKit Pgp
open Crcp (cmore)

theorem moved (number other : Nat) (kind : UInt8) (body : List UInt8) (hn : number < 4294967296) (h : body.length ≤ 500) (hne : ¬ number = other) : fault other (pseal number kind body) = 4 := by
  obtain ⟨e1, e2, e3, e4, e5, e6, e7⟩ := seal_parts number kind body
  have hs := seal_len number kind body h
  have hm := Crcp.more_lt (s := 0) (ptail number kind body) (by decide)
  unfold fault
  rw [if_neg (by rw [hs]; decide), e1, num_four _ hm, e2, if_neg (by simp), ← e2, e3, num_four _ hn, if_pos hne]

theorem fixed06_any (w : World) (hT : Tab w) : Calls Tryd.prog 20 #[] w fun e w' => e = .returned (.bool true) ∧ Below w.heap.size w w' := by
  have hb : Below w.heap.size w (w.alloc (.cells #[.int .u8 9] 5)) := (Below.refl _ _).alloc (Nat.le_refl _) _
  have hr : Rd (w.alloc (.cells #[.int .u8 9] 5)) (some ⟨w.heap.size, 0, none⟩) ⟨[(9 : UInt8)].toArray⟩ := Rd.fresh _ _ _ (by kernel_rfl) _ _
  have cS := seal_any 7 3 (some ⟨w.heap.size, 0, none⟩) [9] 1 _ (by decide) (by decide) hr (hT.below hT.pos hb)
  have HB := Lib.hid hb
  clear hb hr
  go_enter Tryd.func20, Tryd.ntmps20
  go_wp2_with fail
  refine cS.mono ?_
  rintro e w2 ⟨g, rfl, hg, hgl, hb2⟩
  have hs : (convert 22 9 (.slice (some ⟨g, 4, none⟩) 9 508)).run Tryd.prog w2 = .ok (.string ⟨#[0, 0, 0, 7, 3, 0, 1, 0, 9]⟩) w2 :=
    string_of (P := Tryd.prog) Tryd.underlying22 Tryd.underlying5 Tryd.underlying9 (hg.rd 4 9 (by rw [seal_len _ _ _ (by decide)]; decide)) 508
  have HB2 := Lib.hid (bel_call HB.out hb2)
  clear hg hb2 hgl
  go_wp2
  go_ret
  exact ⟨rfl, HB2.out⟩

theorem ba_list (s : ByteArray) : ∃ l : List UInt8, s = ⟨l.toArray⟩ ∧ s.size = l.length := ⟨s.data.toList, by simp, by rw [Array.length_toList]; rfl⟩
section
open Go.ChangeShapes Go.WideShapes Go.ChangeAt
/-- A slice of bytes that came in, as a list. -/
theorem bytes_list {H : Type} {enc : TypeId × Value → H} {W : World} {base : Nat} {v : Value} {d : DataW H} {p : List MemPlace} (hv : Value.okWide Tryd.prog W .any base 22 v) (h : DataW.Trod enc Tryd.prog W 0 (fun _ => true) true 22 v d p) :
    ∃ (A : Option Addr) (c : Nat) (l : List UInt8), v = .slice A l.length c ∧ Rd W A ⟨l.toArray⟩ ∧ l.length ≤ c ∧ c ≤ 9223372036854775807 := by
  obtain ⟨A, c, s, rfl, h1, h2, h3⟩ := bytes_in hv h
  obtain ⟨l, rfl, hl⟩ := ba_list s
  rw [hl] at h2 ⊢
  exact ⟨A, c, l, rfl, h1, h2, h3⟩
end

/-- the string of a row that can be read -/
theorem str_rd {w : World} {A : Option Addr} {l : List UInt8} (h : Rd w A ⟨l.toArray⟩) (c : Nat) : (convert 22 9 (.slice A l.length c)).run Tryd.prog w = .ok (.string ⟨l.toArray⟩) w := by
  have := string_of (P := Tryd.prog) (w := w) Tryd.underlying22 Tryd.underlying5 Tryd.underlying9 h c
  rw [show (⟨l.toArray⟩ : ByteArray).size = l.length by simp [ByteArray.size]] at this
  exact this
/-- a row that the call made, as the walk reads it -/
theorem own_list {w : World} {base : Nat} {v : Value} {l : List UInt8} (h : Own w base v ⟨l.toArray⟩) : ∃ A c, v = .slice A l.length c ∧ Rd w A ⟨l.toArray⟩ ∧ l.length ≤ c := by
  obtain ⟨A, c, rfl, h1, h2, _⟩ := h.form
  have hs : (⟨l.toArray⟩ : ByteArray).size = l.length := by simp [ByteArray.size]
  rw [hs] at *
  exact ⟨A, c, rfl, h1, h2⟩
theorem nil_str (w : World) : (convert 22 9 (.slice none 0 0)).run Tryd.prog w = .ok (.string ⟨#[]⟩) w := str_rd (l := []) (Rd.none_ w none) 0

set_option maxHeartbeats 800000 in
theorem walk7 (number : Nat) (kind : UInt8) (A : Option Addr) (l : List UInt8) (c : Nat) (w : World) (hn : number < 4294967296) (hA : Rd w A ⟨l.toArray⟩) (hT : Tab w) :
    Calls Tryd.prog 7 #[.int .u32 number, .int .u8 kind.toNat, .slice A l.length c] w fun e w' => e = .returned (.bool true) ∧ Below w.heap.size w w' := by
  by_cases h7 : 700 < l.length
  · have F := fixed06_any w hT
    go_enter Tryd.func7, Tryd.ntmps7
    go_wp2_with fail
    refine F.mono ?_
    rintro e w2 ⟨rfl, hb⟩
    go_wp2
    go_ret
    exact ⟨rfl, hb⟩
  · by_cases h5 : 500 < l.length
    · have F := fixed06_any w hT
      have cS := seal_long number kind A l c w h5
      have cR := refSeal_long number kind l w h5
      have hs := str_rd hA c
      have hnil := nil_str w
      go_enter Tryd.func7, Tryd.ntmps7
      go_wp2_with fail
      refine cS.mono ?_
      rintro e w2 ⟨rfl, rfl⟩
      go_wp2_with fail
      refine cR.mono ?_
      rintro e w2 ⟨rfl, rfl⟩
      go_wp2_with fail
      refine F.mono ?_
      rintro e w2 ⟨rfl, hb⟩
      go_wp2
      go_ret
      exact ⟨rfl, hb⟩
    · have h5 : l.length ≤ 500 := by omega
      have cS := seal_any number kind A l c w hn h5 hA hT
      have HO := Lib.hid (open_seal number kind l hn h5)
      have hpl := seal_len number kind l h5
      go_enter Tryd.func7, Tryd.ntmps7
      go_wp2_with fail
      refine cS.mono ?_
      rintro e w2 ⟨g, rfl, hg, hgl, hb2⟩
      have hs := str_rd (hA.below hb2) c
      have cR := refSeal_any number kind l w2 hn h5
      have HG := Lib.hid hg
      have HB2 := Lib.hid hb2
      have HGL := Lib.hid hgl
      clear hg hb2 hgl cS
      go_wp2_with fail
      refine cR.mono ?_
      rintro e w3 ⟨rfl, hb3⟩
      have hg3 := HG.out.below hb3
      have hr3 := hg3.rd 0 512 (by omega)
      rw [List.drop_zero, List.take_of_length_le (by omega)] at hr3
      have hs3 := str_rd hr3 512
      rw [hpl] at hs3
      have HB3 := Lib.hid (bel_call HB2.out hb3)
      have cO := open_any number _ _ 512 w3 hn hr3 (by omega) (by omega) (hT.below hT.pos HB3.out)
      rw [hpl] at cO
      clear hg3 hb3 cR hs hr3
      go_wp2_with fail
      refine cO.mono ?_
      rintro e w4 ⟨hb4, (⟨_, v, rfl, hv⟩ | ⟨hf, _⟩)⟩
      · rw [HO.out.2.1, HO.out.2.2] at *
        obtain ⟨A4, c4, rfl, hr4, _⟩ := own_list hv
        have HB4 := Lib.hid (bel_call HB3.out hb4)
        have F := fixed06_any w4 (hT.below hT.pos HB4.out)
        clear hb4 hv cO hs3
        have HR4 := Lib.hid hr4
        clear hr4
        go_wp2_with fail
        refine F.mono ?_
        rintro e w5 ⟨rfl, hb5⟩
        have hs5 := str_rd (HR4.out.below hb5) c4
        have hs6 := str_rd (hA.below (bel_call HB4.out hb5)) c
        have HB5 := Lib.hid (bel_call HB4.out hb5)
        clear hb5 hA
        go_wp2
        go_ret
        exact ⟨rfl, HB5.out⟩
      · exact absurd HO.out.1 hf

set_option maxHeartbeats 800000 in
theorem walk10 (number other : Nat) (A : Option Addr) (l : List UInt8) (c : Nat) (w : World) (hn : number < 4294967296) (ho : other < 4294967296) (hA : Rd w A ⟨l.toArray⟩) (hT : Tab w) :
    Calls Tryd.prog 10 #[.int .u32 number, .int .u32 other, .slice A l.length c] w fun e w' => e = .returned (.bool true) ∧ Below w.heap.size w w' := by
  by_cases h5 : 500 < l.length
  · have F := fixed06_any w hT
    go_enter Tryd.func10, Tryd.ntmps10
    go_wp2_with fail
    refine F.mono ?_
    rintro e w2 ⟨rfl, hb⟩
    go_wp2
    go_ret
    exact ⟨rfl, hb⟩
  · have h5 : l.length ≤ 500 := by omega
    have cS := seal_any number 3 A l c w hn h5 hA hT
    have HO := Lib.hid (open_seal number 3 l hn h5)
    have HM := Lib.hid (show ¬ number = other → fault other (pseal number 3 l) = 4 from fun hne => moved number other 3 l hn h5 hne)
    have hpl := seal_len number 3 l h5
    go_enter Tryd.func10, Tryd.ntmps10
    go_wp2_with fail
    refine cS.mono ?_
    rintro e w2 ⟨g, rfl, hg, hgl, hb2⟩
    have hr3 := hg.rd 0 512 (by omega)
    rw [List.drop_zero, List.take_of_length_le (by omega)] at hr3
    have HB2 := Lib.hid hb2
    have cO := open_any other _ _ 512 w2 ho hr3 (by omega) (by omega) (hT.below hT.pos hb2)
    rw [hpl] at cO
    clear hg hb2 hgl cS hr3
    go_wp2_with fail
    refine cO.mono ?_
    rintro e w4 ⟨hb4, (⟨hf, v, rfl, hv⟩ | ⟨hf, rfl⟩)⟩
    · have he : number = other := Decidable.byContradiction fun hne => by rw [HM.out hne] at hf; cases hf
      subst he
      obtain ⟨A4, c4, rfl, hr4, _⟩ := own_list hv
      have HB4 := Lib.hid (bel_call HB2.out hb4)
      have F := fixed06_any w4 (hT.below hT.pos HB4.out)
      clear hb4 hv cO hr4
      go_wp2_with fail
      refine F.mono ?_
      rintro e w5 ⟨rfl, hb5⟩
      have HB5 := Lib.hid (bel_call HB4.out hb5)
      clear hb5 hA
      go_wp2
      go_ret
      exact ⟨rfl, HB5.out⟩
    · have hne : ¬ number = other := fun h => hf (by rw [← h]; exact HO.out.1)
      rw [HM.out hne]
      have hq : ((number : Int) == (other : Int)) = false := beq_eq_false_iff_ne.2 (by omega)
      have HB4 := Lib.hid (bel_call HB2.out hb4)
      have F := fixed06_any w4 (hT.below hT.pos HB4.out)
      clear hb4 cO hne hf
      go_wp2_with fail
      refine F.mono ?_
      rintro e w5 ⟨rfl, hb5⟩
      have HB5 := Lib.hid (bel_call HB4.out hb5)
      clear hb5 hA
      go_wp2
      go_ret
      exact ⟨rfl, HB5.out⟩
end Go.Proofs.YtcakicifgbnhcaaDoor
