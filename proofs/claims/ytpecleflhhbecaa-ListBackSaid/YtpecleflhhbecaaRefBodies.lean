/- The reference's bodies: Four, Two, Rises, Bodies. -/
import Derived.Test.YtpecleflhhbecaaNeeds
import Derived.BigQuiet
import Derived.OwnWalk
import Derived.Deep.Cut
import Derived.Deep.CutRange
namespace Go.Proofs.Ytpecleflhhbecaa
open Go.RowKit Lip

theorem cat (l m : List UInt8) : (⟨l.toArray⟩ : ByteArray) ++ ⟨m.toArray⟩ = ⟨(l ++ m).toArray⟩ := by
  apply ByteArray.ext; simp

theorem four_lit (n : Nat) (hn : n < 4294967296) (w : World) : Calls Try.prog 39 #[.int .u32 n] w fun e w' => e = .returned (.string ⟨(four n).toArray⟩) ∧ Below w.heap.size w w' := by
  have hr : Rd (w.alloc (.cells #[Value.int .u8 ((n : Int) / 16777216), .int .u8 ((n : Int) / 65536 % 256), .int .u8 ((n : Int) / 256 % 256), .int .u8 ((n : Int) % 256)] 5)) (some ⟨w.heap.size, 0, none⟩) ((four n).map b8) := by
    rw [← four_cells n hn]; exact Rd.fresh _ _ _ _
  have hs : (convert 33 9 (.slice (some ⟨w.heap.size, 0, none⟩) 4 4)).run Try.prog (w.alloc (.cells #[Value.int .u8 ((n : Int) / 16777216), .int .u8 ((n : Int) / 65536 % 256), .int .u8 ((n : Int) / 256 % 256), .int .u8 ((n : Int) % 256)] 5)) = .ok (.string ⟨(four n).toArray⟩) (w.alloc (.cells #[Value.int .u8 ((n : Int) / 16777216), .int .u8 ((n : Int) / 65536 % 256), .int .u8 ((n : Int) / 256 % 256), .int .u8 ((n : Int) % 256)] 5)) := string_of (P := Try.prog) Try.underlying33 Try.underlying5 Try.underlying9 hr 4
  have HB := Lib.hid (show Below w.heap.size w (w.alloc (.cells #[Value.int .u8 ((n : Int) / 16777216), .int .u8 ((n : Int) / 65536 % 256), .int .u8 ((n : Int) / 256 % 256), .int .u8 ((n : Int) % 256)] 5)) from (Below.refl _ _).alloc (Nat.le_refl _) _)
  clear hr
  go_enter Try.func39, Try.ntmps39
  go_wp2
  go_ret
  exact ⟨rfl, HB.out⟩

theorem two_lit (n : Nat) (hn : n < 65536) (w : World) : Calls Try.prog 40 #[.int .i64 n] w fun e w' => e = .returned (.string ⟨(two n).toArray⟩) ∧ Below w.heap.size w w' := by
  have hr : Rd (w.alloc (.cells #[Value.int .u8 ((n : Int) / 256 % 256), .int .u8 ((n : Int) % 256)] 5)) (some ⟨w.heap.size, 0, none⟩) ((two n).map b8) := by
    have : (#[Value.int .u8 ((n : Int) / 256 % 256), .int .u8 ((n : Int) % 256)] : Array Value).toList = (two n).map b8 := by
      simp [two, b8]
    rw [← this]; exact Rd.fresh _ _ _ _
  have hs : (convert 33 9 (.slice (some ⟨w.heap.size, 0, none⟩) 2 2)).run Try.prog (w.alloc (.cells #[Value.int .u8 ((n : Int) / 256 % 256), .int .u8 ((n : Int) % 256)] 5)) = .ok (.string ⟨(two n).toArray⟩) (w.alloc (.cells #[Value.int .u8 ((n : Int) / 256 % 256), .int .u8 ((n : Int) % 256)] 5)) := string_of (P := Try.prog) Try.underlying33 Try.underlying5 Try.underlying9 hr 2
  have HB := Lib.hid (show Below w.heap.size w (w.alloc (.cells #[Value.int .u8 ((n : Int) / 256 % 256), .int .u8 ((n : Int) % 256)] 5)) from (Below.refl _ _).alloc (Nat.le_refl _) _)
  clear hr
  go_enter Try.func40, Try.ntmps40
  go_wp2
  go_ret
  exact ⟨rfl, HB.out⟩

theorem drewN_below {B : Nat} {a w : World} (h : Below B a w) {n : Nat} : Below B a (w.drewN n) := ⟨h.os, h.tape, h.output, h.size, h.block⟩
/-- Rises, the reference's -/
theorem refRises_any (A : Option Addr) (l : List Nat) (c : Nat) (w : World) (hA : Rd w A (l.map u32v)) (hb : ∀ x ∈ l, x < 4294967296) (hl : l.length ≤ 9223372036854775807) :
    Calls Try.prog 38 #[.slice A l.length c] w fun e w' => e = .returned (.bool (rise 1 l)) ∧ Below w.heap.size w w' := by
  go_enter Try.func38, Try.ntmps38
  go_wp2
  go_loopw [3] (fun i wr => ∃ k : Nat, k ≤ l.length ∧ i = .int .i64 k ∧ rise 1 l = rise (if k = 0 then 1 else l.getD (k - 1) 0) (l.drop k) ∧ (k = 0 ∨ 2 ≤ l.getD (k - 1) 0) ∧ Below w.heap.size w wr ∧ Rd wr A (l.map u32v)) (fun i _ => l.length - (intOf i).toNat)
  case atStart => exact ⟨0, Nat.zero_le _, rfl, rfl, .inl rfl, Below.refl _ _, hA⟩
  case round =>
    obtain ⟨k, hk, rfl, hrise, hge, hbel, hrd⟩ := hrel
    have HG := Lib.hid hge
    have HR := Lib.hid hrise
    have HB := Lib.hid hbel
    have HRD := Lib.hid hrd
    clear hrise hbel hA hge
    by_cases hlt : k < l.length
    · obtain ⟨b, o, rfl, _, hc⟩ := hrd (by rw [List.length_map]; omega)
      have hx := hb l[k] (List.getElem_mem hlt)
      have hck : wr.cell? ⟨b, o + k, none⟩ = some (.int .u32 ((l[k] : Nat) : Int)) := hc k (.int .u32 ((l[k] : Nat) : Int)) (by rw [List.getElem?_map, List.getElem?_eq_getElem hlt]; rfl)
      have HD := Lib.hid (show ∀ last, rise last (l.drop k) = (decide (last < l[k]) && rise l[k] (l.drop (k + 1))) from fun last => by rw [List.drop_eq_getElem_cons hlt]; rfl)
      have HN := Lib.hid (show l.getD (k + 1 - 1) 0 = l[k] by rw [Nat.add_sub_cancel, List.getD, List.getElem?_eq_getElem hlt]; rfl)
      rcases k with _ | k
      · have HZ := Lib.hid (show rise 1 l = (decide (1 < l[0]) && rise l[0] (l.drop (0 + 1))) by rw [HR.out, if_pos rfl, HD.out])
        have hck0 : wr.cell? ⟨b, o, none⟩ = some (.int .u32 ((l[0] : Nat) : Int)) := hck
        clear HR HD hck hc hrd
        generalize l[0] = x at *
        by_cases h2 : x < 2
        · have hd : decide ((x : Int) < 2) = true := decide_eq_true (by omega)
          have HF := Lib.hid (show rise 1 l = false by rw [HZ.out, decide_eq_false (by omega), Bool.false_and])
          go_wp2
          go_quiet (fail)
          go_wp2
          go_ret
          exact ⟨by rw [HF.out]; rfl, drewN_below HB.out⟩
        · have hd : decide ((x : Int) < 2) = false := decide_eq_false (by omega)
          have HF := Lib.hid (show rise 1 l = rise x (l.drop (0 + 1)) by rw [HZ.out, decide_eq_true (by omega), Bool.true_and])
          go_wp2
          go_quiet (fail)
          go_wp2
          go_roundw
          case rel => exact ⟨0 + 1, by omega, by go_num, by rw [if_neg (by omega), HN.out]; exact HF.out, .inr (by rw [HN.out]; omega), drewN_below HB.out, HRD.out.below (drewN_below (Below.refl _ _))⟩
          case measure => simp [intOf]; omega
      · have hcp : wr.cell? ⟨b, o + k, none⟩ = some (.int .u32 ((l[k] : Nat) : Int)) := hc k (.int .u32 ((l[k] : Nat) : Int)) (by rw [List.getElem?_map, List.getElem?_eq_getElem (by omega)]; rfl)
        have HP := Lib.hid (show l.getD (k + 1 - 1) 0 = l[k] by rw [Nat.add_sub_cancel, List.getD, List.getElem?_eq_getElem (by omega)]; rfl)
        have HZ := Lib.hid (show rise 1 l = (decide (l[k] < l[k + 1]) && rise l[k + 1] (l.drop (k + 1 + 1))) by rw [HR.out, if_neg (by omega), HP.out, HD.out])
        clear hc hrd HR HD
        have HY := Lib.hid (show 2 ≤ l[k] by rcases HG.out with h | h; · exact absurd h (by omega)
                                             · rw [HP.out] at h; exact h)
        clear HP HG
        generalize l[k + 1] = x at *
        generalize l[k] = y at *
        by_cases h2 : x < 2
        · have hd : decide ((x : Int) < 2) = true := decide_eq_true (by omega)
          have HF := Lib.hid (show rise 1 l = false by have := HY.out; rw [HZ.out, decide_eq_false (by omega), Bool.false_and])
          go_wp2
          go_quiet (fail)
          go_wp2
          go_ret
          exact ⟨by rw [HF.out]; rfl, drewN_below HB.out⟩
        · have hd : decide ((x : Int) < 2) = false := decide_eq_false (by omega)
          by_cases h3 : x ≤ y
          · have HF := Lib.hid (show rise 1 l = false by rw [HZ.out, decide_eq_false (by omega), Bool.false_and])
            go_wp2
            go_quiet (fail)
            go_wp2
            go_ret
            exact ⟨by rw [HF.out]; rfl, drewN_below HB.out⟩
          · have HF := Lib.hid (show rise 1 l = rise x (l.drop (k + 1 + 1)) by rw [HZ.out, decide_eq_true (by omega), Bool.true_and])
            go_wp2
            go_quiet (fail)
            go_wp2
            go_roundw
            case rel => exact ⟨k + 1 + 1, by omega, by go_num, by rw [if_neg (by omega), HN.out]; exact HF.out, .inr (by rw [HN.out]; omega), drewN_below HB.out, HRD.out.below (drewN_below (Below.refl _ _))⟩
            case measure => simp [intOf]; omega
    · have HF := Lib.hid (show rise 1 l = true by rw [HR.out, List.drop_eq_nil_of_le (by omega)]; rfl)
      go_wp2
      go_ret
      exact ⟨by rw [HF.out]; rfl, HB.out⟩

/-- What the reference's Bodies leaves. -/
def RefPost (w : World) (numbers pages : List Nat) (e : Ending) (w' : World) : Prop :=
  Below w.heap.size w w' ∧ ((good numbers pages = true ∧ ∃ ov, e = .returned (.tuple #[ov, .int .i64 0]) ∧ Own w' w.heap.size 9 ov ((bodies numbers pages pages.length).map str)) ∨
    (good numbers pages = false ∧ e = .returned (.tuple #[.slice none 0 0, .int .i64 1])))

theorem lpart_len (numbers : List Nat) (k : Nat) : (lpart numbers k).length = min 123 (numbers.length - 123 * k) := by simp [lpart]
theorem lpart_at (numbers : List Nat) (k j : Nat) (h : j < (lpart numbers k).length) : ∃ h' : 123 * k + j < numbers.length, (lpart numbers k)[j] = numbers[123 * k + j] := by
  have h1 := lpart_len numbers k
  refine ⟨by omega, ?_⟩
  simp [lpart]
theorem flat4 (l : List Nat) : (l.flatMap four).length = 4 * l.length := by
  induction l with
  | nil => rfl
  | cons x l ih => simp [four, ih]; omega
theorem body_len (next : Nat) (l : List Nat) : (body next l).length = 6 + 4 * l.length := by
  rw [body, List.length_append, List.length_append, flat4]
  simp [four, two]

set_option maxHeartbeats 1000000 in
theorem refBodies_any (A B : Option Addr) (numbers pages : List Nat) (c d : Nat) (w : World) (hA : Rd w A (numbers.map u32v)) (hB : Rd w B (pages.map u32v))
    (hn : ∀ x ∈ numbers, x < 4294967296) (hp : ∀ x ∈ pages, x < 4294967296) (hln : numbers.length ≤ 1000000) (hlp : pages.length ≤ 1000) :
    Calls Try.prog 15 #[.slice A numbers.length c, .slice B pages.length d] w (RefPost w numbers pages) := by
  have cR := refRises_any A numbers c w hA hn (by omega)
  by_cases hr : rise 1 numbers = true ∧ numbers.length ≤ 123 * pages.length
  · obtain ⟨hr1, hr2⟩ := hr
    rw [hr1] at cR
    have HR := Lib.hid hr1
    clear hr1
    go_enter Try.func15, Try.ntmps15
    go_wp2_with fail
    refine cR.mono ?_
    rintro e w0 ⟨rfl, hb0⟩
    have hB0 := hB.below hb0
    have HB0 := Lib.hid hb0
    clear hb0
    go_wp2
    go_loopw [6] (fun i wr => ∃ k : Nat, k ≤ pages.length ∧ i = .int .i64 k ∧ w0 = wr ∧ ∀ j, j < k → 2 ≤ pages.getD j 0) (fun i _ => pages.length - (intOf i).toNat)
    case atStart => exact ⟨0, Nat.zero_le _, rfl, by simp, fun j hj => by omega⟩
    case round =>
      obtain ⟨k, hk, rfl, rfl, hall⟩ := hrel
      have HA := Lib.hid hall
      clear hall
      by_cases hlt : k < pages.length
      · obtain ⟨bb, ob, rfl, hbl, hcb⟩ := hB0 (by rw [List.length_map]; omega)
        have hx := hp pages[k] (List.getElem_mem hlt)
        have hck : w0.cell? ⟨bb, ob + k, none⟩ = some (.int .u32 ((pages[k] : Nat) : Int)) :=
          hcb k (.int .u32 ((pages[k] : Nat) : Int)) (by rw [List.getElem?_map, List.getElem?_eq_getElem hlt]; rfl)
        have HG := Lib.hid (show pages.getD k 0 = pages[k] by rw [List.getD, List.getElem?_eq_getElem hlt]; rfl)
        have HM := Lib.hid (show pages[k] ∈ pages from List.getElem_mem hlt)
        clear hcb
        generalize pages[k] = x at *
        by_cases h2 : x < 2
        · have HN := Lib.hid (show good numbers pages = false by
            have : (pages.all fun p => decide (2 ≤ p)) = false := by
              rw [List.all_eq_false]
              exact ⟨x, HM.out, by simp; omega⟩
            simp [good, this])
          go_wp2
          go_ret2
          exact ⟨HB0.out, .inr ⟨HN.out, rfl⟩⟩
        · go_wp2
          go_roundw
          case rel => exact ⟨k + 1, by omega, by go_num, by simp, fun j hj => by
            by_cases e : j = k
            · rw [e, HG.out]; omega
            · exact HA.out j (by omega)⟩
          case measure => simp [intOf]; omega
      · have HN := Lib.hid (show good numbers pages = true by
          have : (pages.all fun p => decide (2 ≤ p)) = true := by
            rw [List.all_eq_true]
            intro x hx
            obtain ⟨j, hj, rfl⟩ := List.mem_iff_getElem.1 hx
            have := HA.out j (by omega)
            rw [List.getD, List.getElem?_eq_getElem hj] at this
            simpa using this
          simp only [good, HR.out, this, decide_eq_true hr2, Bool.and_self])
        clear HA
        go_wp2
        have hs0 := HB0.out.size
        go_loopw [7, 8, 9] (fun o a i wr => ∃ (k q : Nat) (ov : Value), k ≤ pages.length ∧ i = .int .i64 k ∧ a = .int .i64 q ∧ q = min (123 * k) numbers.length ∧ ov = o ∧ Own wr w.heap.size 9 ov ((bodies numbers pages k).map str) ∧ Below w.heap.size w wr) (fun _ _ i _ => pages.length - (intOf i).toNat)
        case atStart => exact ⟨0, 0, _, Nat.zero_le _, rfl, rfl, by omega, rfl, (Own.lit w0 w0.heap.size 9 #[] (Nat.le_refl _) (by simp)).mono hs0, HB0.out.alloc hs0 _⟩
        case round =>
          obtain ⟨k, q, ov, hk, rfl, rfl, hq, rfl, hown, hbel⟩ := hrel
          have HOV := Lib.hid hown
          have HBL := Lib.hid hbel
          have HQ := Lib.hid hq
          have hqn : q ≤ numbers.length := by omega
          clear hown hbel hq
          by_cases hlt : k < pages.length
          · go_upto_if 46 with (fail)
            go_cut [10] from 36 to 83 (fun s wx => s = .string ⟨(four (pages.getD (k + 1) 0)).toArray⟩ ∧ Below w.heap.size w wx ∧ Own wx w.heap.size 9 ov ((bodies numbers pages k).map str))
            case first =>
              by_cases hn1 : k + 1 < pages.length
              · obtain ⟨bb, ob, rfl, hbl, hcb⟩ := (hB.below HBL.out) (by rw [List.length_map]; omega)
                have hx := hp pages[k + 1] (List.getElem_mem hn1)
                have hck : wr.cell? ⟨bb, ob + (k + 1), none⟩ = some (.int .u32 ((pages[k + 1] : Nat) : Int)) :=
                  hcb (k + 1) (.int .u32 ((pages[k + 1] : Nat) : Int)) (by rw [List.getElem?_map, List.getElem?_eq_getElem hn1]; rfl)
                have HG := Lib.hid (show pages.getD (k + 1) 0 = pages[k + 1] by rw [List.getD, List.getElem?_eq_getElem hn1]; rfl)
                clear hcb
                generalize pages[k + 1] = x at *
                have c4 := four_lit x hx wr
                have hn2 : (k : Int) + 1 < (pages.length : Int) := by omega
                go_wp2_with fail
                refine c4.mono ?_
                rintro e w4 ⟨rfl, hb4⟩
                have HB4 := Lib.hid hb4
                clear hb4
                go_wp2
                go_meet
                exact ⟨by rw [HG.out], HBL.out.trans (HB4.out.mono HBL.out.size), HOV.out.below HB4.out⟩
              · have HG := Lib.hid (show pages.getD (k + 1) 0 = 0 by rw [List.getD, List.getElem?_eq_none (by omega)]; rfl)
                have hn2 : ¬ (k : Int) + 1 < (pages.length : Int) := by omega
                go_wp2
                go_meet
                exact ⟨by rw [HG.out]; rfl, HBL.out, HOV.out⟩
            case rest =>
              obtain ⟨rfl, hbel, hown⟩ := hcut
              have HOV := Lib.hid hown
              have HBL := Lib.hid hbel
              clear hown hbel
              have hm : ∃ m, m = (lpart numbers k).length := ⟨_, rfl⟩
              obtain ⟨m, hm⟩ := hm
              have hm' : m = min 123 (numbers.length - q) := by rw [hm, lpart_len]; have := HQ.out; omega
              have HM := Lib.hid hm
              clear hm
              go_upto_if 58 with (fail)
              go_cut [11] from 36 to 83 (fun s wx => s = .int .i64 m ∧ wc = wx)
              case first =>
                by_cases h123 : 123 < numbers.length - q
                · have h1 : (123 : Int) < (numbers.length : Int) - q := by omega
                  obtain rfl : m = 123 := by omega
                  clear hm'
                  go_wp2
                  go_meet
                  exact ⟨rfl, rfl⟩
                · have h1 : ¬ (123 : Int) < (numbers.length : Int) - q := by omega
                  have hm2 : (m : Int) = (numbers.length : Int) - q := by omega
                  have HM2 := Lib.hid hm2
                  clear hm' hm2
                  go_wp2
                  go_meet
                  exact ⟨by rw [HM2.out], rfl⟩
              case rest =>
                obtain ⟨rfl, rfl⟩ := hcut
                have hm9 : m ≤ 123 := by omega
                clear hm'
                have c2 := two_lit m (by omega) wc
                go_wp2_with fail
                refine c2.mono ?_
                rintro e w2 ⟨rfl, hb2⟩
                have HBL2 := Lib.hid (HBL.out.trans (hb2.mono HBL.out.size))
                have HOV2 := Lib.hid (HOV.out.below hb2)
                clear hb2
                go_wp2
                go_loopw [10, 12] (fun s i wr => ∃ (j : Nat) (l : List UInt8), j ≤ m ∧ i = .int .i64 j ∧ s = .string ⟨l.toArray⟩ ∧ l = four (pages.getD (k + 1) 0) ++ two m ++ ((lpart numbers k).take j).flatMap four ∧ Below w.heap.size w wr ∧ Own wr w.heap.size 9 ov ((bodies numbers pages k).map str)) (fun _ i _ => m - (intOf i).toNat)
                case atStart => exact ⟨0, _, by omega, rfl, congrArg Value.string (cat _ _), by simp, HBL2.out, HOV2.out⟩
                case round =>
                  obtain ⟨j, l, hj, rfl, rfl, hl, hbel, hown⟩ := hrel
                  have hll : l.length ≤ 1000 := by
                    rw [hl, List.length_append, List.length_append, flat4, List.length_take]
                    simp [four, two]; omega
                  have HL := Lib.hid hl
                  have HOV := Lib.hid hown
                  have HBL := Lib.hid hbel
                  clear hown hbel hl
                  by_cases hjm : j < m
                  · obtain ⟨hq', hy⟩ := lpart_at numbers k j (by rw [← HM.out]; exact hjm)
                    have hqk : q = 123 * k := by have := HQ.out; omega
                    have hqj : q + j < numbers.length := by omega
                    obtain ⟨bx, ox, rfl, hbl, hcx⟩ := (hA.below HBL.out) (by rw [List.length_map]; omega)
                    have hyl := hn numbers[q + j] (List.getElem_mem hqj)
                    have hck2 : wr.cell? ⟨bx, ox + (q + j), none⟩ = some (.int .u32 ((numbers[q + j] : Nat) : Int)) :=
                      hcx (q + j) (.int .u32 ((numbers[q + j] : Nat) : Int)) (by rw [List.getElem?_map, List.getElem?_eq_getElem hqj]; rfl)
                    have HT := Lib.hid (show ((lpart numbers k).take (j + 1)).flatMap four = ((lpart numbers k).take j).flatMap four ++ four numbers[q + j] by
                      rw [List.take_succ_eq_append_getElem (by rw [← HM.out]; exact hjm), List.flatMap_append, hy]; simp [hqk])
                    clear hcx hy hqk hq'
                    generalize numbers[q + j] = y at *
                    have c4 := four_lit y hyl wr
                    have hfl : (four y).length = 4 := rfl
                    go_wp2_with fail
                    refine c4.mono ?_
                    rintro e w4 ⟨rfl, hb4⟩
                    have HB4 := Lib.hid hb4
                    clear hb4
                    go_wp2
                    go_roundw
                    case rel => exact ⟨j + 1, _, by omega, by go_num, congrArg Value.string (cat _ _), by rw [HL.out, HT.out, ← List.append_assoc], HBL.out.trans (HB4.out.mono HBL.out.size), HOV.out.below HB4.out⟩
                    case measure => simp [intOf]; omega
                  · obtain rfl : j = m := by omega
                    have HS := Lib.hid (show l = bodyAt numbers pages k by rw [HL.out, HM.out, List.take_length]; rfl)
                    have hvl : (bodies numbers pages k).length ≤ 1000 := by simp [bodies]; omega
                    have HOV2 := HOV.out.alloc (.cells #[.string ⟨l.toArray⟩] 9)
                    have hr6 : Rd (wr.alloc (.cells #[.string ⟨l.toArray⟩] 9)) (some ⟨wr.heap.size, 0, none⟩) ([l].map str) := Rd.fresh _ _ _ _
                    have HBA := Lib.hid (show Below w.heap.size w (wr.alloc (.cells #[.string ⟨l.toArray⟩] 9)) from HBL.out.alloc HBL.out.size _)
                    have hsz := HBL.out.size
                    go_wp2_with (at_builtin; refine wpList_app el30 (by simp [Region.wanted, go_sem]) (.tmp 80) (.tmp 82) rfl w.heap.size ov ((bodies numbers pages k).map str) rfl HOV2 (some ⟨wr.heap.size, 0, none⟩) 1 1 ([l].map str) rfl rfl hr6 (one_str _) (by simp; omega) (by simp; omega) (by simp; omega) ?_; intro A' n' c' w' h1 h2 h3 h4)
                    go_roundw
                    case rel => exact ⟨k + 1, q + j, _, by omega, by go_num, by go_num, by have := HQ.out; have := HM.out; rw [lpart_len] at this; omega, rfl, by rw [bodies_succ, ← HS.out, List.map_append]; exact h1, HBA.out.grown h3 HBA.out.size (fun r e => (HOV2.lt r e).1)⟩
                    case measure => simp [intOf]; omega
          · obtain rfl : k = pages.length := by omega
            go_wp2
            go_ret2
            exact ⟨HBL.out, .inl ⟨HN.out, _, rfl, HOV.out⟩⟩
  · have hgd : good numbers pages = false := by
      simp only [good, Bool.and_eq_false_iff]
      rcases Classical.not_and_iff_not_or_not.1 hr with h | h
      · exact .inl (.inl (by simpa using h))
      · exact .inl (.inr (by simpa using h))
    have HG := Lib.hid hgd
    clear hgd
    by_cases hr1 : rise 1 numbers = true
    · have hr2 : 123 * pages.length < numbers.length := by
        rcases Nat.lt_or_ge (123 * pages.length) numbers.length with h | h
        · exact h
        · exact absurd ⟨hr1, h⟩ hr
      rw [hr1] at cR
      clear hr hr1
      go_enter Try.func15, Try.ntmps15
      go_wp2_with fail
      refine cR.mono ?_
      rintro e w0 ⟨rfl, hb0⟩
      have HB0 := Lib.hid hb0
      clear hb0
      go_wp2
      go_ret2
      exact ⟨HB0.out, .inr ⟨HG.out, rfl⟩⟩
    · have hr1 : rise 1 numbers = false := by simpa using hr1
      rw [hr1] at cR
      clear hr hr1
      go_enter Try.func15, Try.ntmps15
      go_wp2_with fail
      refine cR.mono ?_
      rintro e w0 ⟨rfl, hb0⟩
      have HB0 := Lib.hid hb0
      clear hb0
      go_wp2
      go_ret2
      exact ⟨HB0.out, .inr ⟨HG.out, rfl⟩⟩
end Go.Proofs.Ytpecleflhhbecaa
