/- freelist.get and Parse; the reference's Number, Parse and Same. -/
import Derived.Test.YtagmldkcogidgaaGreatDoorLBodies
import Derived.Test.YtagmldkcogidgaaGreatDoorLPlain
namespace Go.Proofs.YtagmldkcogidgaaGreatDoor.L
open Go.RowKit Lip

theorem drewN_below {B : Nat} {a w : World} (h : Below B a w) {n : Nat} : Below B a (w.drewN n) := ⟨h.os, h.tape, h.output, h.size, h.block⟩
theorem rd_b8 {w : World} {A : Option Addr} {l : List UInt8} (h : Rd w A (l.map b8)) (h0 : 0 < l.length) : ∃ b o, A = some ⟨b, o, none⟩ ∧ ∀ i, i < l.length → w.cell? ⟨b, o + i, none⟩ = some (.int .u8 ((l.getD i 0).toNat : Int)) := by
  obtain ⟨b, o, e, _, hc⟩ := h (by rw [List.length_map]; exact h0)
  refine ⟨b, o, e, fun i hi => hc i _ ?_⟩
  rw [List.getElem?_map, List.getD, List.getElem?_eq_getElem hi]; rfl

theorem or32 (i x y : Nat) (hx : x % 2 ^ i = 0) (hy : y < 2 ^ i) (hx' : x < 4294967296) (hy' : y < 4294967296) : bits .or .u32 (x : Int) (y : Int) = ((x + y : Nat) : Int) := by
  rw [u32_or_nat x y hx' hy', nat_join i x y hx hy]

theorem get_any (A : Option Addr) (l : List UInt8) (n c : Nat) (w : World) (hA : Rd w A (l.map b8)) (hn : n = l.length) (h4 : 4 ≤ n) : Calls Tryz.prog 125 #[.slice A n c] w fun e w' => e = .returned (.int .u32 (get4 l 0)) ∧ ∃ m, w' = w.drewN m := by
  obtain ⟨b, o, rfl, hc⟩ := rd_b8 hA (by omega)
  have c0 : w.cell? ⟨b, o, none⟩ = _ := hc 0 (by omega)
  have c1 := hc 1 (by omega)
  have c2 := hc 2 (by omega)
  have c3 := hc 3 (by omega)
  have HG := Lib.hid (show get4 l 0 = 16777216 * (l.getD 0 0).toNat + 65536 * (l.getD 1 0).toNat + 256 * (l.getD 2 0).toNat + (l.getD 3 0).toNat from rfl)
  clear hc hA hn
  have x0 := (l.getD 0 0).toNat_lt
  have x1 := (l.getD 1 0).toNat_lt
  have x2 := (l.getD 2 0).toNat_lt
  have x3 := (l.getD 3 0).toNat_lt
  generalize (l.getD 0 0).toNat = a0 at *
  generalize (l.getD 1 0).toNat = a1 at *
  generalize (l.getD 2 0).toNat = a2 at *
  generalize (l.getD 3 0).toNat = a3 at *
  have q0 : 0 < n := by omega
  have q1 : (1 : Int) < (n : Int) := by omega
  have q2 : (2 : Int) < (n : Int) := by omega
  have q3 : (3 : Int) < (n : Int) := by omega
  have e1 : bits .or .u32 ((a0 : Int) * 16777216) ((a1 : Int) * 65536) = ((a0 * 16777216 + a1 * 65536 : Nat) : Int) := by
    have := or32 24 (a0 * 16777216) (a1 * 65536) (by omega) (by omega) (by omega) (by omega)
    simpa using this
  have e2 : bits .or .u32 ((a0 * 16777216 + a1 * 65536 : Nat) : Int) ((a2 : Int) * 256) = ((a0 * 16777216 + a1 * 65536 + a2 * 256 : Nat) : Int) := by
    have := or32 16 (a0 * 16777216 + a1 * 65536) (a2 * 256) (by omega) (by omega) (by omega) (by omega)
    simpa using this
  have e3 : bits .or .u32 ((a0 * 16777216 + a1 * 65536 + a2 * 256 : Nat) : Int) (a3 : Int) = ((get4 l 0 : Nat) : Int) := by
    rw [or32 8 (a0 * 16777216 + a1 * 65536 + a2 * 256) a3 (by omega) (by omega) (by omega) (by omega), HG.out]
    congr 1; omega
  have HE := Lib.hid e1
  have HE2 := Lib.hid e2
  have HE3 := Lib.hid e3
  clear e1 e2 e3
  go_enter Tryz.func125, Tryz.ntmps125
  go_wp2
  go_quiet (fail)
  go_wp2
  go_ret
  exact ⟨by rw [← HE3.out, ← HE2.out, ← HE.out]; rfl, _, rfl⟩

theorem get_quiet (A : Option Addr) (l : List UInt8) (n c : Nat) (w : World) (hA : Rd w A (l.map b8)) (hn : n = l.length) (h4 : 4 ≤ n) : Calls Tryz.prog 125 #[.slice A n c] w fun e w' => e = .returned (.int .u32 (get4 l 0)) ∧ Below w.heap.size w w' :=
  (get_any A l n c w hA hn h4).mono fun e w' ⟨h, m, hm⟩ => ⟨h, by rw [hm]; exact drewN_below (Below.refl _ _)⟩

theorem wrap_i64_small (n : Nat) (h : n < 9223372036854775808) : IntKind.i64.wrap (n : Int) = (n : Int) := by
  have e : (n : Int) % 2 ^ 64 = n := Int.emod_eq_of_lt (by omega) (by omega)
  simp only [IntKind.wrap, IntKind.bits, IntKind.signed, e]
  rw [if_neg]
  simp
  omega
theorem or64 (i x y : Nat) (hx : x % 2 ^ i = 0) (hy : y < 2 ^ i) (hx' : x < 4294967296) (hy' : y < 4294967296) : bits .or .i64 (x : Int) (y : Int) = ((x + y : Nat) : Int) := by
  show IntKind.i64.wrap ((BitVec.ofInt 64 (x : Int) ||| BitVec.ofInt 64 (y : Int)).toNat : Int) = _
  rw [BitVec.toNat_or, ofInt_u64 x (by omega), ofInt_u64 y (by omega), nat_join i x y hx hy]
  exact wrap_i64_small _ (by omega)

/-- What Parse leaves. -/
def ParsePost (w : World) (l : List UInt8) (e : Ending) (w' : World) : Prop :=
  Below w.heap.size w w' ∧ ((pgood l = true ∧ ∃ v, e = .returned (.tuple #[.int .u32 (pnext l), v, .int .i64 0]) ∧ Own w' w.heap.size 47 v ((pnum l (pn l)).map u32v)) ∨
    (pgood l = false ∧ e = .returned (.tuple #[.int .u32 0, .slice none 0 0, .int .i64 2])))
theorem one_u32 (l : List Nat) : ∀ u ∈ l.map u32v, u.oneCell' = true := by
  intro u hu; obtain ⟨x, _, rfl⟩ := List.mem_map.1 hu; rfl
theorem pnum_len (l : List UInt8) (k : Nat) : (pnum l k).length = k := by simp [pnum]
theorem pnum_lt (l : List UInt8) (k : Nat) : ∀ x ∈ pnum l k, x < 4294967296 := by
  intro x hx; obtain ⟨i, _, rfl⟩ := List.mem_map.1 hx; exact get4_lt _ _
theorem get4_drop (l : List UInt8) (i : Nat) : get4 (l.drop i) 0 = get4 l i := by
  have h : ∀ k, (l.drop i).getD k 0 = l.getD (i + k) 0 := fun k => by rw [List.getD, List.getD, List.getElem?_drop]
  simp only [get4, h]; simp

set_option maxHeartbeats 800000 in
theorem parse_any (A : Option Addr) (l : List UInt8) (c : Nat) (w : World) (hA : Rd w A (l.map b8)) (hc : l.length ≤ c) (hl : l.length ≤ 1000000) : Calls Tryz.prog 81 #[.slice A l.length c] w (ParsePost w l) := by
  by_cases h6 : l.length < 6
  · have HG := Lib.hid (show pgood l = false by simp [pgood]; omega)
    go_enter Tryz.func81, Tryz.ntmps81
    go_wp2
    go_ret3
    exact ⟨Below.refl _ _, .inr ⟨HG.out, rfl⟩⟩
  · have cg : ∀ m, Calls Tryz.prog 125 #[.slice A l.length c] (w.drewN m) fun e w' => e = .returned (.int .u32 (get4 l 0)) ∧ ∃ m', w' = (w.drewN m).drewN m' := fun m => get_any A l l.length c _ (hA.below (drewN_below (Below.refl _ _))) rfl (by omega)
    obtain ⟨b, o, rfl, hcell⟩ := rd_b8 hA (by omega)
    have c4 := hcell 4 (by omega)
    have c5 := hcell 5 (by omega)
    have x4 := (l.getD 4 0).toNat_lt
    have x5 := (l.getD 5 0).toNat_lt
    have HN := Lib.hid (show pn l = 256 * (l.getD 4 0).toNat + (l.getD 5 0).toNat from rfl)
    have HX := Lib.hid (show pnext l = get4 l 0 from rfl)
    have hnx := get4_lt l 0
    generalize (l.getD 4 0).toNat = a4 at *
    generalize (l.getD 5 0).toNat = a5 at *
    have e1 : bits .or .i64 ((a4 : Int) * 256) (a5 : Int) = ((pn l : Nat) : Int) := by
      have := or64 8 (a4 * 256) a5 (by omega) (by omega) (by omega) (by omega)
      rw [HN.out, show 256 * a4 + a5 = a4 * 256 + a5 by omega, ← this]
      simp
    have hn16 : pn l < 65536 := get2_lt l 4
    have HE := Lib.hid e1
    have HCL := Lib.hid hcell
    clear e1 hcell
    generalize get4 l 0 = nx at *
    have q4 : (4 : Int) < (l.length : Int) := by omega
    have q5 : (5 : Int) < (l.length : Int) := by omega
    have q6 : ¬ (l.length : Int) < 6 := by omega
    by_cases hg : nx ≠ 1 ∧ pn l ≤ 123 ∧ l.length = 6 + 4 * pn l
    · obtain ⟨g1, g2, g3⟩ := hg
      have HP := Lib.hid (show pgood l = rise 1 (pnum l (pn l)) by
        simp only [pgood, HX.out, decide_eq_true (show 6 ≤ l.length by omega), decide_eq_true g1, decide_eq_true g2, decide_eq_true g3, Bool.true_and])
      have HL := Lib.hid g3
      have e9 := Lib.hid (show (l.length : Int) = 6 + 4 * (pn l : Int) by omega)
      clear g3
      go_enter Tryz.func81, Tryz.ntmps81
      go_wp2
      go_quiet (with_reducible exact Calls.quiet_of (cg _))
      have e1 := HE.out
      have e10 := e9.out
      have hx1 : ((nx : Int) == 1) = false := beq_eq_false_iff_ne.2 (by omega)
      have hd1 : decide ((123 : Int) < (pn l : Int)) = false := decide_eq_false (by omega)
      go_wp2
      simp only [e1]
      clear e1 e10 hx1 hd1 c4 c5 cg
      have HD := Lib.hid (drewN_below (Below.refl w.heap.size w) (n := nq))
      go_loopw [7, 39] (fun v i wr => ∃ (k : Nat) (ov : Value), k ≤ pn l ∧ i = .int .i64 k ∧ ov = v ∧ Own wr w.heap.size 47 ov ((pnum l k).map u32v) ∧ Below w.heap.size w wr) (fun _ i _ => pn l - (intOf i).toNat)
      case atStart => exact ⟨0, _, Nat.zero_le _, rfl, rfl, Own.nil _ _ _, HD.out⟩
      case round =>
        obtain ⟨k, ov, hk, rfl, rfl, hown, hbel⟩ := hrel
        have HOV := Lib.hid hown
        have HBL := Lib.hid hbel
        clear hown hbel
        by_cases hlt : k < pn l
        · have h46 : 6 + 4 * k + 4 ≤ l.length := by have := HL.out; omega
          have hrd := (hA.below HBL.out).drop (6 + 4 * k) c (by rw [List.length_map]; exact hc) (by rw [List.length_map]; omega)
          rw [← List.map_drop] at hrd
          have cg := get_quiet _ (l.drop (6 + 4 * k)) (l.length - (6 + 4 * k)) (c - (6 + 4 * k)) wr hrd (by rw [List.length_drop]) (by omega)
          rw [get4_drop] at cg
          have s1 := fun W => slice_from el33 (some ⟨b, o, none⟩) l.length c (6 + 4 * k) (by omega) W
          rw [if_neg (show ¬ c = 6 + 4 * k by omega), Option.map_some, addAt] at cg s1
          have HP2 := Lib.hid (pnum_succ l k)
          have hy := get4_lt l (6 + 4 * k)
          generalize get4 l (6 + 4 * k) = y at *
          have e5 : ((6 + 4 * k : Nat) : Int) = 6 + 4 * (k : Int) := by omega
          rw [e5] at s1
          clear hrd
          go_wp2_with fail
          refine cg.mono ?_
          rintro e w1 ⟨rfl, hb1⟩
          have HB1 := Lib.hid hb1
          have HOV1 := HOV.out.below hb1
          have HOV2 := HOV1.alloc (.cells #[.int .u32 (y : Int)] 47)
          have hr6 : Rd (w1.alloc (.cells #[.int .u32 (y : Int)] 47)) (some ⟨w1.heap.size, 0, none⟩) ([y].map u32v) := Rd.fresh _ _ _ _
          have HBA := Lib.hid (show Below w.heap.size w (w1.alloc (.cells #[.int .u32 (y : Int)] 47)) from (HBL.out.trans (hb1.mono HBL.out.size)).alloc (HBL.out.trans (hb1.mono HBL.out.size)).size _)
          have hsz := HBA.out.size
          clear hb1 HOV1
          go_wp2_with (at_builtin; refine wpList_app el25 (by simp [Region.wanted, go_sem]) (.tmp 42) (.tmp 49) rfl w.heap.size ov ((pnum l k).map u32v) rfl HOV2 (some ⟨w1.heap.size, 0, none⟩) 1 1 ([y].map u32v) rfl rfl hr6 (one_u32 _) (by simp [pnum_len]; omega) (by simp [pnum_len]; omega) hsz ?_; intro A' n' c' w' h1 h2 h3 h4)
          go_roundw
          case rel => exact ⟨k + 1, _, by omega, by go_num, rfl, by rw [HP2.out, List.map_append]; exact h1, HBA.out.grown h3 hsz (fun r e => (HOV2.lt r e).1)⟩
          case measure => simp [intOf]; omega
        · obtain rfl : k = pn l := by omega
          obtain ⟨A1, c1, rfl, hr1, _, _⟩ := HOV.out.form
          have cr := rises_any A1 (pnum l (pn l)) c1 wr hr1 (pnum_lt l _) (by rw [pnum_len]; omega)
          rw [pnum_len] at cr
          simp only [List.length_map, pnum_len] at HOV
          simp only [List.length_map, pnum_len]
          cases hri : rise 1 (pnum l (pn l)) with
          | true =>
            rw [hri] at cr
            have HR := Lib.hid (HP.out.trans hri)
            clear hri hr1
            go_wp2_with fail
            refine cr.mono ?_
            rintro e w1 ⟨rfl, rfl⟩
            go_wp2
            go_ret3
            exact ⟨HBL.out, .inl ⟨HR.out, _, by rw [HX.out]; rfl, HOV.out⟩⟩
          | false =>
            rw [hri] at cr
            have HR := Lib.hid (HP.out.trans hri)
            clear hri hr1
            go_wp2_with fail
            refine cr.mono ?_
            rintro e w1 ⟨rfl, rfl⟩
            go_wp2
            go_ret3
            exact ⟨HBL.out, .inr ⟨HR.out, rfl⟩⟩
    · have HP := Lib.hid (show pgood l = false by
        cases hp : pgood l with
        | false => rfl
        | true =>
          simp only [pgood, Bool.and_eq_true, decide_eq_true_eq] at hp
          exact absurd ⟨by rw [← HX.out]; exact hp.1.1.1.2, hp.1.1.2, hp.1.2⟩ hg)
      by_cases g1 : nx = 1
      · have hx1 : ((nx : Int) == 1) = true := by rw [g1]; rfl
        clear g1 hg
        go_enter Tryz.func81, Tryz.ntmps81
        go_wp2
        go_quiet (with_reducible exact Calls.quiet_of (cg _))
        have e1 := HE.out
        go_wp2
        go_ret3
        exact ⟨drewN_below (Below.refl _ _), .inr ⟨HP.out, rfl⟩⟩
      · have hx1 : ((nx : Int) == 1) = false := beq_eq_false_iff_ne.2 (by omega)
        by_cases g2 : pn l ≤ 123
        · have hd1 : decide ((123 : Int) < (pn l : Int)) = false := decide_eq_false (by omega)
          have hln : ((l.length : Int) == 6 + 4 * (pn l : Int)) = false := beq_eq_false_iff_ne.2 (by omega)
          clear g1 g2 hg
          go_enter Tryz.func81, Tryz.ntmps81
          go_wp2
          go_quiet (with_reducible exact Calls.quiet_of (cg _))
          have e1 := HE.out
          go_wp2
          go_ret3
          exact ⟨drewN_below (Below.refl _ _), .inr ⟨HP.out, rfl⟩⟩
        · have hd1 : decide ((123 : Int) < (pn l : Int)) = true := decide_eq_true (by omega)
          clear g1 g2 hg
          go_enter Tryz.func81, Tryz.ntmps81
          go_wp2
          go_quiet (with_reducible exact Calls.quiet_of (cg _))
          have e1 := HE.out
          go_wp2
          go_ret3
          exact ⟨drewN_below (Below.refl _ _), .inr ⟨HP.out, rfl⟩⟩
end Go.Proofs.YtagmldkcogidgaaGreatDoor.L
