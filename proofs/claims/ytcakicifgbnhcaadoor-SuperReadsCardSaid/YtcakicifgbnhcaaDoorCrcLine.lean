/- CrcLine: whatever the three rows of bytes, the law returns true. No condition beyond the row's own. -/
import Derived.Test.YtcakicifgbnhcaaDoorCrcTold
import Derived.OwnWalk
import Derived.WalkLawsBesides
import Derived.Deep.DeepCutAuto
namespace Go.Proofs.YtcakicifgbnhcaaDoor
open Go.RowKit Go.Sort
open Crcp (cmore)

theorem make_zero (w : World) (base n : Nat) (hn : n ≤ 281474976710656) (hbase : base ≤ w.heap.size) :
    ∃ w', (Instr.makeSlice 22 (.int .i64 (n : Int)) (.int .i64 (n : Int))).run Tryd.prog w = .ok (.slice (some ⟨w.heap.size, 0, none⟩) n n) w' ∧
      Own w' base (.slice (some ⟨w.heap.size, 0, none⟩) n n) ⟨(List.replicate n (0 : UInt8)).toArray⟩ ∧ w.grownBy w' none := by
  obtain ⟨i0, hi, hz0, hz1, hz2⟩ := info_parts info5
  obtain ⟨w', h1, h2, h3⟩ := run_make_full (P := Tryd.prog) w base 22 5 i0 (.int .u8 0) 1 Tryd.underlying22 hi hz0 hz1 .i64 .i64 n (by rw [hz2]; omega) (by unfold maxLen; omega) hbase
  refine ⟨w', h1, ?_, h3⟩
  have hc : (madeCells (Value.int .u8 0).cells (n * 1)).toList = (bcells ⟨(List.replicate n (0 : UInt8)).toArray⟩).toList := by
    rw [Nat.mul_one, show (Value.int .u8 0).cells = #[.int .u8 0] from rfl, toList_madeCells_one]
    simp [bcells]
  unfold Own
  rw [← hc]
  simpa [ByteArray.size] using h2

/-- The rows made one, the first k places done. -/
def lineK (a b c : List UInt8) (n : Nat) : Nat → List UInt8
  | 0 => List.replicate n 0
  | k + 1 => (lineK a b c n k).set k (a.getD k 0 ^^^ b.getD k 0 ^^^ c.getD k 0)
theorem lineK_length (a b c : List UInt8) (n k : Nat) : (lineK a b c n k).length = n := by
  induction k with
  | zero => simp [lineK]
  | succ k ih => simp [lineK, ih]
theorem lineK_at (a b c : List UInt8) (n k j : Nat) (hj : j < k) (hn : j < n) : (lineK a b c n k)[j]? = some (a.getD j 0 ^^^ b.getD j 0 ^^^ c.getD j 0) := by
  induction k with
  | zero => omega
  | succ k ih =>
    simp only [lineK]
    rw [List.getElem?_set]
    by_cases e : k = j
    · subst e; rw [if_pos rfl, lineK_length, if_pos hn]
    · rw [if_neg e]; exact ih (by omega)
theorem line_sum (a b c : List UInt8) (n : Nat) (ha : n ≤ a.length) (hb : n ≤ b.length) (hc : n ≤ c.length) : cmore 0 (a.take n) ^^^ cmore 0 (b.take n) ^^^ cmore 0 (c.take n) = cmore 0 (lineK a b c n n) := by
  rw [Crcp.more_xor3 _ _ _ (by simp; omega) (by simp; omega)]
  congr 1
  apply List.ext_getElem?
  intro j
  by_cases hj : j < n
  · rw [lineK_at _ _ _ _ _ _ hj hj]
    simp [List.getElem?_zipWith, hj, List.getD, List.getElem?_eq_getElem (show j < a.length by omega), List.getElem?_eq_getElem (show j < b.length by omega), List.getElem?_eq_getElem (show j < c.length by omega)]
  · rw [List.getElem?_eq_none (by simp; omega), List.getElem?_eq_none (by rw [lineK_length]; omega)]

/-- The first n bytes of a slice. -/
def pre (s : ByteArray) (n : Nat) : ByteArray := ⟨(s.data.toList.take n).toArray⟩
theorem pre_size (s : ByteArray) (n : Nat) (h : n ≤ s.size) : (pre s n).size = n := by
  show (s.data.toList.take n).toArray.size = n
  rw [List.size_toArray, List.length_take, lenBA]; omega
theorem Rd.pre {w : World} {A : Option Addr} {s : ByteArray} (h : Rd w A s) (n : Nat) (hn : n ≤ s.size) : Rd w A (pre s n) := fun h0 => by
  rw [pre_size s n hn] at h0
  obtain ⟨b, o, e, hlt, hc⟩ := h (by omega)
  refine ⟨b, o, e, hlt, fun i hi => ?_⟩
  have hi' : i < n := by rw [pre_size s n hn] at hi; exact hi
  rw [hc i (by omega)]
  have : (YtcakicifgbnhcaaDoor.pre s n)[i] = s[i] := by
    have h1 : (YtcakicifgbnhcaaDoor.pre s n).data.toList[i]? = some (YtcakicifgbnhcaaDoor.pre s n)[i] := by
      rw [List.getElem?_eq_getElem (by rw [lenBA]; exact hi)]; rfl
    have h2 : s.data.toList[i]? = some (s[i]'(by omega)) := by
      rw [List.getElem?_eq_getElem (by rw [lenBA]; omega)]; rfl
    have h3 : (YtcakicifgbnhcaaDoor.pre s n).data.toList = s.data.toList.take n := by simp [YtcakicifgbnhcaaDoor.pre]
    rw [h3, List.getElem?_take_of_lt hi', h2] at h1
    exact (Option.some.inj h1).symm
  rw [this]
theorem Rd.at_ {w : World} {b o : Nat} {s : ByteArray} (h : Rd w (some ⟨b, o, none⟩) s) (i : Nat) (hi : i < s.size) : w.cell? ⟨b, o + i, none⟩ = some (.int .u8 ((s.data.toList.getD i 0).toNat : Nat)) := by
  obtain ⟨b', o', e, _, hc⟩ := h (by omega)
  injection e with e
  injection e with e1 e2
  subst e1 e2
  rw [hc i hi]
  have : s.data.toList.getD i 0 = s[i] := by
    rw [List.getD, List.getElem?_eq_getElem (by rw [lenBA]; exact hi)]; rfl
  rw [this]

theorem slice_pre (A : Option Addr) (n c k : Nat) (hk : k ≤ c) (W : World) : (Instr.slice 22 (.slice A n c) none (some (.int .i64 (k : Int))) none).run Tryd.prog W = .ok (.slice A k c) W := by
  have ht : Tryd.prog.underlying 22 = some (.slice (Tryd.prog.elem 22)) := by kernel_rfl
  have he : Tryd.prog.elem 22 = 5 := by kernel_rfl
  obtain ⟨i0, hi, hz0, hz1, hz2⟩ := info_parts info5
  rw [run_slice_h W 22 A n c ht .i64 (k : Int) (by omega) (by omega), he]
  have hs : (Go.sizeOf 5).run Tryd.prog W = .ok 1 W := by simp [Go.sizeOf, typeInfo, hi, hz1]
  rw [hs]
  have : ∀ a : Addr, a.add 0 = a := fun a => by simp [Addr.add]
  cases A <;> simp [Result.andThen, sliced, this]

set_option maxHeartbeats 1600000 in
theorem walk6 (A B C : Option Addr) (s t u : ByteArray) (c d e : Nat) (w : World) (hs : s.size ≤ c ∧ c ≤ 9223372036854775807) (ht : t.size ≤ d ∧ d ≤ 9223372036854775807) (hu : u.size ≤ e ∧ e ≤ 9223372036854775807) (hA : Rd w A s) (hB : Rd w B t) (hC : Rd w C u) (hT : Tab w) :
    Calls Tryd.prog 6 #[.slice A s.size c, .slice B t.size d, .slice C u.size e] w fun e w' => e = .returned (.bool true) ∧ Below w.heap.size w w' := by
  have F := fixed04_any _ hT
  by_cases hl : s.size ≤ 500 ∧ t.size ≤ 500 ∧ u.size ≤ 500
  · obtain ⟨hl1, hl2, hl3⟩ := hl
    clear F
    go_enter Tryd.func6, Tryd.ntmps6
    go_upto_region 3 with (fail)
    go_cut [7] (fun q wx => ∃ n : Nat, q = .int .i64 n ∧ n ≤ s.size ∧ n ≤ t.size ∧ n ≤ u.size ∧ wx = w)
    case first =>
      go_wp2
      all_goals (go_meet; exact ⟨_, rfl, by omega, by omega, by omega, rfl⟩)
    case rest =>
      obtain ⟨n, rfl, hn1, hn2, hn3, rfl⟩ := hcut
      obtain ⟨w1, hmk, o1, g1⟩ := make_zero wc wc.heap.size n (by omega) (Nat.le_refl _)
      have hb1 : Below wc.heap.size wc w1 := (Below.refl _ _).grown g1 (Nat.le_refl _) (fun k h => by cases h)
      have o1 := Lib.hid o1
      have hb1 := Lib.hid hb1
      clear g1
      go_wp2
      go_loopw [34] (fun i wr => ∃ k : Nat, k ≤ n ∧ i = .int .i64 k ∧ Own wr wc.heap.size (.slice (some ⟨wc.heap.size, 0, none⟩) n n) ⟨(lineK s.data.toList t.data.toList u.data.toList n k).toArray⟩ ∧ Below wc.heap.size wc wr) (fun i _ => n - (intOf i).toNat)
      case atStart => exact ⟨0, by omega, rfl, o1.out, hb1.out⟩
      case round =>
        obtain ⟨k, hk, rfl, hown, hbel⟩ := hrel
        by_cases hlt : k < n
        · have hA2 := hA.below hbel
          have hB2 := hB.below hbel
          have hC2 := hC.below hbel
          obtain ⟨ba, oa, rfl, hla, _⟩ := hA (by omega)
          obtain ⟨bb, ob, rfl, hlb, _⟩ := hB (by omega)
          obtain ⟨bc, oc, rfl, hlc, _⟩ := hC (by omega)
          have ca := hA2.at_ k (by omega)
          have cb := hB2.at_ k (by omega)
          have cc := hC2.at_ k (by omega)
          have hst := Own.stored (l := lineK s.data.toList t.data.toList u.data.toList n k) (by rw [lineK_length]; exact hown) k (s.data.toList.getD k 0 ^^^ t.data.toList.getD k 0 ^^^ u.data.toList.getD k 0)
          rw [List.length_set, lineK_length, show (lineK s.data.toList t.data.toList u.data.toList n k).set k (s.data.toList.getD k 0 ^^^ t.data.toList.getD k 0 ^^^ u.data.toList.getD k 0) = lineK s.data.toList t.data.toList u.data.toList n (k + 1) from rfl, UInt8.toNat_xor, UInt8.toNat_xor] at hst
          have hfg := hown.free k
          obtain ⟨v0, hcg⟩ : ∃ v0, wr.cell? ⟨wc.heap.size, k, none⟩ = some v0 := by
            have hlk : k < (lineK s.data.toList t.data.toList u.data.toList n k).length := by rw [lineK_length]; exact hlt
            exact ⟨_, hown.at_ k _ (List.getElem?_eq_getElem hlk)⟩
          have HS := Lib.hid hst
          clear hst hown hA2 hB2 hC2 hA hB hC
          generalize s.data.toList.getD k 0 = x at *
          generalize t.data.toList.getD k 0 = y at *
          generalize u.data.toList.getD k 0 = z at *
          have e1 := u8_xor_nat x.toNat y.toNat (Crcp.byte_lt _) (Crcp.byte_lt _)
          have hxy : x.toNat ^^^ y.toNat < 256 := Nat.xor_lt_two_pow (n := 8) (Crcp.byte_lt _) (Crcp.byte_lt _)
          generalize x.toNat ^^^ y.toNat = q at *
          have e2 := u8_xor_nat q z.toNat hxy (Crcp.byte_lt _)
          generalize q ^^^ z.toNat = r at *
          have hbel := Lib.hid hbel
          go_wp2
          go_region
          go_wp2
          go_roundw
          case rel => exact ⟨k + 1, by omega, by go_num, HS.out.1.drew, (hbel.out.setCell (Nat.le_refl _) _).drew⟩
          case measure => simp [intOf]; omega
        · obtain rfl : k = n := by omega
          have hT2 := hT.below hT.pos hbel
          have hsum := line_sum s.data.toList t.data.toList u.data.toList k (by rw [lenBA]; exact hn1) (by rw [lenBA]; exact hn2) (by rw [lenBA]; exact hn3)
          have cF := fun d os => Calls.regrown_of (fixed04_any _ (hT2.regrown d os))
          have cA := fun d os => same_regrown (sum_any A (pre s k) c _ (by rw [pre_size s k hn1]; omega) (((hA.below hbel).pre k hn1).regrown d os) (hT2.regrown d os))
          have cB := fun x os => same_regrown (sum_any B (pre t k) d _ (by rw [pre_size t k hn2]; omega) (((hB.below hbel).pre k hn2).regrown x os) (hT2.regrown x os))
          have cC := fun d os => same_regrown (sum_any C (pre u k) e _ (by rw [pre_size u k hn3]; omega) (((hC.below hbel).pre k hn3).regrown d os) (hT2.regrown d os))
          have hz : (⟨(lineK s.data.toList t.data.toList u.data.toList k k).toArray⟩ : ByteArray).size = k := by
            show (lineK s.data.toList t.data.toList u.data.toList k k).toArray.size = k
            rw [List.size_toArray, lineK_length]
          have cD := fun d os => same_regrown (sum_any (some ⟨wc.heap.size, 0, none⟩) ⟨(lineK s.data.toList t.data.toList u.data.toList k k).toArray⟩ k _ (by rw [hz]; omega) (hown.rd.regrown d os) (hT2.regrown d os))
          rw [hz] at cD
          rw [pre_size s k hn1] at cA
          rw [pre_size t k hn2] at cB
          rw [pre_size u k hn3] at cC
          simp only [pre] at cA cB cC
          have m1 := Crcp.more_lt (s := 0) (s.data.toList.take k) (by decide)
          have m2 := Crcp.more_lt (s := 0) (t.data.toList.take k) (by decide)
          have m3 := Crcp.more_lt (s := 0) (u.data.toList.take k) (by decide)
          generalize cmore 0 (s.data.toList.take k) = M1 at *
          generalize cmore 0 (t.data.toList.take k) = M2 at *
          generalize cmore 0 (u.data.toList.take k) = M3 at *
          generalize cmore 0 (lineK s.data.toList t.data.toList u.data.toList k k) = M4 at *
          have e1 := xor_u32 M1 M2 m1 m2
          have m4 : M1 ^^^ M2 < 4294967296 := Nat.xor_lt_two_pow (n := 32) m1 m2
          have e2 := xor_u32 (M1 ^^^ M2) M3 m4 m3
          rw [hsum] at e2
          generalize M1 ^^^ M2 = M5 at *
          clear hsum hown hT2 hT hA hB hC hz
          have sA := fun W => (run_sliceAt_slice (w := W) 22 (.slice A s.size c) none (some (.int .i64 (k : Int))) none (show Tryd.prog.underlying 22 = some (.slice (Tryd.prog.elem 22)) by kernel_rfl)).trans (slice_pre A s.size c k (by omega) W)
          have sB := fun W => (run_sliceAt_slice (w := W) 22 (.slice B t.size d) none (some (.int .i64 (k : Int))) none (show Tryd.prog.underlying 22 = some (.slice (Tryd.prog.elem 22)) by kernel_rfl)).trans (slice_pre B t.size d k (by omega) W)
          have sC := fun W => (run_sliceAt_slice (w := W) 22 (.slice C u.size e) none (some (.int .i64 (k : Int))) none (show Tryd.prog.underlying 22 = some (.slice (Tryd.prog.elem 22)) by kernel_rfl)).trans (slice_pre C u.size e k (by omega) W)
          have HB := Lib.hid hbel
          clear hbel
          go_wp2_with fail
          refine wp_region_quiet_below (by kernel_rfl) (by kernel_rfl) ?_
          repeat (quiet_step (first | with_reducible exact cF _ _ | with_reducible exact cA _ _ | with_reducible exact cB _ _ | with_reducible exact cC _ _ | with_reducible exact cD _ _))
          refine wpQuiet_nil ?_
          intro _ hw'
          obtain ⟨⟨dq, osq⟩, hw''⟩ := hw'
          subst hw''
          go_wp2
          go_ret
          exact ⟨rfl, HB.out.trans ((below_regrown wr dq osq).mono HB.out.size)⟩
  · by_cases h1 : 500 < s.size
    · go_enter Tryd.func6, Tryd.ntmps6
      go_wp2_with fail
      refine F.mono ?_
      rintro e w' ⟨rfl, hb⟩
      go_wp2
      go_ret
      exact ⟨rfl, hb⟩
    · by_cases h2 : 500 < t.size
      · go_enter Tryd.func6, Tryd.ntmps6
        go_wp2_with fail
        refine F.mono ?_
        rintro e w' ⟨rfl, hb⟩
        go_wp2
        go_ret
        exact ⟨rfl, hb⟩
      · have h3 : 500 < u.size := by omega
        go_enter Tryd.func6, Tryd.ntmps6
        go_wp2_with fail
        refine F.mono ?_
        rintro e w' ⟨rfl, hb⟩
        go_wp2
        go_ret
        exact ⟨rfl, hb⟩
end Go.Proofs.YtcakicifgbnhcaaDoor
