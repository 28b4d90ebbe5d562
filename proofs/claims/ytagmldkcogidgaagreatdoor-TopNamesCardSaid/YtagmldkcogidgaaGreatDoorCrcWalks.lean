/- crc.More, crc.Sum and the reference's More, Sum: what they compute, by a walk each. -/
import Derived.Test.YtagmldkcogidgaaGreatDoorBase
import Derived.Test.YtagmldkcogidgaaGreatDoorCrcPlain
namespace Go.Proofs.YtagmldkcogidgaaGreatDoor
set_option maxRecDepth 100000
open Go.RowKit
open Crcp (ctab cstep crun cmore)

/-- The table of sixteen sums lies in block 0. -/
def Tab (w : World) : Prop := ∀ i, i < 16 → w.cell? ⟨0, i, none⟩ = some (.int .u32 (ctab i : Nat))
theorem Tab.below {w w' : World} (h : Tab w) {B : Nat} (hB : 0 < B) (hb : Below B w w') : Tab w' := fun i hi => (hb.cell (p := ⟨0, i, none⟩) hB).trans (h i hi)

theorem tab_lt (i : Nat) (h : i < 16) : ctab i < 4294967296 := by
  have : ∀ i, i < 16 → ctab i < 4294967296 := by decide
  exact this i h
theorem nib_lt {r : Nat} (h : r < 4294967296) : r / 16 ^^^ ctab (r % 16) < 4294967296 := Nat.xor_lt_two_pow (n := 32) (by omega) (tab_lt _ (by omega))

theorem crun_take (r : Nat) (s : ByteArray) (k : Nat) (h : k < s.size) : crun r (s.data.toList.take (k + 1)) = cstep (crun r (s.data.toList.take k)) s[k] := by
  rw [List.take_succ_eq_append_getElem (by simpa using h), Crcp.run_append]; rfl

set_option maxHeartbeats 400000 in
theorem more_any (r0 : Nat) (A : Option Addr) (s : ByteArray) (c : Nat) (w : World) (hr : r0 < 4294967296) (hs : s.size ≤ 9223372036854775807) (hA : Rd w A s) (ht : Tab w) :
    Calls Tryz.prog 164 #[.int .u32 r0, .slice A s.size c] w fun e w' => e = .returned (.int .u32 (cmore r0 s.data.toList : Nat)) ∧ w = w' := by
  have h0 := xor_u32 r0 4294967295 hr (by decide)
  have hR : r0 ^^^ 4294967295 < 4294967296 := Nat.xor_lt_two_pow (n := 32) hr (by decide)
  generalize hR0 : r0 ^^^ 4294967295 = R at *
  have HR := Lib.hid hR0
  clear hR0
  simp only [Int.cast_ofNat_Int] at h0
  go_enter Tryz.func164, Tryz.ntmps164
  go_wp2
  go_loop [5, 12] (fun r i => ∃ k : Nat, k ≤ s.size ∧ i = .int .i64 k ∧ r = .int .u32 (crun R (s.data.toList.take k) : Nat)) (fun _ i => s.size - (intOf i).toNat)
  case atStart => exact ⟨0, Nat.zero_le _, rfl, rfl⟩
  case round =>
    obtain ⟨k, hk, rfl, rfl⟩ := hrel
    have hrl : crun R (s.data.toList.take k) < 4294967296 := Crcp.run_lt _ hR
    clear h0
    by_cases hlt : k < s.size
    · obtain ⟨b, o, rfl, _, hc⟩ := hA (by omega)
      have hck := hc k hlt
      clear hc hA
      have HT := Lib.hid (crun_take R s k hlt)
      generalize crun R (s.data.toList.take k) = r at *
      generalize s[k] = x at *
      have hx := Crcp.byte_lt x
      have e1 := xor_u32 r x.toNat hrl (by omega)
      have hQ : r ^^^ x.toNat < 4294967296 := Nat.xor_lt_two_pow (n := 32) hrl (by omega)
      have HS := Lib.hid (Crcp.step_nib r x)
      generalize r ^^^ x.toNat = Q at *
      have e2 := low4_u32 Q hQ
      have t1 := ht (Q % 16) (by omega)
      have hT1 := tab_lt (Q % 16) (by omega)
      generalize ctab (Q % 16) = T1 at *
      have e3 : bits .xor .u32 ((Q : Int) / 16) (T1 : Int) = ((Q / 16 ^^^ T1 : Nat) : Int) := xor_u32 (Q / 16) T1 (by omega) hT1
      have hQ1 : Q / 16 ^^^ T1 < 4294967296 := Nat.xor_lt_two_pow (n := 32) (by omega) hT1
      generalize Q / 16 ^^^ T1 = Q1 at *
      have e4 := low4_u32 Q1 hQ1
      have t2 := ht (Q1 % 16) (by omega)
      have hT2 := tab_lt (Q1 % 16) (by omega)
      generalize ctab (Q1 % 16) = T2 at *
      have e5 : bits .xor .u32 ((Q1 : Int) / 16) (T2 : Int) = ((Q1 / 16 ^^^ T2 : Nat) : Int) := xor_u32 (Q1 / 16) T2 (by omega) hT2
      generalize Q1 / 16 ^^^ T2 = Q2 at *
      go_wp2
      go_round
      case rel => exact ⟨k + 1, by omega, by go_num, val_nat (by rw [HT.out, ← HS.out])⟩
      case measure => simp [intOf]; omega
    · obtain rfl : k = s.size := by omega
      have hl : s.data.toList.take s.size = s.data.toList := List.take_of_length_le (by simp)
      rw [hl] at hrl ⊢
      have e1 := xor_u32 (crun R s.data.toList) 4294967295 hrl (by decide)
      simp only [Int.cast_ofNat_Int] at e1
      go_wp2
      go_ret
      exact ⟨ret_nat (by rw [cmore, HR.out]), rfl⟩

theorem sum_any (A : Option Addr) (s : ByteArray) (c : Nat) (w : World) (hs : s.size ≤ 9223372036854775807) (hA : Rd w A s) (ht : Tab w) :
    Calls Tryz.prog 117 #[.slice A s.size c] w fun e w' => e = .returned (.int .u32 (cmore 0 s.data.toList : Nat)) ∧ w = w' := by
  have H := more_any 0 A s c w (by decide) hs hA ht
  go_enter Tryz.func117, Tryz.ntmps117
  go_wp2_with (go_at_call 164; refine H.mono ?_; rintro e w' ⟨rfl, rfl⟩)
  go_ret
  exact ⟨rfl, rfl⟩

end Go.Proofs.YtagmldkcogidgaaGreatDoor
