/- SuperTurns: all inputs. -/
import Derived.Test.YtcakicifgbnhcaaDoorSuperTurns
import Derived.Test.YtcakicifgbnhcaaDoorSuperIn
namespace Go.Proofs.YtcakicifgbnhcaaDoor
open Go.RowKit Pgp
open Crcp (cmore)

set_option maxHeartbeats 2000000 in
theorem walk14 (q : Nat) (r : List Nat) (q' : Nat) (r' : List Nat) (A : Option Addr) (t : List UInt8) (c : Nat) (w : World) (hq : q < 18446744073709551616) (hr : r.length = 27) (hr' : r'.length = 27) (hrl : ∀ x ∈ r, x < 4294967296) (hrl' : ∀ x ∈ r', x < 4294967296)
    (hA : Rd w A ⟨t.toArray⟩) (hc : t.length ≤ c) (hT : Tab w) :
    Calls Tryd.prog 14 #[.agg (SV q r).toArray, .agg (SV q' r').toArray, .slice A t.length c] w fun e w' => e = .returned (.bool true) ∧ RowKit.Below w.heap.size w w' := by
  by_cases hg : 600 < t.length ∨ q = 18446744073709551615
  · have hS0 := sup_new w q r
    have hB0 : RowKit.Below w.heap.size w (w.alloc (.cells (SV q r).toArray 56)) := (Below.refl _ _).alloc (Nat.le_refl _) _
    have hB1 : RowKit.Below (w.alloc (.cells (SV q r).toArray 56)).heap.size (w.alloc (.cells (SV q r).toArray 56)) ((w.alloc (.cells (SV q r).toArray 56)).alloc (.cells (SV q' r').toArray 56)) := (Below.refl _ _).alloc (Nat.le_refl _) _
    have HS := Lib.hid (hS0.below hB1 hS0.lt)
    have HB := Lib.hid (bel_call hB0 hB1)
    have F := fixed07_any _ (hT.below hT.pos HB.out)
    have hg : 600 < t.length ∨ ¬ 600 < t.length ∧ ((q : Int) == 18446744073709551615) = true := by
      by_cases h6 : 600 < t.length
      · exact .inl h6
      · exact .inr ⟨h6, beq_iff_eq.2 (by omega)⟩
    clear hS0 hB0 hB1 hq
    generalize hC : (SV q r).toArray = C at *
    generalize hD : (SV q' r').toArray = D at *
    rcases hg with hg | ⟨hg, hqe⟩
    all_goals
      go_enter Tryd.func14, Tryd.ntmps14
      go_upto_region 1 with fail
      generalize (w.alloc (.cells C 56)).alloc (.cells D 56) = W0 at *
      have q0 := HS.out.at0
      go_wp2_with fail
      refine F.mono ?_
      rintro e w2 ⟨rfl, hb⟩
      have HB2 := Lib.hid (bel_call HB.out hb)
      clear hb
      go_wp2
      go_ret
      exact ⟨rfl, HB2.out⟩
  · have h6 : ¬ 600 < t.length := fun h => hg (.inl h)
    have hq1 : q + 1 < 18446744073709551616 := by omega
    by_cases hp : (q + 1) % 2 = 0
    · exact walk14_0 q r q' r' A t c w hq1 hp hr hr' hrl hrl' hA hc h6 hT
    · exact walk14_1 q r q' r' A t c w hq1 (by omega) hr hr' hrl hrl' hA hc h6 hT
end Go.Proofs.YtcakicifgbnhcaaDoor
