/- The reference's Write of a super. -/
import Derived.Test.YtcakicifgbnhcaaDoorSuperRef
namespace Go.Proofs.YtcakicifgbnhcaaDoor
open Go.RowKit Go.Sort Pgp
open Crcp (cmore)

set_option maxHeartbeats 1000000 in
theorem refWrite_any (q : Nat) (r : List Nat) (w : World) (hq : q < 18446744073709551616) (hr : r.length = 27) (hrl : ∀ x ∈ r, x < 4294967296) :
    Calls Tryd.prog 29 #[.agg (SV q r).toArray] w fun e w' => e = .returned (.string ⟨(spage q r).toArray⟩) ∧ RowKit.Below w.heap.size w w' := by
  have hS0 : Sup (w.alloc (.cells (SV q r).toArray 56)) w.heap.size q r := by unfold Sup; exact heap_alloc_last w _
  have hB0 : RowKit.Below w.heap.size w (w.alloc (.cells (SV q r).toArray 56)) := (Below.refl _ _).alloc (Nat.le_refl _) _
  have hld := hS0.loads hr
  have q0 := kept_cell hS0.at0
  have fB := fun d os => Calls.regrown_of (body_any q r (grow (redrawn (w.alloc (.cells (SV q r).toArray 56)) d) os) hq hr hrl)
  have fS := fun d os => Calls.regrown_of (refSeal_any (q % 2) 1 (sbody q r) (grow (redrawn (w.alloc (.cells (SV q r).toArray 56)) d) os) (by omega) (by rw [sbody_len q r hr]; decide))
  have hz : IntKind.u32.wrap ((q : Int).tmod 2) = ((q % 2 : Nat) : Int) := by rw [Int.tmod_eq_emod_of_nonneg (by omega), IntKind.wrap_u32]; omega
  rw [← hz] at fS
  generalize hC : (SV q r).toArray = C at *
  go_enter Tryd.func29, Tryd.ntmps29
  go_wp2_with fail
  generalize w.alloc (.cells C 56) = W0 at *
  have HB0 := Lib.hid hB0
  clear hC hS0 hB0 hz hrl
  refine wp_region_quiet_below (by kernel_rfl) (by kernel_rfl) ?_
  repeat (first
    | (refine quiet_ld (o := ⟨some 10, _, _, _, _, _⟩) rfl 56 (.tmp 1) rfl _ rfl _ hld ?_)
    | (quiet_step (first | with_reducible exact fB _ _ | exact fS _ _)))
  refine wpQuiet_nil ?_
  intro _ hw'
  obtain ⟨⟨dq, osq⟩, hw''⟩ := hw'
  subst hw''
  go_wp2
  go_ret
  exact ⟨rfl, bel_call HB0.out (below_regrown W0 dq osq)⟩
end Go.Proofs.YtcakicifgbnhcaaDoor
