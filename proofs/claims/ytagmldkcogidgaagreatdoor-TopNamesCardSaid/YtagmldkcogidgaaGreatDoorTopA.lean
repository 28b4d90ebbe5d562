/- L29.Made(8), speaks: a server that was just formatted answers a Pulse. -/
import Derived.Test.YtagmldkcogidgaaGreatDoorSrvF
namespace Go.Proofs.YtagmldkcogidgaaGreatDoor
open Go.RowKit Pgp
set_option maxRecDepth 100000

theorem made_any {w : World} (hT : Tab w) : Calls Tryz.prog 5 #[.int .i64 8] w fun e w' => ∃ D S sv p st, e = .returned (.tuple #[.pointer (some ⟨D, 0, none⟩), .pointer (some ⟨sv, 0, none⟩)]) ∧ Dk w.heap.size w' D S disk0 (.slice none 0 0) [] 4 ∧ Sv w' sv D p st ∧ Below w.heap.size w w' := by
  have cN := new_any w
  have hp := hT.pos
  have HT := Lib.hid (And.intro hT hp)
  clear hT hp
  go_enter Tryz.func5, Tryz.ntmps5
  go_wp2_with (first
    | (go_at_call 7; go_must (refine cN.mono ?_); rintro e w1 ⟨D, S, rfl, h1, hb1⟩; have H1 := Lib.hid (And.intro h1 hb1); clear h1 hb1)
    | (go_at_call 8; go_must (refine (sformat_any H1.out.1 (HT.out.1.below HT.out.2 H1.out.2) HT.out.2 H1.out.2.size).mono ?_); rintro e w2 ⟨rfl, h2, hz2⟩; have H2 := Lib.hid (And.intro h2 hz2); clear h2 hz2)
    | (go_at_call 9; go_must (refine (sopen_any H2.out.1 (H2.out.2.tab (HT.out.1.below HT.out.2 H1.out.2) (by have := H1.out.1.lo; have := HT.out.2; omega) (by have := H1.out.1.lo; have := HT.out.2; omega) (fun e => by cases e)) (Nat.le_trans H1.out.2.size H2.out.2.size)).mono ?_); rintro e w3 ⟨sv, p, st, rfl, h3, hb3⟩))
  go_returns
  have hb2 : Below w.heap.size w1 w2 := H2.out.2.below H1.out.2.size H1.out.1.lo.1 H1.out.1.lo.2 (fun g e => by cases e)
  have hb02 := H1.out.2.trans hb2
  exact ⟨D, S, sv, p, st, rfl, H2.out.1.below hb3, h3, hb02.trans (hb3.mono hb02.size)⟩

theorem speaks_any {w : World} (hT : Tab w) : Calls Tryz.prog 4 #[] w fun e w' => e = .returned (.bool true) ∧ Below w.heap.size w w' := by
  have cM := made_any hT
  clear hT
  go_enter Tryz.func4, Tryz.ntmps4
  go_wp2_with (first
    | (go_at_call 5; go_must (refine cM.mono ?_); rintro e w1 ⟨D, S, sv, p, st, rfl, h1, h2, hb1⟩; have H1 := Lib.hid (And.intro h1 (And.intro h2 hb1)); clear h1 h2 hb1)
    | (go_at_call 6; go_must (refine (do_7 (b := w1.heap.size) (H1.out.1.below ((Below.refl _ w1).alloc (Nat.le_refl _) _)) (H1.out.2.1.below ((Below.refl _ w1).alloc (Nat.le_refl _) _)) (by simp)).mono ?_); rintro e w2 ⟨v, rfl, h3, hb3⟩; obtain ⟨A, c, rfl, hr, hc⟩ := own_list (l := [0, 7, 0, 0, 0, 0]) h3; have hs : (convert 29 9 (.slice A 6 c)).run Tryz.prog w2 = .ok (.string ⟨#[0, 7, 0, 0, 0, 0]⟩) w2 := str_rd hr c; have H3 := Lib.hid hb3; clear h3 hr hc hb3))
  go_ret
  have hb := H1.out.2.2
  have ha : Below w.heap.size w (w1.alloc (.cells #[.int .u8 7] 5)) := hb.alloc hb.size _
  exact ⟨rfl, ha.trans (H3.out.mono ha.size)⟩
end Go.Proofs.YtagmldkcogidgaaGreatDoor
