/- The chapter's example of chains. -/
import Derived.Test.YtpecleflhhbecaaRun
namespace Go.Proofs.Ytpecleflhhbecaa
open Go.RowKit Go.Shelf Chn

/-- closures that write nothing -/
theorem stab_below (w : World) : Stab w.heap.size (fun _ W => Below w.heap.size w W) := fun _ _ _ _ hs hg hr => hs.grown hg hs.size (fun r e => (hr r e).1)
theorem stab_mono {n m : Nat} {G : List Int → World → Prop} (h : Stab n G) (hm : n ≤ m) : Stab m G := fun s A B row hs hg hr => h s A B row hs hg (fun r e => ⟨by have := (hr r e).1; omega, (hr r e).2⟩)
def VF (i : Nat) : Nat := if i = 1 then 16 else 0
theorem fix1 (i : Nat) (w : World) (hi : i < 1000) : Calls Try.prog 41 #[.int .i64 (i : Int)] w fun e w' => e = .returned (.int .u32 (VF i : Int)) ∧ w = w' := by
  by_cases h : i = 1
  · subst h
    go_enter Try.func41, Try.ntmps41
    go_wp2
    go_ret
    exact ⟨rfl, rfl⟩
  · have h1 : ((i : Int) == 1) = false := beq_eq_false_iff_ne.2 (by omega)
    have HV := Lib.hid (show VF i = 0 from if_neg h)
    clear h
    go_enter Try.func41, Try.ntmps41
    go_wp2
    go_ret
    exact ⟨by rw [HV.out]; rfl, rfl⟩
theorem fix2 (w : World) : Calls Try.prog 42 #[] w fun e w' => (∃ v, e = .returned v) ∧ w = w' := by
  go_enter Try.func42, Try.ntmps42
  go_wp2
  go_end0
  exact ⟨⟨_, rfl⟩, rfl⟩
theorem fix3 (w : World) : Calls Try.prog 43 #[] w fun e w' => (∃ v, e = .returned v) ∧ w = w' := by
  go_enter Try.func43, Try.ntmps43
  go_wp2
  go_end0
  exact ⟨⟨_, rfl⟩, rfl⟩
theorem tries41 (G : List Int → World → Prop) (hG : ∀ s s' W, G s W → G s' W) : Tries 41 #[] VF 1000 G where
  lt i := by unfold VF; split <;> decide
  ent := enters_of Try.func41 (by kernel_rfl) rfl
  run i s A hi _ hg := (fix1 i A hi).mono fun e B h => by obtain ⟨rfl, rfl⟩ := h; exact ⟨rfl, hG _ _ _ hg, Clk.refl _⟩
theorem does42 (G : List Int → World → Prop) (z : Int) (hG : ∀ s s' W, G s W → G s' W) : Does 42 #[] z G where
  ent := enters_of Try.func42 (by kernel_rfl) rfl
  run s A _ hg := (fix2 A).mono fun e B h => by obtain ⟨h1, rfl⟩ := h; exact ⟨h1, hG _ _ _ hg, Clk.refl _⟩
theorem does43 (G : List Int → World → Prop) (z : Int) (hG : ∀ s s' W, G s W → G s' W) : Does 43 #[] z G where
  ent := enters_of Try.func43 (by kernel_rfl) rfl
  run s A _ hg := (fix3 A).mono fun e B h => by obtain ⟨h1, rfl⟩ := h; exact ⟨h1, hG _ _ _ hg, Clk.refl _⟩
theorem Tries.le {ft : FuncId} {ct : Array Value} {V : Nat → Nat} {N M : Nat} {G : List Int → World → Prop} (h : Tries ft ct V N G) (hm : M ≤ N) : Tries ft ct V M G := ⟨h.lt, h.ent, fun i s A hi hs hg => h.run i s A (by omega) hs hg⟩

def ttf : List Bool := [true, true, false]
theorem chs_ttf : chs 0 0 ttf = [⟨0, 3, false⟩] := rfl
theorem res_ttf : Chn.results VF (chs 0 0 ttf) = [(0, 1), (1, 16), (2, 1)] := rfl

set_option maxHeartbeats 1000000 in
theorem fixed21_any (w : World) : Calls Try.prog 16 #[] w fun e w' => e = .returned (.bool true) ∧ Below w.heap.size w w' := by
  have hb0 : Below w.heap.size w (w.alloc (.cells #[.bool true, .bool true, .bool false] 4)) := (Below.refl _ _).alloc (Nat.le_refl _) _
  have hr0 : Rd (w.alloc (.cells #[.bool true, .bool true, .bool false] 4)) (some ⟨w.heap.size, 0, none⟩) (ttf.map bo) := Rd.fresh _ _ _ _
  have c17 := split_any (some ⟨w.heap.size, 0, none⟩) 3 ttf _ (by decide) hr0
  rw [chs_ttf] at c17
  have HB0 := Lib.hid hb0
  clear hb0 hr0
  go_enter Try.func16, Try.ntmps16
  go_wp2_with fail
  refine c17.mono ?_
  rintro e W1 ⟨v, rfl, ho, hb1⟩
  obtain ⟨g, cap, rfl⟩ := ownsRow_succ ho
  have HB1 := Lib.hid (HB0.out.trans (hb1.mono HB0.out.size))
  have HO := Lib.hid ho
  clear ho hb1 c17
  have hbn : Below W1.heap.size W1 (W1.alloc (.cells #[.bool true, .bool true, .bool false] 4)) := (Below.refl _ _).alloc (Nat.le_refl _) _
  have hr1 : RdO (fun b => ∃ o, (W1.alloc (.cells #[.bool true, .bool true, .bool false] 4)).heap[b]? = some o ∧ Nc o) (W1.alloc (.cells #[.bool true, .bool true, .bool false] 4)) (some ⟨W1.heap.size, 0, none⟩) (ttf.map bo) := fun h0 => by
    obtain ⟨b, o, e, hlt, hc⟩ := Rd.fresh W1 #[.bool true, .bool true, .bool false] 4 (0, 0) h0
    injection e with e
    injection e with e1 e2
    subst e1 e2
    exact ⟨W1.heap.size, 0, rfl, ⟨_, World.alloc_heap_new W1 _, nc_cells (by decide) (by decide)⟩, hlt, hc⟩
  have c20 := run_any (V := VF) (G := fun _ W => Below w.heap.size w W) (some ⟨W1.heap.size, 0, none⟩) 3 ttf (W1.alloc (.cells #[.bool true, .bool true, .bool false] 4)) (by decide)
    ((tries41 _ (fun _ _ _ h => h)).le (by decide)) (does42 _ _ (fun _ _ _ h => h)) (does43 _ _ (fun _ _ _ h => h)) (stab_mono (stab_below w) (by have := HB1.out.size; have := hbn.size; omega)) (HB1.out.trans (hbn.mono HB1.out.size)) hr1
  rw [res_ttf] at c20
  have HO2 := Lib.hid (row_clk HO.out (Clk.below hbn) (by decide) (by decide))
  clear hr1 hbn
  go_wp2_with fail
  refine c20.mono ?_
  rintro e W3 ⟨v, rfl, ho3, hb3, hc3⟩
  obtain ⟨g2, cap2, rfl⟩ := ownsRow_succ ho3
  have ho1 := row_clk HO2.out hc3 (by decide) (by decide)
  have k0 := World.ownsRow.cells ho1 (g := g) rfl 0 (.int .i64 0) rfl
  have k1 := World.ownsRow.cells ho1 (g := g) rfl 1 (.int .i64 3) rfl
  have k2 := World.ownsRow.cells ho1 (g := g) rfl 2 (.bool false) rfl
  have r1 := World.ownsRow.cells ho3 (g := g2) rfl 1 (.int .u32 1) rfl
  have r3 := World.ownsRow.cells ho3 (g := g2) rfl 3 (.int .u32 16) rfl
  have r4 := World.ownsRow.cells ho3 (g := g2) rfl 4 (.int .u32 2) rfl
  have r5 := World.ownsRow.cells ho3 (g := g2) rfl 5 (.int .u32 1) rfl
  rw [addAt, Nat.zero_add] at k0 k1 k2 r1 r3 r4 r5
  have HB3 := Lib.hid hb3
  clear ho1 ho3 hb3 hc3 c20
  go_wp2
  go_ret
  exact ⟨rfl, HB3.out⟩
end Go.Proofs.Ytpecleflhhbecaa
