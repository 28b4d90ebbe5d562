/- pager.seal: a super made safe. -/
import Derived.Test.YtagmldkcogidgaaGreatDoorDiskD
namespace Go.Proofs.YtagmldkcogidgaaGreatDoor
open Go.RowKit Pgp
set_option maxRecDepth 100000

theorem Fz.trans {D S : Nat} {R R' : Option Nat} {w w1 w2 : World} (h1 : Fz D S R w w1) (h2 : Fz D S R' w1 w2) (hR : ∀ g, R' = some g → R = some g ∨ w.heap.size ≤ g) : Fz D S R w w2 :=
  ⟨h2.os.trans h1.os, h2.tape.trans h1.tape, h2.output.trans h1.output, Nat.le_trans h1.size h2.size, fun k hk hD hS hk2 =>
    (h2.block k (Nat.lt_of_lt_of_le hk h1.size) hD hS (fun e => (hR k e.symm).elim (fun e2 => hk2 e2.symm) (fun h => by omega))).trans (h1.block k hk hD hS hk2)⟩
theorem Fz.of_below {D S : Nat} {R : Option Nat} {w w1 : World} (h : Below w.heap.size w w1) : Fz D S R w w1 := ⟨h.os, h.tape, h.output, h.size, fun k hk _ _ _ => h.block k hk⟩
theorem Fz.cell {D S : Nat} {R : Option Nat} {w w1 : World} (h : Fz D S R w w1) {p : Addr} (hp : p.block < w.heap.size) (hD : p.block ≠ D) (hS : p.block ≠ S) (hR : some p.block ≠ R) : w1.cell? p = w.cell? p := World.cell?_of_block (w := w) (h.block p.block hp hD hS hR)
theorem Fz.tab {D S : Nat} {R : Option Nat} {w w1 : World} (h : Fz D S R w w1) (hT : Tab w) (hD : 0 < D) (hS : 0 < S) (hR : some 0 ≠ R) : Tab w1 := fun i hi => (h.cell (p := ⟨0, i, none⟩) hT.pos (by show 0 ≠ D; omega) (by show 0 ≠ S; omega) hR).trans (hT i hi)
theorem Fz.below {D S : Nat} {R : Option Nat} {w w1 : World} (h : Fz D S R w w1) {base : Nat} (hb : base ≤ w.heap.size) (hD : base ≤ D) (hS : base ≤ S) (hR : ∀ g, R = some g → base ≤ g) : Below base w w1 :=
  ⟨h.os, h.tape, h.output, h.size, fun k hk => h.block k (by omega) (by omega) (by omega) (fun e => by have := hR k e.symm; omega)⟩
theorem Dk.form {base : Nat} {w : World} {D S : Nat} {L : List UInt8} {V : Value} {ws : List (Nat × List UInt8)} {k : Nat} (h : Dk base w D S L V ws k) (hn : 0 < ws.length) : ∃ g cap, V = .slice (some ⟨g, 0, none⟩) ws.length cap ∧ V.ownBlock = some g := by
  rcases h.hv.2 with ⟨_, h0⟩ | ⟨g, cap, cur, rfl, _⟩
  · omega
  · exact ⟨g, cap, rfl, rfl⟩

set_option maxHeartbeats 3200000 in
theorem pseal_any {base : Nat} {w : World} {D S : Nat} {L : List UInt8} {k : Nat} (h : Dk base w D S L (.slice none 0 0) [] k) (r : List Nat) (hr : r.length = 27) (hrl : ∀ x ∈ r, x < 4294967296) (hT : Tab w) (hb0 : 0 < base) (hb : base ≤ w.heap.size) (hk : k < 800) :
    Calls Tryz.prog 36 #[.pointer (some ⟨D, 0, none⟩), .agg (SV 1 r).toArray] w fun e w' => e = .returned (.int .i64 0) ∧ Dk base w' D S (ap1 L (1, spage 1 r)) (.slice none 0 0) [] (k + 1) ∧ Fz D S none w w' := by
  have hS0 : Sup (w.alloc (.cells (SV 1 r).toArray 104)) w.heap.size 1 r := by unfold Sup; exact heap_alloc_last w _
  have c0 := hS0.at0
  have hrg := hS0.range56
  have hi : (Tryz.prog.info? 104).map (·.size) = some (SV 1 r).length := by rw [size56, SV_len _ _ hr]
  have hu := Tryz.underlying104
  have hba : Below w.heap.size w (w.alloc (.cells (SV 1 r).toArray 104)) := (Below.refl _ w).alloc (Nat.le_refl _) _
  have hD1 := h.below hba
  have hsz : (w.alloc (.cells (SV 1 r).toArray 104)).heap.size = w.heap.size + 1 := by simp
  have HH := Lib.hid h
  have cW := fun (V : World) (hv : Below (w.heap.size + 1) (w.alloc (.cells (SV 1 r).toArray 104)) V) => write_any 1 r V (by decide) hr hrl ((hT.below hT.pos hba).below (by omega) hv)
  have cD := fun (V : World) (hv : Below (w.heap.size + 1) (w.alloc (.cells (SV 1 r).toArray 104)) V) (g : Nat) (hg : Blk V g (spage 1 r)) (hgn : w.heap.size + 1 ≤ g) =>
    dwrite (hD1.below (by rw [hsz]; exact hv)) 1 (by decide) g 0 512 (spage 1 r) (spage_len 1 r hr) (fun j v hj => by
      obtain ⟨hj2, rfl⟩ := List.getElem?_eq_some_iff.1 hj
      rw [List.length_map] at hj2
      rw [List.getElem_map, Nat.zero_add]
      exact hg.cell j hj2) (fun e => by cases e) (by have := h.lt.1; omega) (by omega) (by decide) (by have := hv.size; omega)
  have HB := Lib.hid (And.intro hba (And.intro hD1 hsz))
  clear hS0 hba hD1 h hT
  generalize hC : (SV 1 r) = C at *
  have HC := Lib.hid hC
  clear hC
  go_enter Tryz.func36, Tryz.ntmps36
  go_wp2_with fail
  generalize hW : w.alloc (.cells C.toArray 104) = W at *
  refine wp_region_held_drew (S := fun w' => w'.cell? ⟨w.heap.size, 0, none⟩ = some (.int .u64 1) ∧ w'.rangeAt w.heap.size 0 C) (by kernel_rfl) ?_ (fun hHeld => ?_)
  · exact ⟨c0, hrg⟩
  refine wpAnyH_take (i := 0) (oi := ⟨some 6, _, _, _, _, _⟩) (v := ?_) rfl (by kernel_rfl) (by kernel_rfl) (by kernel_rfl) (fun _ _ _ h => h) (Or.inl ⟨by rfl, ?_⟩) (by assumption) ?_
  rotate_left
  · (intro w hSw; (try dsimp only at hSw); go_simp)
    all_goals (with_reducible rfl)
  try simp only [Act.put, List.setIfInBounds_toArray, List.set_cons_zero, List.set_cons_succ]
  refine wpAnyH_take (i := 1) (oi := ⟨some 7, _, _, _, _, _⟩) (v := ?_) rfl (by kernel_rfl) (by kernel_rfl) (by kernel_rfl) (fun _ _ _ h => h) (Or.inl ⟨by rfl, ?_⟩) (by assumption) ?_
  rotate_left
  · (intro w hSw; (try dsimp only at hSw); go_simp)
    all_goals (with_reducible rfl)
  try simp only [Act.put, List.setIfInBounds_toArray, List.set_cons_zero, List.set_cons_succ]
  refine wpAnyH_take (i := 2) (oi := ⟨some 8, _, _, _, _, _⟩) (v := ?_) rfl (by kernel_rfl) (by kernel_rfl) (by kernel_rfl) (fun _ _ _ h => h) (Or.inl ⟨by rfl, ?_⟩) (by assumption) ?_
  rotate_left
  · (intro w hSw; (try dsimp only at hSw); go_simp)
    all_goals (with_reducible rfl)
  try simp only [Act.put, List.setIfInBounds_toArray, List.set_cons_zero, List.set_cons_succ]
  refine wpAnyH_take (i := 3) (oi := ⟨some 9, _, _, _, _, _⟩) (v := ?_) rfl (by kernel_rfl) (by kernel_rfl) (by kernel_rfl) (fun _ _ _ h => h) (Or.inl ⟨by rfl, ?_⟩) (by assumption) ?_
  rotate_left
  · (intro w hSw; (try dsimp only at hSw); go_simp)
    all_goals (with_reducible rfl)
  try simp only [Act.put, List.setIfInBounds_toArray, List.set_cons_zero, List.set_cons_succ]
  refine wpAnyH_take (i := 4) (oi := ⟨some 10, _, _, _, _, _⟩) (v := ?_) rfl (by kernel_rfl) (by kernel_rfl) (by kernel_rfl) (fun _ _ _ h => h) (Or.inl ⟨by rfl, ?_⟩) (by assumption) ?_
  rotate_left
  · (intro w hSw; (try dsimp only at hSw); go_simp)
    all_goals (with_reducible rfl)
  try simp only [Act.put, List.setIfInBounds_toArray, List.set_cons_zero, List.set_cons_succ]
  refine wpAnyH_take (i := 5) (oi := ⟨some 11, _, _, _, _, _⟩) (v := _) rfl (by kernel_rfl) (by kernel_rfl) (by kernel_rfl) (fun _ _ _ h => h) (yieldsIf_load_mid (by rfl) _ _ rfl _ _ rfl C _ (fun w' h => h.2) hu rfl hi) (by assumption) ?_
  try simp only [Act.put, List.setIfInBounds_toArray, List.set_cons_zero, List.set_cons_succ]
  refine wpAnyH_ready (rs := [6]) (by kernel_rfl) (by simp) ?_
  refine AllReadyH.cons (o := ⟨some 12, _, _, _, _, _⟩) rfl (fun K hK => ?_) AllReadyH.nil
  go_simp
  go_at_call 77
  refine (cW W.drew ((Below.refl _ W).drew)).mono ?_
  rintro e w3 ⟨g, rfl, hblk, hgn, hb3⟩
  have hb3' : Below (w.heap.size + 1) W w3 := ((Below.refl _ W).drew).trans (hb3.mono (by show w.heap.size + 1 ≤ W.heap.size; have := HB.out.2.2; omega))
  have hgn' : w.heap.size + 1 ≤ g := by have : W.heap.size ≤ g := hgn; have := HB.out.2.2; omega
  have cD3 := cD w3 hb3' g hblk hgn'
  have k1 := (hb3'.cell (p := ⟨w.heap.size, 0, none⟩) (Nat.lt_succ_self _)).trans c0
  have k2 : w3.rangeAt w.heap.size 0 C := fun j v hv => (hb3'.cell (p := ⟨w.heap.size, 0 + j, none⟩) (Nat.lt_succ_self _)).trans (hrg j v hv)
  go_wp2_with fail
  refine hK.out _ _ ?_ (fun hHeld => ?_)
  · exact ⟨k1, k2⟩
  clear hK K
  try simp only [Act.put, List.setIfInBounds_toArray, List.set_cons_zero, List.set_cons_succ]
  refine wpAnyH_ready (rs := [7]) (by kernel_rfl) (by simp) ?_
  refine AllReadyH.cons (o := ⟨some 13, _, _, _, _, _⟩) rfl (fun K hK => ?_) AllReadyH.nil
  go_simp
  go_at_call 31
  refine cD3.mono ?_
  rintro e w4 ⟨rfl, V', hD4, hz4, hv4⟩
  have hND : w.heap.size ≠ D := by have := HH.out.lt.1; omega
  have hNS : w.heap.size ≠ S := by have := HH.out.lt.2; omega
  have hN3 : w.heap.size < w3.heap.size := by have := hb3'.size; omega
  have m1 := (hz4.cell (p := ⟨w.heap.size, 0, none⟩) hN3 hND hNS (fun e => by cases e)).trans k1
  have m2 : w4.rangeAt w.heap.size 0 C := fun j v hv => (hz4.cell (p := ⟨w.heap.size, 0 + j, none⟩) hN3 hND hNS (fun e => by cases e)).trans (k2 j v hv)
  go_wp2_with fail
  refine hK.out _ _ ?_ (fun hHeld => ?_)
  · exact ⟨m1, m2⟩
  clear hK K
  try simp only [Act.put, List.setIfInBounds_toArray, List.set_cons_zero, List.set_cons_succ]
  refine wpAnyH_take (i := 8) (oi := ⟨some 5, _, _, _, _, _⟩) (v := ?_) rfl (by kernel_rfl) (by kernel_rfl) (by kernel_rfl) (fun _ _ _ h => h) (Or.inl ⟨by rfl, ?_⟩) (by assumption) ?_
  rotate_left
  · (intro w hSw; (try dsimp only at hSw); go_simp)
    all_goals (with_reducible rfl)
  try simp only [Act.put, List.setIfInBounds_toArray, List.set_cons_zero, List.set_cons_succ]
  refine wpAnyH_done (by kernel_rfl) ?_ _
  obtain ⟨g', cap', hV', hO'⟩ := hD4.form (Nat.lt_succ_self 0)
  have cS := dsync hD4 g' cap' hV'
  have HZ := Lib.hid (And.intro hb3' (And.intro hz4 (And.intro hv4 hO')))
  clear k1 k2 m1 m2 hrg c0 hi hblk hgn hgn' hb3 hb3' hz4 hv4 hO' hHeld hND hNS hN3 hu hD4 hV' cD3
  go_wp2_with (go_at_call 32; refine cS.mono ?_; rintro e w5 ⟨rfl, hD5, hz5⟩)
  go_ret
  have hz4 := HZ.out.2.1
  have hb3' := HZ.out.1
  refine ⟨rfl, hD5, ?_⟩
  have z1 : Fz D S none w w3 := ⟨hb3'.os.trans HB.out.1.os, hb3'.tape.trans HB.out.1.tape, hb3'.output.trans HB.out.1.output, by have := hb3'.size; omega, fun j hj _ _ _ => (hb3'.block j (by omega)).trans (HB.out.1.block j hj)⟩
  refine (z1.trans hz4 (fun g e => by cases e)).trans hz5 (fun g e => ?_)
  rw [HZ.out.2.2.2] at e
  rcases HZ.out.2.2.1 with e2 | e2
  · rw [HZ.out.2.2.2] at e2; cases e2
  · rw [HZ.out.2.2.2] at e2
    right
    injection e with e
    injection e2 with e2
    have := hb3'.size
    omega
end Go.Proofs.YtagmldkcogidgaaGreatDoor
