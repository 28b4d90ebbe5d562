/- pager.spread: the list of a disk of eight blocks. -/
import Derived.Test.YtagmldkcogidgaaGreatDoorPagA
import Derived.Test.YtagmldkcogidgaaGreatDoorLBodies
namespace Go.Proofs.YtagmldkcogidgaaGreatDoor
open Go.RowKit Pgp
set_option maxRecDepth 100000

def lnums : List Nat := [3, 4, 5, 6, 7]
/-- what page 2 says -/
def lbody : List UInt8 := Lip.body 0 lnums
theorem lbody_len : lbody.length = 26 := by decide
theorem rd_of_l {w : World} {A : Option Addr} {l : List UInt8} (h : L.Rd w A (l.map L.b8)) : Rd w A ⟨l.toArray⟩ := fun h0 => by
  have hs : (⟨l.toArray⟩ : ByteArray).size = l.length := by simp [ByteArray.size]
  rw [hs] at h0
  obtain ⟨b, o, e, hlt, hc⟩ := h (by rw [List.length_map]; exact h0)
  refine ⟨b, o, e, hlt, fun i hi => ?_⟩
  rw [hs] at hi
  have := hc i (L.b8 l[i]) (by rw [List.getElem?_map, List.getElem?_eq_getElem hi]; rfl)
  exact this

set_option maxHeartbeats 3200000 in
theorem spread_any {base : Nat} {w : World} {D S : Nat} {Lb : List UInt8} {k : Nat} (h : Dk base w D S Lb (.slice none 0 0) [] k) (A B : Option Addr) (c d : Nat) (hA : L.Rd w A (lnums.map L.u32v)) (hB : L.Rd w B ([2].map L.u32v)) (hc : 5 ≤ c)
    (hT : Tab w) (hb0 : 0 < base) (hb : base ≤ w.heap.size) (hk : k < 800) :
    Calls Tryz.prog 35 #[.pointer (some ⟨D, 0, none⟩), .slice A 5 c, .slice B 1 d] w fun e w' => e = .returned (.int .i64 0) ∧ Dk base w' D S (ap1 Lb (2, pseal 2 2 lbody)) (.slice none 0 0) [] (k + 1) ∧ Fz D S none w w' := by
  have cB := L.bodies_any A B lnums [2] c d w hA hB hc (by decide) (by decide) (by decide) (by decide)
  obtain ⟨bb, ob, rfl, hbl, hcb⟩ := hB (by decide)
  have p0 := hcb 0 (.int .u32 2) rfl
  rw [Nat.add_zero] at p0
  have HH := Lib.hid h
  have HT := Lib.hid hT
  clear hcb hB hA h hT
  go_enter Tryz.func35, Tryz.ntmps35
  go_wp2_with fail
  refine cB.mono ?_
  rintro e w1 ⟨hb1, ⟨_, ov, vs, rfl, hov, hbs⟩ | ⟨hf, _⟩⟩
  · obtain ⟨v0, rfl⟩ : ∃ v0, vs = [v0] := by
      have hl := hbs.1
      match vs, hl with
      | [v0], _ => exact ⟨v0, rfl⟩
    obtain ⟨l0, hl0, hv0⟩ := hbs.2 0 v0 rfl
    have hl0 : lbody = l0 := Option.some.inj hl0
    subst hl0
    obtain ⟨Ao, co, rfl, hro, _, _⟩ := hov.form
    obtain ⟨go, oo, rfl, hlo, hco⟩ := hro (by simp)
    have q0 := hco 0 v0 rfl
    rw [Nat.add_zero] at q0
    obtain ⟨Av, cv, hv, hrv, _, _⟩ := hv0.form
    rw [List.length_map, lbody_len] at hv
    subst hv
    have p1 := (hb1.cell (p := ⟨bb, ob, none⟩) hbl).trans p0
    have hT1 := HT.out.below HT.out.pos hb1
    have hD1 := HH.out.below hb1
    have cS := seal_any 2 2 Av lbody cv w1 (by decide) (by decide) (rd_of_l hrv) hT1
    rw [lbody_len] at cS
    have hlD := HH.out.lt
    have HB := Lib.hid (And.intro hb1 (And.intro hT1 (And.intro hD1 hlD)))
    have hsz1 := hb1.size
    have hbl1 : bb < w1.heap.size := by omega
    clear hov hbs hco hro hv0 hrv hb1 hT1 hD1 hlD cB
    have hlen1 : ([.slice Av 26 cv] : List Value).length = 1 := rfl
    go_wp2_with fail
    refine wp_loop_rounds 2 ?_
    rw [rounds_succ]
    go_wp2_with (go_at_call 76; go_must (refine cS.mono ?_); rintro e w2 ⟨g, rfl, hblk, hgn, hb2⟩; have p2 := (hb2.cell (p := ⟨bb, ob, none⟩) hbl1).trans p1)
    have cD := dwrite (HB.out.2.2.1.below hb2) 2 (by decide) g 0 512 (pseal 2 2 lbody) (seal_len _ _ _ (by decide)) (fun j v hj => by
      obtain ⟨hj2, rfl⟩ := List.getElem?_eq_some_iff.1 hj
      rw [List.length_map] at hj2
      rw [List.getElem_map, Nat.zero_add]
      exact hblk.cell j hj2) (fun e => by cases e) (by have := HB.out.2.2.2.1; omega) (by omega) (by decide) (by have := hb2.size; omega)
    clear hblk p1 p2 q0 p0
    go_wp2_with (go_at_call 31; go_must (refine cD.mono ?_); rintro e w3 ⟨rfl, V', hD3, hz3, hv3⟩)
    rw [rounds_succ]
    obtain ⟨g', cap', hV', hO'⟩ := hD3.form (Nat.lt_succ_self 0)
    have cY := dsync hD3 g' cap' hV'
    have HZ := Lib.hid (And.intro hb2 (And.intro hz3 (And.intro hv3 hO')))
    clear cS cD hb2 hz3 hv3 hO' hD3 hV'
    go_wp2_with (go_at_call 32; go_must (refine cY.mono ?_); rintro e w4 ⟨rfl, hD4, hz4⟩)
    go_ret
    obtain ⟨hb2, hz3, hv3, hO'⟩ := HZ.out
    refine ⟨rfl, hD4, ?_⟩
    refine (((Fz.of_below (D := D) (S := S) (R := none) HB.out.1).trans (Fz.of_below (R := none) hb2) (fun g e => by cases e)).trans hz3 (fun g e => by cases e)).trans hz4 (fun g e => ?_)
    rw [hO'] at e
    rcases hv3 with e2 | e2
    · rw [hO'] at e2; cases e2
    · rw [hO'] at e2
      right
      injection e with e
      injection e2 with e2
      have := hb2.size
      omega
  · exact absurd hf (by decide)
end Go.Proofs.YtagmldkcogidgaaGreatDoor
