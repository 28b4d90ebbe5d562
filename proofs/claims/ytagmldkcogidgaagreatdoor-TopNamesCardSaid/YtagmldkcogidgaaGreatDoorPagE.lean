/- (*pager.Pager).load on the formatted disk. -/
import Derived.Test.YtagmldkcogidgaaGreatDoorPagC
import Derived.Test.YtagmldkcogidgaaGreatDoorMap
namespace Go.Proofs.YtagmldkcogidgaaGreatDoor
open Go.RowKit Pgp
set_option maxRecDepth 100000

def pcells (D : Nat) (VL VN : Value) (turn : Int) (WK : List Value) : List Value := .pointer (some ⟨D, 0, none⟩) :: (SV 1 r0 ++ (VL :: VN :: .int .i64 turn :: .bool false :: WK))
/-- The pager p of the disk D, that has read the formatted disk's super. -/
def Pg (w : World) (p D : Nat) (VL VN : Value) (turn : Int) (WK : List Value) : Prop := w.heap[p]? = some (.cells (pcells D VL VN turn WK).toArray 112 (0, 0))
theorem Pg.at {w : World} {p D : Nat} {VL VN : Value} {turn : Int} {WK : List Value} (h : Pg w p D VL VN turn WK) (j : Nat) (v : Value) (hv : (pcells D VL VN turn WK)[j]? = some v) : w.cell? ⟨p, j, none⟩ = some v :=
  (cell_of_row _ _ j _ _ _ h).trans (by simpa using hv)
theorem Pg.free {w : World} {p D : Nat} {VL VN : Value} {turn : Int} {WK : List Value} (h : Pg w p D VL VN turn WK) (j : Nat) : w.frozen? ⟨p, j, none⟩ = false := by
  unfold Pg at h; simp [World.frozen?, h]
theorem Pg.lt {w : World} {p D : Nat} {VL VN : Value} {turn : Int} {WK : List Value} (h : Pg w p D VL VN turn WK) : p < w.heap.size := (Array.getElem?_eq_some_iff.1 h).1
theorem Pg.block {w w' : World} {p D : Nat} {VL VN : Value} {turn : Int} {WK : List Value} (h : Pg w p D VL VN turn WK) (hb : w'.heap[p]? = w.heap[p]?) : Pg w' p D VL VN turn WK := hb.trans h

theorem heap_setCell_list {w : World} {b j : Nat} {C : List Value} {t : TypeId} (h : w.heap[b]? = some (.cells C.toArray t (0, 0))) (v : Value) : (w.setCell ⟨b, j, none⟩ v).heap[b]? = some (.cells (C.set j v).toArray t (0, 0)) := by
  simp [World.setCell, Array.getElem?_modify, h]
theorem Pg.set29 {w : World} {p D : Nat} {VL VN : Value} {turn : Int} {WK : List Value} (h : Pg w p D VL VN turn WK) (v : Value) : Pg (w.setCell ⟨p, 29, none⟩ v) p D v VN turn WK := heap_setCell_list h v
theorem Pg.set30 {w : World} {p D : Nat} {VL VN : Value} {turn : Int} {WK : List Value} (h : Pg w p D VL VN turn WK) (v : Value) : Pg (w.setCell ⟨p, 30, none⟩ v) p D VL v turn WK := heap_setCell_list h v
theorem Pg.set31 {w : World} {p D : Nat} {VL VN : Value} {turn : Int} {WK : List Value} (h : Pg w p D VL VN turn WK) (t : Int) : Pg (w.setCell ⟨p, 31, none⟩ (.int .i64 t)) p D VL VN t WK := heap_setCell_list h _
/-- page 2 is opened -/
theorem open2 (A : Option Addr) (c : Nat) (w : World) (hA : Rd w A ⟨(pseal 2 2 lbody).toArray⟩) (hc : 512 ≤ c) (hT : Tab w) :
    Calls Tryz.prog 80 #[.int .u32 2, .slice A 512 c] w fun e w' => ∃ A' c', e = .returned (.tuple #[.int .u8 2, .slice A' 26 c', .int .i64 0]) ∧ Rd w' A' ⟨lbody.toArray⟩ ∧ 26 ≤ c' ∧ Below w.heap.size w w' := by
  have hl : (pseal 2 2 lbody).length = 512 := seal_len _ _ _ (by decide)
  have hs := open_seal 2 2 lbody (by decide) (by decide)
  have h := open_any 2 A (pseal 2 2 lbody) c w (by decide) hA (by rw [hl]; exact hc) (by rw [hl]; decide) hT
  rw [hl] at h
  refine h.mono ?_
  rintro e w' ⟨hb, ⟨_, v, rfl, hov⟩ | ⟨h0, _⟩⟩
  · rw [hs.2.2] at hov
    obtain ⟨A', c', rfl, hr, hc', _⟩ := hov.form
    have e26 : (⟨lbody.toArray⟩ : ByteArray).size = 26 := by decide
    rw [e26] at hc' ⊢
    rw [hs.2.1]
    exact ⟨A', c', rfl, hr, hc', hb⟩
  · exact absurd hs.1 h0
/-- what it says is read -/
theorem parse2 (A : Option Addr) (c : Nat) (w : World) (hA : Rd w A ⟨lbody.toArray⟩) (hc : 26 ≤ c) :
    Calls Tryz.prog 81 #[.slice A 26 c] w fun e w' => ∃ A' c', e = .returned (.tuple #[.int .u32 0, .slice A' 5 c', .int .i64 0]) ∧ L.Rd w' A' (lnums.map L.u32v) ∧ 5 ≤ c' ∧ Below w.heap.size w w' := by
  have hp := Lip.parse_body 0 lnums (by decide) (by decide) (by decide)
  have hg := Lip.pgood_body 0 lnums (by decide) (by decide) (by decide) (by decide) (by decide)
  have hrd : L.Rd w A (lbody.map L.b8) := fun h0 => by
    obtain ⟨b, o, e, hlt, hcl⟩ := hA (by decide)
    refine ⟨b, o, e, hlt, fun i v hi => ?_⟩
    obtain ⟨hi2, rfl⟩ := List.getElem?_eq_some_iff.1 hi
    rw [List.length_map] at hi2
    rw [List.getElem_map]
    exact hcl i (by show i < lbody.length; exact hi2)
  have h := L.parse_any A lbody c w hrd (by rw [lbody_len]; exact hc) (by decide)
  rw [lbody_len] at h
  refine h.mono ?_
  rintro e w' ⟨hb, ⟨_, v, rfl, hov⟩ | ⟨h0, _⟩⟩
  · have e1 : Lip.pnext lbody = 0 := hp.1
    have e2 : Lip.pnum lbody (Lip.pn lbody) = lnums := by
      have : Lip.pn lbody = lnums.length := hp.2.1
      rw [this]; exact hp.2.2.1
    rw [e2] at hov
    rw [e1]
    obtain ⟨A', c', rfl, hr, hc', _⟩ := hov.form
    exact ⟨A', c', rfl, hr, hc', hb⟩
  · rw [show Lip.pgood lbody = true from hg] at h0; cases h0
end Go.Proofs.YtagmldkcogidgaaGreatDoor
